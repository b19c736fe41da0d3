/-
  ReadyAll's law.
-/
import Derived.Test.YthabdpaipgclpaaRo
import Derived.Test.YthabdpaipgclpaaProg
namespace Go.Proofs.Ythabdpaipgclpaa
open Go Go.AM Go.Proofs
def TA0 : Tab := (11, .heap newR_s) :: (12, .heap open_s) :: (13, .heap acc_s) :: (14, .read chkR_s) :: (15, .pure awk_s) :: TR0
theorem TA0_ok : TabOk Try.prog gl TA0 := .cons newR_ok (.cons open_ok (.cons acc_ok (.cons chkR_ok (.cons awk_ok TR0_ok))))
-- numbers from a base on
def plS (b : Int) (n : Nat) : List Int := (List.range n).map fun (j : Nat) => b + (j : Int)
theorem plS_succ (b : Int) (n : Nat) : plS b (n + 1) = plS b n ++ [b + (n : Int)] := by unfold plS; rw [List.range_succ, List.map_append]; rfl
theorem plS_len (b : Int) (n : Nat) : (plS b n).length = n := by simp [plS]
theorem plS_get {b : Int} {n k : Nat} (h : k < n) : (plS b n).getD k 0 = b + (k : Int) := by
  unfold plS; rw [List.getD_eq_getElem?_getD, List.getElem?_map, List.getElem?_range h]; rfl
theorem plS_nodup (b : Int) (n : Nat) : (plS b n).Nodup := by
  unfold plS
  refine List.Pairwise.map _ (fun a c h e => h ?_) List.nodup_range
  have e : b + (a : Int) = b + (c : Int) := e
  omega
theorem mem_plS {b x : Int} {n : Nat} (h : x ∈ plS b n) : b ≤ x ∧ x < b + n := by
  unfold plS at h
  obtain ⟨j, hj, rfl⟩ := List.mem_map.1 h
  have := List.mem_range.1 hj
  omega
theorem plA_red (many n : Int) (ys : List Int) (i : Nat) (R : Ex → List PV → Heap → Prop) : (br (decide ((↑i : Int) < n)) (AppL [] [[PV.int IntKind.u32 (IntKind.wrap IntKind.u32 (wI (10 + (↑i : Int))))]] 1 4 ∧ (List.all [PV.int IntKind.u32 (IntKind.wrap IntKind.u32 (wI (10 + (↑i : Int))))] PV.one = true ∧ [[PV.int IntKind.u32 (IntKind.wrap IntKind.u32 (wI (10 + (↑i : Int))))]] ≠ []) ∧ R Ex.normal [PV.int IntKind.u8 many, PV.list (en1 IntKind.u8 ys) Tail.no, PV.bool false, PV.int IntKind.i64 n, PV.list [[PV.int IntKind.u32 (IntKind.wrap IntKind.u32 (wI (10 + (↑i : Int))))]] (Tail.tok 0), PV.int IntKind.i64 (wI ((↑i : Int) + 1))] [Ob.tok]) (R (Ex.exit 0) [PV.int IntKind.u8 many, PV.list (en1 IntKind.u8 ys) Tail.no, PV.bool false, PV.int IntKind.i64 n, PV.list [] Tail.exact, PV.int IntKind.i64 (↑i : Int)] [])) = wpc br Try.prog gl TA0 [] (fun o => match o.dst with | some 36 => 1 | _ => 0) (subOf [1, 1, 1, 1, 0, 1, 0] (bodyOf Try.f3)) [] (envS [0, 1, 4, 5, 6, 7] [.int .u8 many, .list (en1 .u8 ys) .no, .bool false, .int .i64 n, .list [] .exact, .int .i64 i]) [] (fun ex e H => R ex (List.map e [0, 1, 4, 5, 6, 7]) H) := by kernel_rfl
theorem plA_vc (many n : Int) (ys : List Int) (i : Nat) (R : Ex → List PV → Heap → Prop) (h : br (decide ((↑i : Int) < n)) (AppL [] [[PV.int IntKind.u32 (IntKind.wrap IntKind.u32 (wI (10 + (↑i : Int))))]] 1 4 ∧ (List.all [PV.int IntKind.u32 (IntKind.wrap IntKind.u32 (wI (10 + (↑i : Int))))] PV.one = true ∧ [[PV.int IntKind.u32 (IntKind.wrap IntKind.u32 (wI (10 + (↑i : Int))))]] ≠ []) ∧ R Ex.normal [PV.int IntKind.u8 many, PV.list (en1 IntKind.u8 ys) Tail.no, PV.bool false, PV.int IntKind.i64 n, PV.list [[PV.int IntKind.u32 (IntKind.wrap IntKind.u32 (wI (10 + (↑i : Int))))]] (Tail.tok 0), PV.int IntKind.i64 (wI ((↑i : Int) + 1))] [Ob.tok]) (R (Ex.exit 0) [PV.int IntKind.u8 many, PV.list (en1 IntKind.u8 ys) Tail.no, PV.bool false, PV.int IntKind.i64 n, PV.list [] Tail.exact, PV.int IntKind.i64 (↑i : Int)] [])) : Holds (wpc br Try.prog gl TA0 [] (fun o => match o.dst with | some 36 => 1 | _ => 0) (subOf [1, 1, 1, 1, 0, 1, 0] (bodyOf Try.f3)) [] (envS [0, 1, 4, 5, 6, 7] [.int .u8 many, .list (en1 .u8 ys) .no, .bool false, .int .i64 n, .list [] .exact, .int .i64 i]) [] (fun ex e H => R ex (List.map e [0, 1, 4, 5, 6, 7]) H)) := holds_of_eq (plA_red many n ys i R) h
theorem plB_red (many n : Int) (ys : List Int) (es : List (List PV)) (i : Nat) (R : Ex → List PV → Heap → Prop) : (br (decide ((↑i : Int) < n)) (AppL es [[PV.int IntKind.u32 (IntKind.wrap IntKind.u32 (wI (10 + (↑i : Int))))]] 1 4 ∧ (List.all [PV.int IntKind.u32 (IntKind.wrap IntKind.u32 (wI (10 + (↑i : Int))))] PV.one = true ∧ [[PV.int IntKind.u32 (IntKind.wrap IntKind.u32 (wI (10 + (↑i : Int))))]] ≠ []) ∧ R Ex.normal [PV.int IntKind.u8 many, PV.list (en1 IntKind.u8 ys) Tail.no, PV.bool false, PV.int IntKind.i64 n, PV.list (es ++ [[PV.int IntKind.u32 (IntKind.wrap IntKind.u32 (wI (10 + (↑i : Int))))]]) (Tail.tok 1), PV.int IntKind.i64 (wI ((↑i : Int) + 1))] [Ob.dead, Ob.tok]) (R (Ex.exit 0) [PV.int IntKind.u8 many, PV.list (en1 IntKind.u8 ys) Tail.no, PV.bool false, PV.int IntKind.i64 n, PV.list es (Tail.tok 0), PV.int IntKind.i64 (↑i : Int)] [Ob.tok])) = wpc br Try.prog gl TA0 [] (fun o => match o.dst with | some 36 => 1 | _ => 0) (subOf [1, 1, 1, 1, 0, 1, 0] (bodyOf Try.f3)) [] (envS [0, 1, 4, 5, 6, 7] [.int .u8 many, .list (en1 .u8 ys) .no, .bool false, .int .i64 n, .list es (.tok 0), .int .i64 i]) [.tok] (fun ex e H => R ex (List.map e [0, 1, 4, 5, 6, 7]) H) := by kernel_rfl
theorem plB_vc (many n : Int) (ys : List Int) (es : List (List PV)) (i : Nat) (R : Ex → List PV → Heap → Prop) (h : br (decide ((↑i : Int) < n)) (AppL es [[PV.int IntKind.u32 (IntKind.wrap IntKind.u32 (wI (10 + (↑i : Int))))]] 1 4 ∧ (List.all [PV.int IntKind.u32 (IntKind.wrap IntKind.u32 (wI (10 + (↑i : Int))))] PV.one = true ∧ [[PV.int IntKind.u32 (IntKind.wrap IntKind.u32 (wI (10 + (↑i : Int))))]] ≠ []) ∧ R Ex.normal [PV.int IntKind.u8 many, PV.list (en1 IntKind.u8 ys) Tail.no, PV.bool false, PV.int IntKind.i64 n, PV.list (es ++ [[PV.int IntKind.u32 (IntKind.wrap IntKind.u32 (wI (10 + (↑i : Int))))]]) (Tail.tok 1), PV.int IntKind.i64 (wI ((↑i : Int) + 1))] [Ob.dead, Ob.tok]) (R (Ex.exit 0) [PV.int IntKind.u8 many, PV.list (en1 IntKind.u8 ys) Tail.no, PV.bool false, PV.int IntKind.i64 n, PV.list es (Tail.tok 0), PV.int IntKind.i64 (↑i : Int)] [Ob.tok])) : Holds (wpc br Try.prog gl TA0 [] (fun o => match o.dst with | some 36 => 1 | _ => 0) (subOf [1, 1, 1, 1, 0, 1, 0] (bodyOf Try.f3)) [] (envS [0, 1, 4, 5, 6, 7] [.int .u8 many, .list (en1 .u8 ys) .no, .bool false, .int .i64 n, .list es (.tok 0), .int .i64 i]) [.tok] (fun ex e H => R ex (List.map e [0, 1, 4, 5, 6, 7]) H)) := holds_of_eq (plB_red many n ys es i R) h
def pl_l : LSp := fun e H Q => ∃ (many : Int) (ys : List Int) (n : Nat), n ≤ 8 ∧ SlIs (List.map e [0, 1, 4, 5, 6, 7]) [.int .u8 many, .list (en1 .u8 ys) .no, .bool false, .int .i64 n, .list [] .exact, .int .i64 0] ∧ HpIs H [] ∧ Q (.exit 0) (envS [0, 1, 4, 5, 6, 7] [.int .u8 many, .list (en1 .u8 ys) .no, .bool false, .int .i64 n, .list ((plS 10 n).map u1) .no, .int .i64 n]) [.dead]
theorem pl_l_ok : ∀ e H Q, pl_l e H Q → AW Try.prog gl Try.f3.ntmps (.loop (subOf [1, 1, 1, 1, 0, 1, 0] (bodyOf Try.f3))) Q e H := by
  rintro e H Q ⟨many, ys, n, hn, he, hH, hQ⟩
  have hH2 : H = [] := hH
  refine aw_growif (f := u1) (acc := fun i => plS 10 i) (I := fun i => i ≤ n) (m := fun i => n - i) (hn := fun o => match o.dst with | some 36 => 1 | _ => 0) gl_low (TA0_ok) (.nil _ _ _ _ _) [0, 1, 4, 5, 6, 7] (fun r i => [.int .u8 many, .list (en1 .u8 ys) .no, .bool false, .int .i64 n, r, .int .i64 i]) [] (0 : Nat)
    low_cells0 (fun _ _ a _ => low_u1 a) (fun es i k _ h => .same (.int _ _) (.same (low_list1 NT.no) (.same (.bool _) (.same (.int _ _) (.row h (.same (.int _ _) (.nil))))))) (fun i _ w hw => by
      simp only [List.mem_cons, List.not_mem_nil, or_false] at hw
      rcases hw with rfl | rfl | rfl | rfl | rfl | rfl
      · exact .int _ _
      · exact low_list1 NT.no
      · exact .bool _
      · exact .int _ _
      · exact low_list NT.exact (by simp)
      · exact .int _ _) (Nat.zero_le _) (by rfl) he hH2 ?_ ?_
  · intro i hi ha
    have hi' : i ≤ n := hi
    refine plA_vc many n ys i _ ?_
    simp only [br_if, dt]
    by_cases h : i < n
    · rw [if_pos (by omega)]
      have hs := plS_succ 10 i
      have e0 : u1 (IntKind.wrap .u32 (wI (10 + (i : Int)))) = u1 (10 + (i : Int)) := by rw [w_small (by omega) (by omega), wrap_u32 (by omega) (by omega)]
      have e1 : [[PV.int .u32 (IntKind.wrap .u32 (wI (10 + (i : Int))))]] = [u1 (10 + (i : Int))] := by rw [← e0]; rfl
      rw [e1]
      refine ⟨appL_map (l := []) (by_ := 4) u1_len (10 + (i : Int)) (by show (0 + 1) * 4 ≤ _; decide), one_row one_u1 (10 + (i : Int)), ?_⟩
      exact growQ_add (i + 1) (show n - (i + 1) < n - i by omega) h hs (ne_snoc _ _) [.tok] 0 rfl rfl (by simp) (by rw [ha]; rw [wI_succ h (by omega)]; rfl)
    · rw [if_neg (by omega)]
      have : i = n := by omega
      subst this
      rw [ha] at hQ
      exact growQ_end (.cons (.refl _) (.cons (.refl _) (.cons (.refl _) (.cons (.refl _) (.cons (.list _ _) (.cons (.refl _) (.nil))))))) (pad_dead _) hQ
  · intro i hi ha
    have hi' : i ≤ n := hi
    refine plB_vc many n ys ((plS 10 i).map u1) i _ ?_
    simp only [br_if, dt]
    by_cases h : i < n
    · rw [if_pos (by omega)]
      have hs := plS_succ 10 i
      have e0 : u1 (IntKind.wrap .u32 (wI (10 + (i : Int)))) = u1 (10 + (i : Int)) := by rw [w_small (by omega) (by omega), wrap_u32 (by omega) (by omega)]
      have e1 : [[PV.int .u32 (IntKind.wrap .u32 (wI (10 + (i : Int))))]] = [u1 (10 + (i : Int))] := by rw [← e0]; rfl
      rw [e1]
      refine ⟨appL_map u1_len _ _ (by rw [plS_len]; omega), one_row one_u1 (10 + (i : Int)), ?_⟩
      exact growQ_add (i + 1) (show n - (i + 1) < n - i by omega) h hs (ne_snoc _ _) [.dead, .tok] 1 rfl rfl (by simp) (by  rw [wI_succ h (by omega)]; rw [List.map_append]; rfl)
    · rw [if_neg (by omega)]
      have : i = n := by omega
      subst this
      exact growQ_end (.cons (.refl _) (.cons (.refl _) (.cons (.refl _) (.cons (.refl _) (.cons (.list _ _) (.cons (.refl _) (.nil))))))) (pad_kill [] .tok) hQ
-- a room with one check, or none
def wA (pl sd : List Int) : List Ck := if sd.length = pl.length then [] else [⟨7, pl, sd, 0⟩]
theorem has_one (c : Ck) (t : Int) : hasG Ck.id [c] t = (c.id == t) := by unfold hasG; simp
theorem get_one {c : Ck} {t : Int} (h : c.id = t) : getG Ck.id [c] t = c := by unfold getG; simp [h]
theorem drop_one {c : Ck} {t : Int} (h : c.id = t) : dropG Ck.id [c] t = [] := by unfold dropG; simp [h]
theorem put_one {c d : Ck} (h : c.id = d.id) : putG Ck.id [c] d = [d] := by unfold putG; simp [h]
theorem of_one {c : Ck} {p : Int} (h : p ∈ c.pl) : ofS [c] p = c.id := by
  unfold ofS
  have e : [c].findIdx (fun c => memB c.pl p) = 0 := by rw [List.findIdx_cons, memB_iff.2 h]; rfl
  rw [e]; rfl
theorem acc_none (p : Int) : accS [] p = ([], ck0, false, 12) := rfl
theorem acc_A {pl sd : List Int} {p : Int} (hp : p ∈ pl) : accS (wA pl sd) p = if sd.length = pl.length then (wA pl sd, ck0, false, 12) else if p ∈ sd then (wA pl sd, ck0, false, 11) else (wA pl (sd ++ [p]), ⟨7, pl, sd ++ [p], 0⟩, decide ((sd ++ [p]).length = pl.length), 0) := by
  by_cases h : sd.length = pl.length
  · rw [if_pos h]; unfold wA; rw [if_pos h]; rfl
  · rw [if_neg h]
    have hw : wA pl sd = [⟨7, pl, sd, 0⟩] := by unfold wA; rw [if_neg h]
    obtain ⟨c, hc⟩ : ∃ c : Ck, c = ⟨7, pl, sd, 0⟩ := ⟨_, rfl⟩
    have ho : ofS [c] p = 7 := by rw [of_one (by rw [hc]; exact hp), hc]
    have hg : accC [c] p = c := by unfold accC; rw [ho]; exact get_one (by rw [hc])
    have hn : accN [c] p = ⟨7, pl, sd ++ [p], 0⟩ := by unfold accN; rw [hg, hc]
    have c1 : c.ys = sd := by rw [hc]
    have c2 : c.pl = pl := by rw [hc]
    have c3 : c.id = 7 := by rw [hc]
    rw [hw, ← hc]
    unfold accS
    rw [ho, hg, hn, if_pos (by rw [has_one, c3]; rfl), c1, c2, c3]
    by_cases hm : p ∈ sd
    · rw [if_pos (memB_iff.2 hm), if_pos hm]
    · rw [if_neg (fun k => hm (memB_iff.1 k)), if_neg hm]
      unfold wA
      by_cases e : (sd ++ [p]).length = pl.length
      · rw [if_pos (by show (((sd ++ [p]).length : Nat) : Int) = _; rw [e]), if_pos e, decide_eq_true e, drop_one c3]
      · rw [if_neg (by show ¬ (((sd ++ [p]).length : Nat) : Int) = _; omega), if_neg e, decide_eq_false e, put_one c3]
def fl (pl sd : List Int) : List Bool := pl.map (memB sd)
theorem fl_len (pl sd : List Int) : (fl pl sd).length = pl.length := List.length_map _
theorem fl_get {pl sd : List Int} {k : Nat} (h : k < pl.length) : (fl pl sd).getD k false = memB sd (pl.getD k 0) := by
  unfold fl; rw [List.getD_eq_getElem?_getD, List.getElem?_map, List.getElem?_eq_getElem h, List.getD_eq_getElem?_getD, List.getElem?_eq_getElem h]; rfl
theorem fl_set {pl sd : List Int} {k : Nat} (hn : pl.Nodup) (h : k < pl.length) : (fl pl sd).set k true = fl pl (sd ++ [pl.getD k 0]) := by
  have hk : pl.getD k 0 = pl[k] := by rw [List.getD_eq_getElem?_getD, List.getElem?_eq_getElem h]; rfl
  rw [hk]
  unfold fl
  refine List.ext_getElem (by simp) fun j h1 h2 => ?_
  rw [List.length_map] at h2
  rw [List.getElem_set, List.getElem_map, List.getElem_map]
  by_cases e : k = j
  · subst e
    rw [if_pos rfl, memB_iff.2 (by simp)]
  · rw [if_neg e]
    unfold memB
    have : pl[j] ≠ pl[k] := by
      have hp := List.pairwise_iff_getElem.1 (show List.Pairwise (fun a b => a ≠ b) pl from hn)
      rcases Nat.lt_or_gt_of_ne e with l | l
      · exact fun x => hp k j h h2 l x.symm
      · exact fun x => hp j k h2 h l x
    exact decide_eq_decide.2 (by simp [this])
theorem fit_dropB (bs : List Bool) (i : Nat) (h : i < bs.length) : fitX [CK.bool] 0 (List.drop i (bs.map PV.bool)) = true := by
  rw [List.drop_eq_getElem_cons (by simpa using h)]; simp [fitX]; rfl
theorem cB_drop (bs : List Bool) (i : Nat) : cB (List.drop i (bs.map PV.bool)) 0 = bs.getD i false := by
  by_cases h : i < bs.length
  · rw [List.drop_eq_getElem_cons (by simpa using h), List.getD_eq_getElem?_getD, List.getElem?_eq_getElem h]; simp [cB]
  · rw [List.drop_of_length_le (by simpa using h), List.getD_eq_getElem?_getD, List.getElem?_eq_none (by omega)]; rfl
theorem over_bools (bs : List Bool) (i : Nat) (b : Bool) (h : i < bs.length) : over (bs.map PV.bool) i [PV.bool b] = (bs.set i b).map PV.bool := by
  rw [List.map_set, List.set_eq_take_append_cons_drop, if_pos (by simpa using h)]
  simp [over]
theorem all_red (many : Int) (ys : List Int) (n : Nat) (pl : List Int) (w : List Ck) (left : Int) (over : Bool) (bs : List Bool) (i : Nat) (R : Ex → List PV → Heap → Prop) : (br (decide ((↑i : Int) < (↑(List.length (en1 IntKind.u8 ys)) : Int))) (InL (en1 IntKind.u8 ys) 1 (↑i : Int) ∧ br (true && fitX [CK.int IntKind.u8] 0 (List.getD (en1 IntKind.u8 ys) (Int.toNat (↑i : Int)) [])) (br ((↑n : Int) != 0) (InL (List.map u1 pl) 1 (Int.tmod (wI (cI (List.getD (en1 IntKind.u8 ys) (Int.toNat (↑i : Int)) []) 0)) (↑n : Int)) ∧ br (true && fitX [CK.int IntKind.u32] 0 (List.getD (List.map u1 pl) (Int.toNat (Int.tmod (wI (cI (List.getD (en1 IntKind.u8 ys) (Int.toNat (↑i : Int)) []) 0)) (↑n : Int))) [])) (∃ (w_1 : List Ck), ∃ (m : Int), ∃ (p : Int), SlIs [PV.int IntKind.u32 (cI (List.getD (List.map u1 pl) (Int.toNat (Int.tmod (wI (cI (List.getD (en1 IntKind.u8 ys) (Int.toNat (↑i : Int)) []) 0)) (↑n : Int))) []) 0)] [PV.int IntKind.u32 p] ∧ AbIs [Ob.dead, Ob.abs (rkC (rowsC w) 1), Ob.cells [PV.ptr 1 0], Ob.cells (List.map PV.bool bs)] 1 (rkC (rowsC w_1) m) ∧ RO w_1 m ∧ br over (br ((Prod.snd (Prod.snd (Prod.snd (accS w_1 p))) != 12) == false) (br (Prod.fst (Prod.snd (Prod.snd (accS w_1 p)))) (R Ex.ret [PV.int IntKind.u8 many, PV.list (en1 IntKind.u8 ys) Tail.no, PV.bool false, PV.int IntKind.i64 (↑n : Int), PV.list (List.map u1 pl) Tail.no, PV.ptr 2 0, PV.arr 3 0 n n, PV.int IntKind.i64 left, PV.bool over, PV.int IntKind.i64 (↑i : Int)] [Ob.dead, Ob.abs (rkC (rowsC (Prod.fst (accS w_1 p))) m), Ob.cells [PV.ptr 1 0], Ob.cells (List.map PV.bool bs), Ob.cells [PV.int IntKind.u32 (Ck.id (Prod.fst (Prod.snd (accS w_1 p)))), PV.list (en1 IntKind.u32 (Ck.pl (Prod.fst (Prod.snd (accS w_1 p))))) Tail.no, PV.list (en1 IntKind.u32 (Ck.ys (Prod.fst (Prod.snd (accS w_1 p))))) Tail.no, PV.int IntKind.i64 (Ck.un (Prod.fst (Prod.snd (accS w_1 p))))]]) (R Ex.normal [PV.int IntKind.u8 many, PV.list (en1 IntKind.u8 ys) Tail.no, PV.bool false, PV.int IntKind.i64 (↑n : Int), PV.list (List.map u1 pl) Tail.no, PV.ptr 2 0, PV.arr 3 0 n n, PV.int IntKind.i64 left, PV.bool over, PV.int IntKind.i64 (wI ((↑i : Int) + 1))] [Ob.dead, Ob.abs (rkC (rowsC (Prod.fst (accS w_1 p))) m), Ob.cells [PV.ptr 1 0], Ob.cells (List.map PV.bool bs), Ob.cells [PV.int IntKind.u32 (Ck.id (Prod.fst (Prod.snd (accS w_1 p)))), PV.list (en1 IntKind.u32 (Ck.pl (Prod.fst (Prod.snd (accS w_1 p))))) Tail.no, PV.list (en1 IntKind.u32 (Ck.ys (Prod.fst (Prod.snd (accS w_1 p))))) Tail.no, PV.int IntKind.i64 (Ck.un (Prod.fst (Prod.snd (accS w_1 p))))]])) (R Ex.ret [PV.int IntKind.u8 many, PV.list (en1 IntKind.u8 ys) Tail.no, PV.bool false, PV.int IntKind.i64 (↑n : Int), PV.list (List.map u1 pl) Tail.no, PV.ptr 2 0, PV.arr 3 0 n n, PV.int IntKind.i64 left, PV.bool over, PV.int IntKind.i64 (↑i : Int)] [Ob.dead, Ob.abs (rkC (rowsC (Prod.fst (accS w_1 p))) m), Ob.cells [PV.ptr 1 0], Ob.cells (List.map PV.bool bs), Ob.cells [PV.int IntKind.u32 (Ck.id (Prod.fst (Prod.snd (accS w_1 p)))), PV.list (en1 IntKind.u32 (Ck.pl (Prod.fst (Prod.snd (accS w_1 p))))) Tail.no, PV.list (en1 IntKind.u32 (Ck.ys (Prod.fst (Prod.snd (accS w_1 p))))) Tail.no, PV.int IntKind.i64 (Ck.un (Prod.fst (Prod.snd (accS w_1 p))))]])) ((0 ≤ Int.tmod (wI (cI (List.getD (en1 IntKind.u8 ys) (Int.toNat (↑i : Int)) []) 0)) (↑n : Int) ∧ Int.tmod (wI (cI (List.getD (en1 IntKind.u8 ys) (Int.toNat (↑i : Int)) []) 0)) (↑n : Int) < (↑n : Int)) ∧ br (true && fitX [CK.bool] 0 (List.drop (0 + Int.toNat (Int.tmod (wI (cI (List.getD (en1 IntKind.u8 ys) (Int.toNat (↑i : Int)) []) 0)) (↑n : Int)) * 1) (List.map PV.bool bs))) (br (cB (List.drop (0 + Int.toNat (Int.tmod (wI (cI (List.getD (en1 IntKind.u8 ys) (Int.toNat (↑i : Int)) []) 0)) (↑n : Int)) * 1) (List.map PV.bool bs)) 0) (br ((Prod.snd (Prod.snd (Prod.snd (accS w_1 p))) != 11) == false) (br (Prod.fst (Prod.snd (Prod.snd (accS w_1 p)))) (R Ex.ret [PV.int IntKind.u8 many, PV.list (en1 IntKind.u8 ys) Tail.no, PV.bool false, PV.int IntKind.i64 (↑n : Int), PV.list (List.map u1 pl) Tail.no, PV.ptr 2 0, PV.arr 3 0 n n, PV.int IntKind.i64 left, PV.bool over, PV.int IntKind.i64 (↑i : Int)] [Ob.dead, Ob.abs (rkC (rowsC (Prod.fst (accS w_1 p))) m), Ob.cells [PV.ptr 1 0], Ob.cells (List.map PV.bool bs), Ob.cells [PV.int IntKind.u32 (Ck.id (Prod.fst (Prod.snd (accS w_1 p)))), PV.list (en1 IntKind.u32 (Ck.pl (Prod.fst (Prod.snd (accS w_1 p))))) Tail.no, PV.list (en1 IntKind.u32 (Ck.ys (Prod.fst (Prod.snd (accS w_1 p))))) Tail.no, PV.int IntKind.i64 (Ck.un (Prod.fst (Prod.snd (accS w_1 p))))]]) (R Ex.normal [PV.int IntKind.u8 many, PV.list (en1 IntKind.u8 ys) Tail.no, PV.bool false, PV.int IntKind.i64 (↑n : Int), PV.list (List.map u1 pl) Tail.no, PV.ptr 2 0, PV.arr 3 0 n n, PV.int IntKind.i64 left, PV.bool over, PV.int IntKind.i64 (wI ((↑i : Int) + 1))] [Ob.dead, Ob.abs (rkC (rowsC (Prod.fst (accS w_1 p))) m), Ob.cells [PV.ptr 1 0], Ob.cells (List.map PV.bool bs), Ob.cells [PV.int IntKind.u32 (Ck.id (Prod.fst (Prod.snd (accS w_1 p)))), PV.list (en1 IntKind.u32 (Ck.pl (Prod.fst (Prod.snd (accS w_1 p))))) Tail.no, PV.list (en1 IntKind.u32 (Ck.ys (Prod.fst (Prod.snd (accS w_1 p))))) Tail.no, PV.int IntKind.i64 (Ck.un (Prod.fst (Prod.snd (accS w_1 p))))]])) (R Ex.ret [PV.int IntKind.u8 many, PV.list (en1 IntKind.u8 ys) Tail.no, PV.bool false, PV.int IntKind.i64 (↑n : Int), PV.list (List.map u1 pl) Tail.no, PV.ptr 2 0, PV.arr 3 0 n n, PV.int IntKind.i64 left, PV.bool over, PV.int IntKind.i64 (↑i : Int)] [Ob.dead, Ob.abs (rkC (rowsC (Prod.fst (accS w_1 p))) m), Ob.cells [PV.ptr 1 0], Ob.cells (List.map PV.bool bs), Ob.cells [PV.int IntKind.u32 (Ck.id (Prod.fst (Prod.snd (accS w_1 p)))), PV.list (en1 IntKind.u32 (Ck.pl (Prod.fst (Prod.snd (accS w_1 p))))) Tail.no, PV.list (en1 IntKind.u32 (Ck.ys (Prod.fst (Prod.snd (accS w_1 p))))) Tail.no, PV.int IntKind.i64 (Ck.un (Prod.fst (Prod.snd (accS w_1 p))))]])) ((0 ≤ Int.tmod (wI (cI (List.getD (en1 IntKind.u8 ys) (Int.toNat (↑i : Int)) []) 0)) (↑n : Int) ∧ Int.tmod (wI (cI (List.getD (en1 IntKind.u8 ys) (Int.toNat (↑i : Int)) []) 0)) (↑n : Int) < (↑n : Int)) ∧ br (1 == 1 && List.all [PV.bool true] PV.one && decide (0 + Int.toNat (Int.tmod (wI (cI (List.getD (en1 IntKind.u8 ys) (Int.toNat (↑i : Int)) []) 0)) (↑n : Int)) * 1 + 1 ≤ List.length (List.map PV.bool bs)) && hintOk 0 3 (0 + Int.toNat (Int.tmod (wI (cI (List.getD (en1 IntKind.u8 ys) (Int.toNat (↑i : Int)) []) 0)) (↑n : Int)) * 1) 1) (br ((Prod.snd (Prod.snd (Prod.snd (accS w_1 p))) != 0) == false) (br (Prod.fst (Prod.snd (Prod.snd (accS w_1 p))) != (wI (left - 1) == 0)) (R Ex.ret [PV.int IntKind.u8 many, PV.list (en1 IntKind.u8 ys) Tail.no, PV.bool false, PV.int IntKind.i64 (↑n : Int), PV.list (List.map u1 pl) Tail.no, PV.ptr 2 0, PV.arr 3 0 n n, PV.int IntKind.i64 (wI (left - 1)), PV.bool (wI (left - 1) == 0), PV.int IntKind.i64 (↑i : Int)] [Ob.dead, Ob.abs (rkC (rowsC (Prod.fst (accS w_1 p))) m), Ob.cells [PV.ptr 1 0], Ob.cells (AM.over (List.map PV.bool bs) (0 + Int.toNat (Int.tmod (wI (cI (List.getD (en1 IntKind.u8 ys) (Int.toNat (↑i : Int)) []) 0)) (↑n : Int)) * 1) [PV.bool true]), Ob.cells [PV.int IntKind.u32 (Ck.id (Prod.fst (Prod.snd (accS w_1 p)))), PV.list (en1 IntKind.u32 (Ck.pl (Prod.fst (Prod.snd (accS w_1 p))))) Tail.no, PV.list (en1 IntKind.u32 (Ck.ys (Prod.fst (Prod.snd (accS w_1 p))))) Tail.no, PV.int IntKind.i64 (Ck.un (Prod.fst (Prod.snd (accS w_1 p))))]]) (R Ex.normal [PV.int IntKind.u8 many, PV.list (en1 IntKind.u8 ys) Tail.no, PV.bool false, PV.int IntKind.i64 (↑n : Int), PV.list (List.map u1 pl) Tail.no, PV.ptr 2 0, PV.arr 3 0 n n, PV.int IntKind.i64 (wI (left - 1)), PV.bool (wI (left - 1) == 0), PV.int IntKind.i64 (wI ((↑i : Int) + 1))] [Ob.dead, Ob.abs (rkC (rowsC (Prod.fst (accS w_1 p))) m), Ob.cells [PV.ptr 1 0], Ob.cells (AM.over (List.map PV.bool bs) (0 + Int.toNat (Int.tmod (wI (cI (List.getD (en1 IntKind.u8 ys) (Int.toNat (↑i : Int)) []) 0)) (↑n : Int)) * 1) [PV.bool true]), Ob.cells [PV.int IntKind.u32 (Ck.id (Prod.fst (Prod.snd (accS w_1 p)))), PV.list (en1 IntKind.u32 (Ck.pl (Prod.fst (Prod.snd (accS w_1 p))))) Tail.no, PV.list (en1 IntKind.u32 (Ck.ys (Prod.fst (Prod.snd (accS w_1 p))))) Tail.no, PV.int IntKind.i64 (Ck.un (Prod.fst (Prod.snd (accS w_1 p))))]])) (R Ex.ret [PV.int IntKind.u8 many, PV.list (en1 IntKind.u8 ys) Tail.no, PV.bool false, PV.int IntKind.i64 (↑n : Int), PV.list (List.map u1 pl) Tail.no, PV.ptr 2 0, PV.arr 3 0 n n, PV.int IntKind.i64 (wI (left - 1)), PV.bool (wI (left - 1) == 0), PV.int IntKind.i64 (↑i : Int)] [Ob.dead, Ob.abs (rkC (rowsC (Prod.fst (accS w_1 p))) m), Ob.cells [PV.ptr 1 0], Ob.cells (AM.over (List.map PV.bool bs) (0 + Int.toNat (Int.tmod (wI (cI (List.getD (en1 IntKind.u8 ys) (Int.toNat (↑i : Int)) []) 0)) (↑n : Int)) * 1) [PV.bool true]), Ob.cells [PV.int IntKind.u32 (Ck.id (Prod.fst (Prod.snd (accS w_1 p)))), PV.list (en1 IntKind.u32 (Ck.pl (Prod.fst (Prod.snd (accS w_1 p))))) Tail.no, PV.list (en1 IntKind.u32 (Ck.ys (Prod.fst (Prod.snd (accS w_1 p))))) Tail.no, PV.int IntKind.i64 (Ck.un (Prod.fst (Prod.snd (accS w_1 p))))]])) False)) False)) False) False) False) (R (Ex.exit 2) [PV.int IntKind.u8 many, PV.list (en1 IntKind.u8 ys) Tail.no, PV.bool false, PV.int IntKind.i64 (↑n : Int), PV.list (List.map u1 pl) Tail.no, PV.ptr 2 0, PV.arr 3 0 n n, PV.int IntKind.i64 left, PV.bool over, PV.int IntKind.i64 (↑i : Int)] [Ob.dead, Ob.abs (rkC (rowsC w) 1), Ob.cells [PV.ptr 1 0], Ob.cells (List.map PV.bool bs)])) = wpc br Try.prog gl TA0 [] (fun _ => 0) (subOf [1, 1, 1, 1, 1, 1, 1, 1, 0, 1, 0] (bodyOf Try.f3)) [] (envS [0, 1, 4, 5, 6, 8, 9, 10, 11, 12] [.int .u8 many, .list (en1 .u8 ys) .no, .bool false, .int .i64 n, .list (pl.map u1) .no, .ptr 2 0, .arr 3 0 n n, .int .i64 left, .bool over, .int .i64 i]) [.dead, .abs (rkC (rowsC w) 1), .cells [.ptr 1 0], .cells (bs.map PV.bool)] (fun ex e H => R ex (List.map e [0, 1, 4, 5, 6, 8, 9, 10, 11, 12]) H) := by kernel_rfl
theorem all_vc (many : Int) (ys : List Int) (n : Nat) (pl : List Int) (w : List Ck) (left : Int) (over : Bool) (bs : List Bool) (i : Nat) (R : Ex → List PV → Heap → Prop) (h : br (decide ((↑i : Int) < (↑(List.length (en1 IntKind.u8 ys)) : Int))) (InL (en1 IntKind.u8 ys) 1 (↑i : Int) ∧ br (true && fitX [CK.int IntKind.u8] 0 (List.getD (en1 IntKind.u8 ys) (Int.toNat (↑i : Int)) [])) (br ((↑n : Int) != 0) (InL (List.map u1 pl) 1 (Int.tmod (wI (cI (List.getD (en1 IntKind.u8 ys) (Int.toNat (↑i : Int)) []) 0)) (↑n : Int)) ∧ br (true && fitX [CK.int IntKind.u32] 0 (List.getD (List.map u1 pl) (Int.toNat (Int.tmod (wI (cI (List.getD (en1 IntKind.u8 ys) (Int.toNat (↑i : Int)) []) 0)) (↑n : Int))) [])) (∃ (w_1 : List Ck), ∃ (m : Int), ∃ (p : Int), SlIs [PV.int IntKind.u32 (cI (List.getD (List.map u1 pl) (Int.toNat (Int.tmod (wI (cI (List.getD (en1 IntKind.u8 ys) (Int.toNat (↑i : Int)) []) 0)) (↑n : Int))) []) 0)] [PV.int IntKind.u32 p] ∧ AbIs [Ob.dead, Ob.abs (rkC (rowsC w) 1), Ob.cells [PV.ptr 1 0], Ob.cells (List.map PV.bool bs)] 1 (rkC (rowsC w_1) m) ∧ RO w_1 m ∧ br over (br ((Prod.snd (Prod.snd (Prod.snd (accS w_1 p))) != 12) == false) (br (Prod.fst (Prod.snd (Prod.snd (accS w_1 p)))) (R Ex.ret [PV.int IntKind.u8 many, PV.list (en1 IntKind.u8 ys) Tail.no, PV.bool false, PV.int IntKind.i64 (↑n : Int), PV.list (List.map u1 pl) Tail.no, PV.ptr 2 0, PV.arr 3 0 n n, PV.int IntKind.i64 left, PV.bool over, PV.int IntKind.i64 (↑i : Int)] [Ob.dead, Ob.abs (rkC (rowsC (Prod.fst (accS w_1 p))) m), Ob.cells [PV.ptr 1 0], Ob.cells (List.map PV.bool bs), Ob.cells [PV.int IntKind.u32 (Ck.id (Prod.fst (Prod.snd (accS w_1 p)))), PV.list (en1 IntKind.u32 (Ck.pl (Prod.fst (Prod.snd (accS w_1 p))))) Tail.no, PV.list (en1 IntKind.u32 (Ck.ys (Prod.fst (Prod.snd (accS w_1 p))))) Tail.no, PV.int IntKind.i64 (Ck.un (Prod.fst (Prod.snd (accS w_1 p))))]]) (R Ex.normal [PV.int IntKind.u8 many, PV.list (en1 IntKind.u8 ys) Tail.no, PV.bool false, PV.int IntKind.i64 (↑n : Int), PV.list (List.map u1 pl) Tail.no, PV.ptr 2 0, PV.arr 3 0 n n, PV.int IntKind.i64 left, PV.bool over, PV.int IntKind.i64 (wI ((↑i : Int) + 1))] [Ob.dead, Ob.abs (rkC (rowsC (Prod.fst (accS w_1 p))) m), Ob.cells [PV.ptr 1 0], Ob.cells (List.map PV.bool bs), Ob.cells [PV.int IntKind.u32 (Ck.id (Prod.fst (Prod.snd (accS w_1 p)))), PV.list (en1 IntKind.u32 (Ck.pl (Prod.fst (Prod.snd (accS w_1 p))))) Tail.no, PV.list (en1 IntKind.u32 (Ck.ys (Prod.fst (Prod.snd (accS w_1 p))))) Tail.no, PV.int IntKind.i64 (Ck.un (Prod.fst (Prod.snd (accS w_1 p))))]])) (R Ex.ret [PV.int IntKind.u8 many, PV.list (en1 IntKind.u8 ys) Tail.no, PV.bool false, PV.int IntKind.i64 (↑n : Int), PV.list (List.map u1 pl) Tail.no, PV.ptr 2 0, PV.arr 3 0 n n, PV.int IntKind.i64 left, PV.bool over, PV.int IntKind.i64 (↑i : Int)] [Ob.dead, Ob.abs (rkC (rowsC (Prod.fst (accS w_1 p))) m), Ob.cells [PV.ptr 1 0], Ob.cells (List.map PV.bool bs), Ob.cells [PV.int IntKind.u32 (Ck.id (Prod.fst (Prod.snd (accS w_1 p)))), PV.list (en1 IntKind.u32 (Ck.pl (Prod.fst (Prod.snd (accS w_1 p))))) Tail.no, PV.list (en1 IntKind.u32 (Ck.ys (Prod.fst (Prod.snd (accS w_1 p))))) Tail.no, PV.int IntKind.i64 (Ck.un (Prod.fst (Prod.snd (accS w_1 p))))]])) ((0 ≤ Int.tmod (wI (cI (List.getD (en1 IntKind.u8 ys) (Int.toNat (↑i : Int)) []) 0)) (↑n : Int) ∧ Int.tmod (wI (cI (List.getD (en1 IntKind.u8 ys) (Int.toNat (↑i : Int)) []) 0)) (↑n : Int) < (↑n : Int)) ∧ br (true && fitX [CK.bool] 0 (List.drop (0 + Int.toNat (Int.tmod (wI (cI (List.getD (en1 IntKind.u8 ys) (Int.toNat (↑i : Int)) []) 0)) (↑n : Int)) * 1) (List.map PV.bool bs))) (br (cB (List.drop (0 + Int.toNat (Int.tmod (wI (cI (List.getD (en1 IntKind.u8 ys) (Int.toNat (↑i : Int)) []) 0)) (↑n : Int)) * 1) (List.map PV.bool bs)) 0) (br ((Prod.snd (Prod.snd (Prod.snd (accS w_1 p))) != 11) == false) (br (Prod.fst (Prod.snd (Prod.snd (accS w_1 p)))) (R Ex.ret [PV.int IntKind.u8 many, PV.list (en1 IntKind.u8 ys) Tail.no, PV.bool false, PV.int IntKind.i64 (↑n : Int), PV.list (List.map u1 pl) Tail.no, PV.ptr 2 0, PV.arr 3 0 n n, PV.int IntKind.i64 left, PV.bool over, PV.int IntKind.i64 (↑i : Int)] [Ob.dead, Ob.abs (rkC (rowsC (Prod.fst (accS w_1 p))) m), Ob.cells [PV.ptr 1 0], Ob.cells (List.map PV.bool bs), Ob.cells [PV.int IntKind.u32 (Ck.id (Prod.fst (Prod.snd (accS w_1 p)))), PV.list (en1 IntKind.u32 (Ck.pl (Prod.fst (Prod.snd (accS w_1 p))))) Tail.no, PV.list (en1 IntKind.u32 (Ck.ys (Prod.fst (Prod.snd (accS w_1 p))))) Tail.no, PV.int IntKind.i64 (Ck.un (Prod.fst (Prod.snd (accS w_1 p))))]]) (R Ex.normal [PV.int IntKind.u8 many, PV.list (en1 IntKind.u8 ys) Tail.no, PV.bool false, PV.int IntKind.i64 (↑n : Int), PV.list (List.map u1 pl) Tail.no, PV.ptr 2 0, PV.arr 3 0 n n, PV.int IntKind.i64 left, PV.bool over, PV.int IntKind.i64 (wI ((↑i : Int) + 1))] [Ob.dead, Ob.abs (rkC (rowsC (Prod.fst (accS w_1 p))) m), Ob.cells [PV.ptr 1 0], Ob.cells (List.map PV.bool bs), Ob.cells [PV.int IntKind.u32 (Ck.id (Prod.fst (Prod.snd (accS w_1 p)))), PV.list (en1 IntKind.u32 (Ck.pl (Prod.fst (Prod.snd (accS w_1 p))))) Tail.no, PV.list (en1 IntKind.u32 (Ck.ys (Prod.fst (Prod.snd (accS w_1 p))))) Tail.no, PV.int IntKind.i64 (Ck.un (Prod.fst (Prod.snd (accS w_1 p))))]])) (R Ex.ret [PV.int IntKind.u8 many, PV.list (en1 IntKind.u8 ys) Tail.no, PV.bool false, PV.int IntKind.i64 (↑n : Int), PV.list (List.map u1 pl) Tail.no, PV.ptr 2 0, PV.arr 3 0 n n, PV.int IntKind.i64 left, PV.bool over, PV.int IntKind.i64 (↑i : Int)] [Ob.dead, Ob.abs (rkC (rowsC (Prod.fst (accS w_1 p))) m), Ob.cells [PV.ptr 1 0], Ob.cells (List.map PV.bool bs), Ob.cells [PV.int IntKind.u32 (Ck.id (Prod.fst (Prod.snd (accS w_1 p)))), PV.list (en1 IntKind.u32 (Ck.pl (Prod.fst (Prod.snd (accS w_1 p))))) Tail.no, PV.list (en1 IntKind.u32 (Ck.ys (Prod.fst (Prod.snd (accS w_1 p))))) Tail.no, PV.int IntKind.i64 (Ck.un (Prod.fst (Prod.snd (accS w_1 p))))]])) ((0 ≤ Int.tmod (wI (cI (List.getD (en1 IntKind.u8 ys) (Int.toNat (↑i : Int)) []) 0)) (↑n : Int) ∧ Int.tmod (wI (cI (List.getD (en1 IntKind.u8 ys) (Int.toNat (↑i : Int)) []) 0)) (↑n : Int) < (↑n : Int)) ∧ br (1 == 1 && List.all [PV.bool true] PV.one && decide (0 + Int.toNat (Int.tmod (wI (cI (List.getD (en1 IntKind.u8 ys) (Int.toNat (↑i : Int)) []) 0)) (↑n : Int)) * 1 + 1 ≤ List.length (List.map PV.bool bs)) && hintOk 0 3 (0 + Int.toNat (Int.tmod (wI (cI (List.getD (en1 IntKind.u8 ys) (Int.toNat (↑i : Int)) []) 0)) (↑n : Int)) * 1) 1) (br ((Prod.snd (Prod.snd (Prod.snd (accS w_1 p))) != 0) == false) (br (Prod.fst (Prod.snd (Prod.snd (accS w_1 p))) != (wI (left - 1) == 0)) (R Ex.ret [PV.int IntKind.u8 many, PV.list (en1 IntKind.u8 ys) Tail.no, PV.bool false, PV.int IntKind.i64 (↑n : Int), PV.list (List.map u1 pl) Tail.no, PV.ptr 2 0, PV.arr 3 0 n n, PV.int IntKind.i64 (wI (left - 1)), PV.bool (wI (left - 1) == 0), PV.int IntKind.i64 (↑i : Int)] [Ob.dead, Ob.abs (rkC (rowsC (Prod.fst (accS w_1 p))) m), Ob.cells [PV.ptr 1 0], Ob.cells (AM.over (List.map PV.bool bs) (0 + Int.toNat (Int.tmod (wI (cI (List.getD (en1 IntKind.u8 ys) (Int.toNat (↑i : Int)) []) 0)) (↑n : Int)) * 1) [PV.bool true]), Ob.cells [PV.int IntKind.u32 (Ck.id (Prod.fst (Prod.snd (accS w_1 p)))), PV.list (en1 IntKind.u32 (Ck.pl (Prod.fst (Prod.snd (accS w_1 p))))) Tail.no, PV.list (en1 IntKind.u32 (Ck.ys (Prod.fst (Prod.snd (accS w_1 p))))) Tail.no, PV.int IntKind.i64 (Ck.un (Prod.fst (Prod.snd (accS w_1 p))))]]) (R Ex.normal [PV.int IntKind.u8 many, PV.list (en1 IntKind.u8 ys) Tail.no, PV.bool false, PV.int IntKind.i64 (↑n : Int), PV.list (List.map u1 pl) Tail.no, PV.ptr 2 0, PV.arr 3 0 n n, PV.int IntKind.i64 (wI (left - 1)), PV.bool (wI (left - 1) == 0), PV.int IntKind.i64 (wI ((↑i : Int) + 1))] [Ob.dead, Ob.abs (rkC (rowsC (Prod.fst (accS w_1 p))) m), Ob.cells [PV.ptr 1 0], Ob.cells (AM.over (List.map PV.bool bs) (0 + Int.toNat (Int.tmod (wI (cI (List.getD (en1 IntKind.u8 ys) (Int.toNat (↑i : Int)) []) 0)) (↑n : Int)) * 1) [PV.bool true]), Ob.cells [PV.int IntKind.u32 (Ck.id (Prod.fst (Prod.snd (accS w_1 p)))), PV.list (en1 IntKind.u32 (Ck.pl (Prod.fst (Prod.snd (accS w_1 p))))) Tail.no, PV.list (en1 IntKind.u32 (Ck.ys (Prod.fst (Prod.snd (accS w_1 p))))) Tail.no, PV.int IntKind.i64 (Ck.un (Prod.fst (Prod.snd (accS w_1 p))))]])) (R Ex.ret [PV.int IntKind.u8 many, PV.list (en1 IntKind.u8 ys) Tail.no, PV.bool false, PV.int IntKind.i64 (↑n : Int), PV.list (List.map u1 pl) Tail.no, PV.ptr 2 0, PV.arr 3 0 n n, PV.int IntKind.i64 (wI (left - 1)), PV.bool (wI (left - 1) == 0), PV.int IntKind.i64 (↑i : Int)] [Ob.dead, Ob.abs (rkC (rowsC (Prod.fst (accS w_1 p))) m), Ob.cells [PV.ptr 1 0], Ob.cells (AM.over (List.map PV.bool bs) (0 + Int.toNat (Int.tmod (wI (cI (List.getD (en1 IntKind.u8 ys) (Int.toNat (↑i : Int)) []) 0)) (↑n : Int)) * 1) [PV.bool true]), Ob.cells [PV.int IntKind.u32 (Ck.id (Prod.fst (Prod.snd (accS w_1 p)))), PV.list (en1 IntKind.u32 (Ck.pl (Prod.fst (Prod.snd (accS w_1 p))))) Tail.no, PV.list (en1 IntKind.u32 (Ck.ys (Prod.fst (Prod.snd (accS w_1 p))))) Tail.no, PV.int IntKind.i64 (Ck.un (Prod.fst (Prod.snd (accS w_1 p))))]])) False)) False)) False) False) False) (R (Ex.exit 2) [PV.int IntKind.u8 many, PV.list (en1 IntKind.u8 ys) Tail.no, PV.bool false, PV.int IntKind.i64 (↑n : Int), PV.list (List.map u1 pl) Tail.no, PV.ptr 2 0, PV.arr 3 0 n n, PV.int IntKind.i64 left, PV.bool over, PV.int IntKind.i64 (↑i : Int)] [Ob.dead, Ob.abs (rkC (rowsC w) 1), Ob.cells [PV.ptr 1 0], Ob.cells (List.map PV.bool bs)])) : Holds (wpc br Try.prog gl TA0 [] (fun _ => 0) (subOf [1, 1, 1, 1, 1, 1, 1, 1, 0, 1, 0] (bodyOf Try.f3)) [] (envS [0, 1, 4, 5, 6, 8, 9, 10, 11, 12] [.int .u8 many, .list (en1 .u8 ys) .no, .bool false, .int .i64 n, .list (pl.map u1) .no, .ptr 2 0, .arr 3 0 n n, .int .i64 left, .bool over, .int .i64 i]) [.dead, .abs (rkC (rowsC w) 1), .cells [.ptr 1 0], .cells (bs.map PV.bool)] (fun ex e H => R ex (List.map e [0, 1, 4, 5, 6, 8, 9, 10, 11, 12]) H)) := holds_of_eq (all_red many ys n pl w left over bs i R) h
theorem wA_ro {n : Nat} {sd : List Int} (h1 : 1 ≤ n) (h8 : n ≤ 8) (nd : sd.Nodup) (sub : ∀ x ∈ sd, x ∈ plS 10 n) : RO (wA (plS 10 n) sd) 1 := by
  unfold wA
  split
  · exact .nil (by decide) (by decide)
  · refine ⟨List.pairwise_singleton _ _, (show (1 : Int) ≤ 1 by decide), (by decide), fun c hc => ?_⟩
    rcases List.mem_singleton.1 hc with rfl
    exact ⟨(show rightS 7 = true by decide), by rw [plS_len]; exact h1, by rw [plS_len]; exact h8, plS_nodup _ _, nd, sub⟩
theorem all_low (many : Int) (ys : List Int) (n : Nat) (pl : List Int) (a : Int) (b : Bool) (c : Int) : ∀ v ∈ [PV.int .u8 many, .list (en1 .u8 ys) .no, .bool false, .int .i64 n, .list (pl.map u1) .no, .ptr 2 0, .arr 3 0 n n, .int .i64 a, .bool b, .int .i64 c], Low 4 v := by
  intro v hv
  simp only [List.mem_cons, List.not_mem_nil, or_false] at hv
  rcases hv with rfl | rfl | rfl | rfl | rfl | rfl | rfl | rfl | rfl | rfl
  · exact .int _ _
  · exact low_list1 NT.no
  · exact .bool _
  · exact .int _ _
  · exact low_us _
  · exact .ptr _ _ (by decide)
  · exact .arr _ _ _ _ (by decide)
  · exact .int _ _
  · exact .bool _
  · exact .int _ _
theorem all_hlow (R : Rep) (bs : List Bool) : LowH [.dead, .abs R, .cells [.ptr 1 0], .cells (bs.map PV.bool)] := by
  refine lowH_of fun ob ho => ?_
  simp only [List.mem_cons, List.not_mem_nil, or_false] at ho
  rcases ho with rfl | rfl | rfl | rfl
  · trivial
  · trivial
  · exact low_one (.ptr _ _ (by simp))
  · intro x hx
    obtain ⟨b, _, rfl⟩ := List.mem_map.1 hx
    exact .bool _
def all_l : LSp := fun e H Q => ∃ (many : Int) (ys : List Int) (n : Nat), 1 ≤ n ∧ n ≤ 8 ∧ ys.length ≤ 40 ∧ (∀ y ∈ ys, 0 ≤ y ∧ y ≤ 255) ∧ SlIs (List.map e [0, 1, 4, 5, 6, 8, 9, 10, 11, 12]) [.int .u8 many, .list (en1 .u8 ys) .no, .bool false, .int .i64 n, .list ((plS 10 n).map u1) .no, .ptr 2 0, .arr 3 0 n n, .int .i64 n, .bool false, .int .i64 0] ∧ HpIs H [.dead, .abs (rkC (rowsC (wA (plS 10 n) [])) 1), .cells [.ptr 1 0], .cells ((fl (plS 10 n) []).map PV.bool)] ∧
  ∀ (sd : List Int), RO (wA (plS 10 n) sd) 1 → Q (.exit 2) (envS [0, 1, 4, 5, 6, 8, 9, 10, 11, 12] [.int .u8 many, .list (en1 .u8 ys) .no, .bool false, .int .i64 n, .list ((plS 10 n).map u1) .no, .ptr 2 0, .arr 3 0 n n, .int .i64 ((n : Int) - sd.length), .bool (decide (sd.length = n)), .int .i64 ys.length]) [.dead, .abs (rkC (rowsC (wA (plS 10 n) sd)) 1), .cells [.ptr 1 0], .cells ((fl (plS 10 n) sd).map PV.bool)]
theorem all_l_ok : ∀ e H Q, all_l e H Q → AW Try.prog gl Try.f3.ntmps (.loop (subOf [1, 1, 1, 1, 1, 1, 1, 1, 0, 1, 0] (bodyOf Try.f3))) Q e H := by
  rintro e H Q ⟨many, ys, n, h1, h8, hl, hx, he, hH, hQ⟩
  have he : List.map e [0, 1, 4, 5, 6, 8, 9, 10, 11, 12] = _ := he
  refine aw_loop4 (hn := fun _ => 0) gl_low TA0_ok (.nil _ _ _ _ _) (σ := Nat × List Int) [0, 1, 4, 5, 6, 8, 9, 10, 11, 12] (fun s => s.1 ≤ ys.length ∧ s.2.Nodup ∧ ∀ x ∈ s.2, x ∈ plS 10 n)
    (fun s => [.int .u8 many, .list (en1 .u8 ys) .no, .bool false, .int .i64 n, .list ((plS 10 n).map u1) .no, .ptr 2 0, .arr 3 0 n n, .int .i64 ((n : Int) - s.2.length), .bool (decide (s.2.length = n)), .int .i64 s.1]) (fun s => [.dead, .abs (rkC (rowsC (wA (plS 10 n) s.2)) 1), .cells [.ptr 1 0], .cells ((fl (plS 10 n) s.2).map PV.bool)]) (fun s => ys.length - s.1) (0, []) ⟨Nat.zero_le _, List.nodup_nil, fun _ h => nomatch h⟩ (by rw [he]; simp; omega) hH ?_
  rintro ⟨i, sd⟩ ⟨hi, nd, sub⟩
  have hi : i ≤ ys.length := hi
  have nd : sd.Nodup := nd
  have sub : ∀ x ∈ sd, x ∈ plS 10 n := sub
  have ro := wA_ro h1 h8 nd sub
  have hpl := plS_len 10 n
  have hnd := plS_nodup 10 n
  have hle : sd.length ≤ n := by have := List.Nodup.length_le_of_subset nd sub; omega
  refine all_vc many ys n (plS 10 n) (wA (plS 10 n) sd) _ _ (fl (plS 10 n) sd) i _ ?_
  simp only [br_if, dt, en1_length, toNat_nat]
  by_cases h : i < ys.length
  · rw [if_pos (by omega)]
    simp only [en1_get _ _ _ h]
    refine ⟨en1_in _ _ _ (by omega) (by omega), ?_⟩
    rw [if_pos (by rfl)]
    obtain ⟨y, hyd⟩ : ∃ y, y = ys.getD i 0 := ⟨_, rfl⟩
    have hy := hx y (by rw [hyd]; exact getD_mem h)
    have c0 : cI [PV.int .u8 y] 0 = y := rfl
    obtain ⟨k, hk, hkn⟩ : ∃ k : Nat, Int.tmod y n = (k : Int) ∧ k < n := by
      have h0 : 0 ≤ Int.tmod y n := Int.tmod_nonneg _ hy.1
      have h2 : Int.tmod y n < n := Int.tmod_lt_of_pos _ (by omega)
      exact ⟨(Int.tmod y n).toNat, by omega, by omega⟩
    simp only [← hyd, c0, w_small (n := y) (by omega) (by omega), hk, toNat_nat, inL_u1, hpl]
    rw [if_pos (by simp; omega)]
    refine ⟨hkn, ?_⟩
    obtain ⟨p, hp⟩ : ∃ p, p = (plS 10 n).getD k 0 := ⟨_, rfl⟩
    have hpm : p ∈ plS 10 n := by rw [hp]; exact getD_mem (by rw [hpl]; exact hkn)
    have hrow : ((plS 10 n).map u1).getD k [] = u1 p := by rw [getD_map 0 (by rw [hpl]; exact hkn), ← hp]
    have c1 : cI (u1 p) 0 = p := rfl
    simp only [hrow, c1]
    rw [if_pos (by rfl)]
    refine ⟨wA (plS 10 n) sd, 1, p, rfl, rfl, ro, ?_⟩
    rw [acc_A hpm, hpl]
    have hfl : k < (fl (plS 10 n) sd).length := by rw [fl_len, hpl]; exact hkn
    simp only [Nat.zero_add, Nat.mul_one, cB_drop, fl_get (sd := sd) (show k < (plS 10 n).length by rw [hpl]; exact hkn), ← hp]
    by_cases d1 : sd.length = n
    · simp only [if_pos d1, decide_eq_true d1]
      rw [if_pos (by rfl), if_neg (by decide)]
      exact ⟨(i + 1, sd), (show ys.length - (i + 1) < ys.length - i by omega), ⟨h, nd, sub⟩, by dsimp only; rw [wI_succ h (by omega), decide_eq_true d1], [_], rfl, Nat.le_refl _, .inr ⟨all_low many ys n _ _ _ _, all_hlow _ _⟩⟩
    · simp only [if_neg d1, decide_eq_false d1]
      refine ⟨⟨by omega, by omega⟩, ?_⟩
      rw [if_pos (by simp only [fit_dropB _ _ hfl]; rfl)]
      by_cases d2 : p ∈ sd
      · simp only [if_pos d2]
        rw [if_pos (memB_iff.2 d2), if_pos (by rfl), if_neg (by decide)]
        exact ⟨(i + 1, sd), (show ys.length - (i + 1) < ys.length - i by omega), ⟨h, nd, sub⟩, by dsimp only; rw [wI_succ h (by omega), decide_eq_false d1], [_], rfl, Nat.le_refl _, .inr ⟨all_low many ys n _ _ _ _, all_hlow _ _⟩⟩
      · simp only [if_neg d2]
        rw [if_neg (fun k => d2 (memB_iff.1 k))]
        have e1 : (sd ++ [p]).length = sd.length + 1 := by simp
        have nd2 : (sd ++ [p]).Nodup := by
          rw [List.nodup_append]
          exact ⟨nd, by simp, fun a ha b hb => by rcases List.mem_singleton.1 hb with rfl; exact fun e => d2 (e ▸ ha)⟩
        have sub2 : ∀ x ∈ sd ++ [p], x ∈ plS 10 n := fun x hx => by
          rcases List.mem_append.1 hx with hx | hx
          · exact sub x hx
          · rcases List.mem_singleton.1 hx with rfl; exact hpm
        have e2 : wI ((n : Int) - sd.length - 1) = (n : Int) - (sd ++ [p]).length := by rw [e1, w_small (by omega) (by omega)]; omega
        have e3 : ((n : Int) - (sd ++ [p]).length == 0) = decide ((sd ++ [p]).length = n) := by
          rw [Bool.eq_iff_iff]; simp; omega
        have e4 : over ((fl (plS 10 n) sd).map PV.bool) k [PV.bool true] = (fl (plS 10 n) (sd ++ [p])).map PV.bool := by
          rw [over_bools _ _ _ hfl, fl_set hnd (by rw [hpl]; exact hkn), ← hp]
        simp only [e2, e3, e4]
        refine ⟨⟨by omega, by omega⟩, ?_⟩
        rw [if_pos (by simp [PV.one]; exact ⟨by omega, by rfl⟩), if_pos (by rfl), if_neg (by simp)]
        exact ⟨(i + 1, sd ++ [p]), (show ys.length - (i + 1) < ys.length - i by omega), ⟨h, nd2, sub2⟩, by dsimp only; rw [wI_succ h (by omega)], [_], rfl, Nat.le_refl _, .inr ⟨all_low many ys n _ _ _ _, all_hlow _ _⟩⟩
  · rw [if_neg (by omega)]
    have : i = ys.length := by omega
    subst this
    exact hQ sd ro
theorem all1_red (many : Int) (ys : List Int) (K : PV → Prop) : (br (decide ((↑(List.length (en1 IntKind.u8 ys)) : Int) > 40)) (K (PV.bool true)) (∃ (many_1 : Int), ∃ (ys_1 : List Int), ∃ (n : Nat), n ≤ 8 ∧ SlIs [PV.int IntKind.u8 many, PV.list (en1 IntKind.u8 ys) Tail.no, PV.bool false, PV.int IntKind.i64 (wI (1 + Int.tmod (wI many) 8)), PV.list [] Tail.exact, PV.int IntKind.i64 0] [PV.int IntKind.u8 many_1, PV.list (en1 IntKind.u8 ys_1) Tail.no, PV.bool false, PV.int IntKind.i64 (↑n : Int), PV.list [] Tail.exact, PV.int IntKind.i64 0] ∧ HpIs [] [] ∧ ∃ (n_1 : Int), SlIs [PV.int IntKind.i64 1] [PV.int IntKind.i64 n_1] ∧ ∃ (w : List Ck), ∃ (m : Int), ∃ (id : Int), ∃ (un : Int), ∃ (pl : List Int), ∃ (tl : Tail), SlIs [PV.int IntKind.u32 7, PV.int IntKind.i64 0, PV.list (List.map u1 (plS 10 n)) Tail.no] [PV.int IntKind.u32 id, PV.int IntKind.i64 un, PV.list (List.map u1 pl) tl] ∧ AbIs [Ob.dead, Ob.abs (rkC [] (mxI 0 n_1)), Ob.cells [PV.ptr 1 0]] 1 (rkC (rowsC w) m) ∧ RO w m ∧ List.length pl ≤ 100000 ∧ br (Prod.snd (openS w m id un pl) != 0) (K (PV.bool false)) (0 ≤ (↑n : Int) ∧ (↑n : Int) ≤ (↑n : Int) ∧ (↑n : Int) ≤ 140737488355328 ∧ (↑n : Int) * 1 ≤ 140737488355328 ∧ ∃ (many : Int), ∃ (ys : List Int), ∃ (n_2 : Nat), 1 ≤ n_2 ∧ n_2 ≤ 8 ∧ List.length ys ≤ 40 ∧ (∀ (y : Int), y ∈ ys → 0 ≤ y ∧ y ≤ 255) ∧ SlIs [PV.int IntKind.u8 many_1, PV.list (en1 IntKind.u8 ys_1) Tail.no, PV.bool false, PV.int IntKind.i64 (↑n : Int), PV.list (List.map u1 (plS 10 n)) Tail.no, PV.ptr 2 0, PV.arr 3 0 (Int.toNat (↑n : Int)) (Int.toNat (↑n : Int)), PV.int IntKind.i64 (↑n : Int), PV.bool false, PV.int IntKind.i64 0] [PV.int IntKind.u8 many, PV.list (en1 IntKind.u8 ys) Tail.no, PV.bool false, PV.int IntKind.i64 (↑n_2 : Int), PV.list (List.map u1 (plS 10 n_2)) Tail.no, PV.ptr 2 0, PV.arr 3 0 n_2 n_2, PV.int IntKind.i64 (↑n_2 : Int), PV.bool false, PV.int IntKind.i64 0] ∧ HpIs [Ob.dead, Ob.abs (rkC (rowsC (Prod.fst (openS w m id un pl))) m), Ob.cells [PV.ptr 1 0], Ob.cells (List.flatten (List.replicate (Int.toNat (↑n : Int)) [PV.bool false]))] [Ob.dead, Ob.abs (rkC (rowsC (wA (plS 10 n_2) [])) 1), Ob.cells [PV.ptr 1 0], Ob.cells (List.map PV.bool (fl (plS 10 n_2) []))] ∧ ∀ (sd : List Int), RO (wA (plS 10 n_2) sd) 1 → ∃ (q : Nat), ∃ (r : Nat), ∃ (w : List Ck), ∃ (m : Int), ∃ (t : Int), SlIs [PV.ptr 2 0, PV.int IntKind.u32 7] [PV.ptr q 0, PV.int IntKind.u32 t] ∧ BkIs [Ob.dead, Ob.abs (rkC (rowsC (wA (plS 10 n_2) sd)) 1), Ob.cells [PV.ptr 1 0], Ob.cells (List.map PV.bool (fl (plS 10 n_2) sd))] q r (rkC (rowsC w) m) ∧ RO w m ∧ br ((hasG Ck.id w t != decide (List.length sd = n_2)) == true) (SlIs [] [] ∧ K (PV.bool true)) (K (PV.bool false))))) = wpc br Try.prog gl TA0 [([1, 1, 1, 1, 0, 1, 0], pl_l), ([1, 1, 1, 1, 1, 1, 1, 1, 0, 1, 0], all_l)] (fun _ => 0) (bodyOf Try.f3) [] (env0 [.int .u8 many, .list (en1 .u8 ys) .no]) [] (resQ Try.prog Try.f3.results.toList (fun x _ => K x)) := by kernel_rfl
theorem all1_vc (many : Int) (ys : List Int)  (K : PV → Prop) (h : br (decide ((↑(List.length (en1 IntKind.u8 ys)) : Int) > 40)) (K (PV.bool true)) (∃ (many_1 : Int), ∃ (ys_1 : List Int), ∃ (n : Nat), n ≤ 8 ∧ SlIs [PV.int IntKind.u8 many, PV.list (en1 IntKind.u8 ys) Tail.no, PV.bool false, PV.int IntKind.i64 (wI (1 + Int.tmod (wI many) 8)), PV.list [] Tail.exact, PV.int IntKind.i64 0] [PV.int IntKind.u8 many_1, PV.list (en1 IntKind.u8 ys_1) Tail.no, PV.bool false, PV.int IntKind.i64 (↑n : Int), PV.list [] Tail.exact, PV.int IntKind.i64 0] ∧ HpIs [] [] ∧ ∃ (n_1 : Int), SlIs [PV.int IntKind.i64 1] [PV.int IntKind.i64 n_1] ∧ ∃ (w : List Ck), ∃ (m : Int), ∃ (id : Int), ∃ (un : Int), ∃ (pl : List Int), ∃ (tl : Tail), SlIs [PV.int IntKind.u32 7, PV.int IntKind.i64 0, PV.list (List.map u1 (plS 10 n)) Tail.no] [PV.int IntKind.u32 id, PV.int IntKind.i64 un, PV.list (List.map u1 pl) tl] ∧ AbIs [Ob.dead, Ob.abs (rkC [] (mxI 0 n_1)), Ob.cells [PV.ptr 1 0]] 1 (rkC (rowsC w) m) ∧ RO w m ∧ List.length pl ≤ 100000 ∧ br (Prod.snd (openS w m id un pl) != 0) (K (PV.bool false)) (0 ≤ (↑n : Int) ∧ (↑n : Int) ≤ (↑n : Int) ∧ (↑n : Int) ≤ 140737488355328 ∧ (↑n : Int) * 1 ≤ 140737488355328 ∧ ∃ (many : Int), ∃ (ys : List Int), ∃ (n_2 : Nat), 1 ≤ n_2 ∧ n_2 ≤ 8 ∧ List.length ys ≤ 40 ∧ (∀ (y : Int), y ∈ ys → 0 ≤ y ∧ y ≤ 255) ∧ SlIs [PV.int IntKind.u8 many_1, PV.list (en1 IntKind.u8 ys_1) Tail.no, PV.bool false, PV.int IntKind.i64 (↑n : Int), PV.list (List.map u1 (plS 10 n)) Tail.no, PV.ptr 2 0, PV.arr 3 0 (Int.toNat (↑n : Int)) (Int.toNat (↑n : Int)), PV.int IntKind.i64 (↑n : Int), PV.bool false, PV.int IntKind.i64 0] [PV.int IntKind.u8 many, PV.list (en1 IntKind.u8 ys) Tail.no, PV.bool false, PV.int IntKind.i64 (↑n_2 : Int), PV.list (List.map u1 (plS 10 n_2)) Tail.no, PV.ptr 2 0, PV.arr 3 0 n_2 n_2, PV.int IntKind.i64 (↑n_2 : Int), PV.bool false, PV.int IntKind.i64 0] ∧ HpIs [Ob.dead, Ob.abs (rkC (rowsC (Prod.fst (openS w m id un pl))) m), Ob.cells [PV.ptr 1 0], Ob.cells (List.flatten (List.replicate (Int.toNat (↑n : Int)) [PV.bool false]))] [Ob.dead, Ob.abs (rkC (rowsC (wA (plS 10 n_2) [])) 1), Ob.cells [PV.ptr 1 0], Ob.cells (List.map PV.bool (fl (plS 10 n_2) []))] ∧ ∀ (sd : List Int), RO (wA (plS 10 n_2) sd) 1 → ∃ (q : Nat), ∃ (r : Nat), ∃ (w : List Ck), ∃ (m : Int), ∃ (t : Int), SlIs [PV.ptr 2 0, PV.int IntKind.u32 7] [PV.ptr q 0, PV.int IntKind.u32 t] ∧ BkIs [Ob.dead, Ob.abs (rkC (rowsC (wA (plS 10 n_2) sd)) 1), Ob.cells [PV.ptr 1 0], Ob.cells (List.map PV.bool (fl (plS 10 n_2) sd))] q r (rkC (rowsC w) m) ∧ RO w m ∧ br ((hasG Ck.id w t != decide (List.length sd = n_2)) == true) (SlIs [] [] ∧ K (PV.bool true)) (K (PV.bool false))))) : ACalls Try.prog gl 3 [.int .u8 many, .list (en1 .u8 ys) .no] [] (fun x _ => K x) :=
  acalls_of_wpc2 (T := TA0) (L := [([1, 1, 1, 1, 0, 1, 0], pl_l), ([1, 1, 1, 1, 1, 1, 1, 1, 0, 1, 0], all_l)]) (fun _ => 0) Try.func3 (by kernel_rfl) (by kernel_rfl) (by kernel_rfl) (TA0_ok) (.cons (sub_of (by kernel_rfl)) pl_l_ok (.cons (sub_of (by kernel_rfl)) all_l_ok (.nil _ _ _ _ _))) (holds_of_eq (all1_red many ys K) h)
theorem open_S {b m id un : Int} {n : Nat} (h1 : 1 ≤ n) (h8 : n ≤ 8) (hb : 1 ≤ b) (hb2 : b ≤ 1000) (hid : rightS id = true) (hm : 1 ≤ m) : openS [] m id un (plS b n) = ([⟨id, plS b n, [], un⟩], 0) := by
  unfold openS
  have hr : (id :: plS b n).all rightS = true := List.all_eq_true.2 fun x hx => by
    rcases List.mem_cons.1 hx with rfl | hx
    · exact hid
    · have := mem_plS hx
      unfold rightS
      exact decide_eq_true (by omega)
  rw [if_pos hr, plS_len, if_neg (by omega)]
  have hd : dblS [] (plS b n) = false := dblS_false fun k hk => by
    unfold dP
    rw [Bool.or_eq_false_iff]
    refine ⟨eq_false_of_ne_true fun c => ?_, by simp [ofS]⟩
    have c := memB_iff.1 c
    rw [plS_len] at hk
    rw [plS_get hk] at c
    obtain ⟨j, hj, e⟩ := List.mem_iff_getElem.1 c
    have hj2 : j < k := by rw [List.length_take] at hj; omega
    rw [List.getElem_take] at e
    have e2 : (plS b n).getD j 0 = b + (j : Int) := plS_get (by omega)
    rw [getD_eq' (by rw [plS_len]; omega), e] at e2
    omega
  rw [if_neg (fun h => h.elim (fun h => by simp [hasG] at h) (fun h => by rw [hd] at h; cases h)), if_neg (by simp; omega)]
  rfl
theorem wA_new {n : Nat} (h1 : 1 ≤ n) : wA (plS 10 n) [] = [⟨7, plS 10 n, [], 0⟩] := by
  unfold wA; rw [if_neg (by rw [plS_len]; simp; omega)]
theorem fl_new (pl : List Int) : (fl pl []).map PV.bool = List.flatten (List.replicate pl.length [PV.bool false]) := by
  unfold fl
  induction pl with
  | nil => rfl
  | cons a l ih => simp only [List.map_cons, List.length_cons, List.replicate_succ, List.flatten_cons, ih, memB, List.not_mem_nil, decide_false, List.singleton_append]
theorem wA_has (pl sd : List Int) : hasG Ck.id (wA pl sd) 7 = !decide (sd.length = pl.length) := by
  unfold wA
  split
  · rename_i h; rw [decide_eq_true h]; rfl
  · rename_i h; rw [decide_eq_false h]; rfl
theorem all_law (many : Int) (ys : List Int) (hm : 0 ≤ many ∧ many ≤ 255) (hy : ∀ y ∈ ys, 0 ≤ y ∧ y ≤ 255) : ACalls Try.prog gl 3 [.int .u8 many, .list (en1 .u8 ys) .no] [] (fun x _ => x = .bool true) := by
  refine all1_vc many ys _ ?_
  simp only [br_if, dt, en1_length]
  by_cases c : ys.length ≤ 40
  · rw [if_neg (by omega)]
    obtain ⟨n, hn, h1, h8⟩ : ∃ n : Nat, wI (1 + Int.tmod (wI many) 8) = (n : Int) ∧ 1 ≤ n ∧ n ≤ 8 := by
      rw [w_small (n := many) (by omega) (by omega)]
      have h0 : 0 ≤ Int.tmod many 8 := Int.tmod_nonneg _ hm.1
      have h2 : Int.tmod many 8 < 8 := Int.tmod_lt_of_pos _ (by decide)
      rw [w_small (by omega) (by omega)]
      exact ⟨(1 + Int.tmod many 8).toNat, by omega, by omega, by omega⟩
    have ho := open_S (b := 10) (m := mxI 0 1) (id := 7) (un := 0) h1 h8 (by decide) (by decide) (by decide) (by decide)
    refine ⟨many, ys, n, h8, by rw [hn]; rfl, rfl, 1, rfl, [], mxI 0 1, 7, 0, plS 10 n, .no, rfl, rfl, .nil (by decide) (by decide), by rw [plS_len]; omega, ?_⟩
    rw [ho, if_neg (by simp)]
    refine ⟨by omega, by omega, by omega, by omega, many, ys, n, h1, h8, c, hy, by rw [toNat_nat]; rfl, by rw [wA_new h1, toNat_nat, fl_new, plS_len]; rfl, fun sd ro => ?_⟩
    refine ⟨2, 1, wA (plS 10 n) sd, 1, 7, rfl, ⟨rfl, rfl⟩, ro, ?_⟩
    rw [wA_has, plS_len, if_pos (by cases decide (sd.length = n) <;> rfl)]
    exact ⟨rfl, trivial⟩
  · rw [if_pos (by omega)]; trivial
#print axioms all_law
set_option maxRecDepth 10000
theorem all_args (xs : List PV) (h : WTargs Try.prog 6 Try.f3.params.toList xs) : ACalls Try.prog gl 3 xs [] (fun x _ => x = .bool true) := by
  rw [Try.params3] at h
  obtain ⟨x, r, rfl, h1, y, r2, rfl, h2, h3⟩ := h
  obtain rfl := wtargs_nil h3
  obtain ⟨m, rfl, hm⟩ := wta_int u5 h1
  obtain ⟨ys, rfl, _, g⟩ := wta_ints u22 u5 h2
  exact all_law m ys hm g
end Go.Proofs.Ythabdpaipgclpaa
