/-
  The rows of the statements of layer 15 (each listed table tied to what it lists).
-/
import Derived.Test.YtpabioibhkdkpaaDoorEn
import Derived.Test.YtpabioibhkdkpaaDoorA31
import Derived.Test.YtpabioibhkdkpaaDoorA25
import Derived.Test.YtpabioibhkdkpaaDoorRows
import Derived.Test.YtpabioibhkdkpaaDoorTie
import Derived.Test.YtpabioibhkdkpaaDoorCards
import Derived.WalkKit
import Derived.ProofKit
import Derived.OpenShut
import Derived.ChangeSame
import Derived.ChangeVars
import Derived.JoinedOf
import Derived.RowKit
import Derived.SevenTiedAt
namespace Go.Proofs.YtpabioibhkdkpaaDoor
open Go Go.AM Go.ChangeShapes Go.WideShapes Go.ChangeAt Go.RowKit
theorem ownK : ownKnob Tryd.prog.godebug = none := by kernel_rfl
theorem laidOutK : laidOutB Tryd.prog = true := by kernel_rfl
theorem var0 : Tryd.prog.globalNamed "tiltyard/elo.expected" = some 0 := by kernel_rfl
theorem var0T : (Tryd.prog.globals[0]?).map (·.type) = some 42 := by kernel_rfl
theorem var1 : Tryd.prog.globalNamed "tiltyard/elo.scores" = some 1 := by kernel_rfl
theorem var1T : (Tryd.prog.globals[1]?).map (·.type) = some 39 := by kernel_rfl
theorem glob_ok {W : World} (h : laidMet Tryd.prog [("tiltyard/elo.expected", Rows.laid_tiltyard_elo_expected), ("tiltyard/elo.scores", Rows.laid_tiltyard_elo_scores)] W) : GlobOk (gh0 W) W gl := by
  obtain ⟨ps, h, _⟩ := h
  obtain ⟨hc0, ps, h⟩ := table_of_laid (ns := [500, 571, 640, 703, 760, 808, 849, 882, 909, 930, 947, 960, 969, 977, 983, 987, 990]) (k := .i64) var0 var0T Tryd.underlying42 Tryd.underlying3 (by kernel_rfl) (by kernel_rfl) rfl h
  obtain ⟨hc1, ps, h⟩ := table_of_laid (ns := [500, 1000, 0]) (k := .i64) var1 var1T Tryd.underlying39 Tryd.underlying3 (by kernel_rfl) (by kernel_rfl) rfl h
  refine globOk_of fun k cs hk => ?_
  unfold gl at hk
  split at hk
  · cases hk; exact ⟨_, relL_ints .i64 [500, 571, 640, 703, 760, 808, 849, 882, 909, 930, 947, 960, 969, 977, 983, 987, 990], hc0⟩
  · cases hk; exact ⟨_, relL_ints .i64 [500, 1000, 0], hc1⟩
  · cases hk
noncomputable def laidWorld (os : Os) : World :=
  { World.holding Tryd.prog os ⟨#[], #[], []⟩ with heap := (((World.holding Tryd.prog os ⟨#[], #[], []⟩).heap.modify 0 fun
      | .cells _ t frozen => .cells #[.int .i64 500, .int .i64 571, .int .i64 640, .int .i64 703, .int .i64 760, .int .i64 808, .int .i64 849, .int .i64 882, .int .i64 909, .int .i64 930, .int .i64 947, .int .i64 960, .int .i64 969, .int .i64 977, .int .i64 983, .int .i64 987, .int .i64 990] t frozen
      | o => o).modify 1 fun
      | .cells _ t frozen => .cells #[.int .i64 500, .int .i64 1000, .int .i64 0] t frozen
      | o => o) }
theorem eloExpects_row0 (os : Os) : ((laidWorld os).forCall (fun _ _ => 0) ⟨#[], #[.agg #[.int .i64 0, .int .i64 0], .agg #[.int .i64 0, .int .i64 0], .slice none 0 0], []⟩).memory.heap[0]? = some (.cells #[.int .i64 500, .int .i64 571, .int .i64 640, .int .i64 703, .int .i64 760, .int .i64 808, .int .i64 849, .int .i64 882, .int .i64 909, .int .i64 930, .int .i64 947, .int .i64 960, .int .i64 969, .int .i64 977, .int .i64 983, .int .i64 987, .int .i64 990] 42 (0, 0)) := by kernel_rfl
theorem eloExpects_row1 (os : Os) : ((laidWorld os).forCall (fun _ _ => 0) ⟨#[], #[.agg #[.int .i64 0, .int .i64 0], .agg #[.int .i64 0, .int .i64 0], .slice none 0 0], []⟩).memory.heap[1]? = some (.cells #[.int .i64 500, .int .i64 1000, .int .i64 0] 39 (0, 0)) := by kernel_rfl
theorem eloExpects_met (os : Os) : laidMet Tryd.prog [("tiltyard/elo.expected", Rows.laid_tiltyard_elo_expected), ("tiltyard/elo.scores", Rows.laid_tiltyard_elo_scores)] ((laidWorld os).forCall (fun _ _ => 0) ⟨#[], #[.agg #[.int .i64 0, .int .i64 0], .agg #[.int .i64 0, .int .i64 0], .slice none 0 0], []⟩).memory :=
  ⟨[MemPlace.cell 0 0, MemPlace.cell 0 1, MemPlace.cell 0 2, MemPlace.cell 0 3, MemPlace.cell 0 4, MemPlace.cell 0 5, MemPlace.cell 0 6, MemPlace.cell 0 7, MemPlace.cell 0 8, MemPlace.cell 0 9, MemPlace.cell 0 10, MemPlace.cell 0 11, MemPlace.cell 0 12, MemPlace.cell 0 13, MemPlace.cell 0 14, MemPlace.cell 0 15, MemPlace.cell 0 16, MemPlace.cell 1 0, MemPlace.cell 1 1, MemPlace.cell 1 2], ⟨0, 42, #[.int .i64 500, .int .i64 571, .int .i64 640, .int .i64 703, .int .i64 760, .int .i64 808, .int .i64 849, .int .i64 882, .int .i64 909, .int .i64 930, .int .i64 947, .int .i64 960, .int .i64 969, .int .i64 977, .int .i64 983, .int .i64 987, .int .i64 990], 8, [], _, by kernel_rfl, by kernel_rfl, by kernel_rfl, by kernel_rfl, ⟨1, 39, #[.int .i64 500, .int .i64 1000, .int .i64 0], 8, [], _, by kernel_rfl, by kernel_rfl, by kernel_rfl, by kernel_rfl, rfl, rfl⟩, rfl⟩, by decide, fun b off h => by
    have h' : MemPlace.cell b off ∈ [MemPlace.cell 0 0, MemPlace.cell 0 1, MemPlace.cell 0 2, MemPlace.cell 0 3, MemPlace.cell 0 4, MemPlace.cell 0 5, MemPlace.cell 0 6, MemPlace.cell 0 7, MemPlace.cell 0 8, MemPlace.cell 0 9, MemPlace.cell 0 10, MemPlace.cell 0 11, MemPlace.cell 0 12, MemPlace.cell 0 13, MemPlace.cell 0 14, MemPlace.cell 0 15, MemPlace.cell 0 16, MemPlace.cell 1 0, MemPlace.cell 1 1, MemPlace.cell 1 2] := h
    simp only [List.mem_cons, List.not_mem_nil, or_false, MemPlace.cell.injEq] at h'
    have hb : (b = 0 ∧ off < 17) ∨ (b = 1 ∧ off < 3) := by omega
    rcases hb with ⟨rfl, ho⟩ | ⟨rfl, ho⟩
    · refine ⟨⟨_, _, eloExpects_row0 os⟩, fun u v hc => ?_⟩
      simp only [World.cell?, eloExpects_row0 os] at hc
      have hl : (#[.int .i64 500, .int .i64 571, .int .i64 640, .int .i64 703, .int .i64 760, .int .i64 808, .int .i64 849, .int .i64 882, .int .i64 909, .int .i64 930, .int .i64 947, .int .i64 960, .int .i64 969, .int .i64 977, .int .i64 983, .int .i64 987, .int .i64 990] : Array Value).toList.all (fun v => match v with | .iface _ _ => false | _ => true) = true := rfl
      have hm := List.all_eq_true.1 hl _ (Array.mem_toList_iff.2 (Array.mem_of_getElem? hc))
      cases hm
    · refine ⟨⟨_, _, eloExpects_row1 os⟩, fun u v hc => ?_⟩
      simp only [World.cell?, eloExpects_row1 os] at hc
      have hl : (#[.int .i64 500, .int .i64 1000, .int .i64 0] : Array Value).toList.all (fun v => match v with | .iface _ _ => false | _ => true) = true := rfl
      have hm := List.all_eq_true.1 hl _ (Array.mem_toList_iff.2 (Array.mem_of_getElem? hc))
      cases hm⟩
set_option maxRecDepth 100000 in
theorem eloExpects_lifted (os : Os) (started : os.Started) (H : Type) (enc : TypeId × Value → H) :
    ReturnsInHanded {} Tryd.checked os 3 .any (fun w args => (Rows.eloExpectsSpec.pre enc Tryd.prog Tryd.f3 [] false w args ∧ laidMet Tryd.prog [("tiltyard/elo.expected", Rows.laid_tiltyard_elo_expected), ("tiltyard/elo.scores", Rows.laid_tiltyard_elo_scores)] w) ∧ sizedMet enc Tryd.prog Tryd.f3 (OpenSpec.ofChange Rows.eloExpectsSpec) false w args)
      (Rows.eloExpectsSpec.post enc Tryd.prog Tryd.f3 false true false false) := by
  refine returnsInHanded_of_change_and (C := Tryd.checked) (X := fun w _ => laidMet Tryd.prog [("tiltyard/elo.expected", Rows.laid_tiltyard_elo_expected), ("tiltyard/elo.scores", Rows.laid_tiltyard_elo_scores)] w) (fun _ _ _ hh h => h.of_heap hh) ownK started (by kernel_rfl) Tryd.func3
    (ChangeSpec.witness_at (enc := enc) (C := Tryd.checked) (os := os) (X := fun w _ => laidMet Tryd.prog [("tiltyard/elo.expected", Rows.laid_tiltyard_elo_expected), ("tiltyard/elo.scores", Rows.laid_tiltyard_elo_scores)] w) false (laidWorld os) #[.agg #[.int .i64 0, .int .i64 0], .agg #[.int .i64 0, .int .i64 0], .slice none 0 0] 8 rfl (by kernel_rfl) (by kernel_rfl) (by kernel_rfl) (by kernel_rfl) (by kernel_rfl) (eloExpects_met os)) ?_
  intro W base args ds gs before hval0 hW _ _ hL _
  have hval : ∀ (j : Nat) t v, Tryd.f3.params[j]? = some t → args[j]? = some v → Value.okWide Tryd.prog W .any base t v := hval0
  have hW' := hW
  obtain ⟨p, q, hA0, hV, rfl, hfz, hnd⟩ := hW
  have hA : DataW.TrodAll enc Tryd.prog W 0 (fun _ => true) true Tryd.f3.params.toList args.toList ds p := hA0
  obtain ⟨rfl, rfl⟩ := trodVars_none hV
  obtain ⟨xs, hr, hw⟩ := args_of (k := 6) (by kernel_rfl : Tryd.f3.params.toList.all (fine Tryd.prog 6) = true) (fun j t v ht hv => hval j t v (by simpa using ht) (by simpa using hv)) hA
  have hcall := calls_of_acalls (glob_ok hL) hr (expects_args xs hw)
  have hA1 := hA
  rw [Tryd.params3] at hA1
  obtain ⟨v0, vs0, d0, ds0, p0, q0, hargs, rfl, rfl, h0, r0⟩ := trodAll_cons hA1
  obtain ⟨v1, vs1, d1, ds1, p1, q1, rfl, rfl, rfl, h1, r1⟩ := trodAll_cons r0
  obtain ⟨v2, vs2, d2, ds2, p2, q2, rfl, rfl, rfl, h2, r2⟩ := trodAll_cons r1
  obtain ⟨rfl, rfl, rfl⟩ := trodAll_nil r2
  refine hcall.mono fun e W' ⟨he, bel⟩ => ?_
  subst he
  exact ⟨_, rfl, _, _, _, [], _, [], hW', trodAll_mk1 (shut_bool Tryd.underlying4 _), below_trodAll laidOutK bel (by kernel_rfl) hA, rfl, bel.frame _, fun h => by cases h⟩
theorem eloExpects_over : Rows.eloExpectsRow.holds Tryd.pinned (OpenSpec.ofChange Rows.eloExpectsSpec) :=
  OpenClaim.holds_of_wide 3 Tryd.f3 rfl rfl rfl rfl rfl rfl rfl ⟨rfl, rfl, rfl, rfl, rfl⟩ rfl rfl rfl rfl rfl (by kernel_rfl) Tryd.func3 (by kernel_rfl)
    (of_decide_eq_true (by kernel_rfl)) (by unfold Func.isWrapper; rw [if_neg (of_decide_eq_false (by kernel_rfl))]; exact ⟨rfl, rfl⟩)
    (fun os started H enc _ => eloExpects_lifted os started H enc)
#print axioms eloExpects_over
theorem eloShares_row0 (os : Os) : ((laidWorld os).forCall (fun _ _ => 0) ⟨#[], #[.int .i64 0, .int .i64 0, .int .i64 0], []⟩).memory.heap[0]? = some (.cells #[.int .i64 500, .int .i64 571, .int .i64 640, .int .i64 703, .int .i64 760, .int .i64 808, .int .i64 849, .int .i64 882, .int .i64 909, .int .i64 930, .int .i64 947, .int .i64 960, .int .i64 969, .int .i64 977, .int .i64 983, .int .i64 987, .int .i64 990] 42 (0, 0)) := by kernel_rfl
theorem eloShares_row1 (os : Os) : ((laidWorld os).forCall (fun _ _ => 0) ⟨#[], #[.int .i64 0, .int .i64 0, .int .i64 0], []⟩).memory.heap[1]? = some (.cells #[.int .i64 500, .int .i64 1000, .int .i64 0] 39 (0, 0)) := by kernel_rfl
theorem eloShares_met (os : Os) : laidMet Tryd.prog [("tiltyard/elo.expected", Rows.laid_tiltyard_elo_expected), ("tiltyard/elo.scores", Rows.laid_tiltyard_elo_scores)] ((laidWorld os).forCall (fun _ _ => 0) ⟨#[], #[.int .i64 0, .int .i64 0, .int .i64 0], []⟩).memory :=
  ⟨[MemPlace.cell 0 0, MemPlace.cell 0 1, MemPlace.cell 0 2, MemPlace.cell 0 3, MemPlace.cell 0 4, MemPlace.cell 0 5, MemPlace.cell 0 6, MemPlace.cell 0 7, MemPlace.cell 0 8, MemPlace.cell 0 9, MemPlace.cell 0 10, MemPlace.cell 0 11, MemPlace.cell 0 12, MemPlace.cell 0 13, MemPlace.cell 0 14, MemPlace.cell 0 15, MemPlace.cell 0 16, MemPlace.cell 1 0, MemPlace.cell 1 1, MemPlace.cell 1 2], ⟨0, 42, #[.int .i64 500, .int .i64 571, .int .i64 640, .int .i64 703, .int .i64 760, .int .i64 808, .int .i64 849, .int .i64 882, .int .i64 909, .int .i64 930, .int .i64 947, .int .i64 960, .int .i64 969, .int .i64 977, .int .i64 983, .int .i64 987, .int .i64 990], 8, [], _, by kernel_rfl, by kernel_rfl, by kernel_rfl, by kernel_rfl, ⟨1, 39, #[.int .i64 500, .int .i64 1000, .int .i64 0], 8, [], _, by kernel_rfl, by kernel_rfl, by kernel_rfl, by kernel_rfl, rfl, rfl⟩, rfl⟩, by decide, fun b off h => by
    have h' : MemPlace.cell b off ∈ [MemPlace.cell 0 0, MemPlace.cell 0 1, MemPlace.cell 0 2, MemPlace.cell 0 3, MemPlace.cell 0 4, MemPlace.cell 0 5, MemPlace.cell 0 6, MemPlace.cell 0 7, MemPlace.cell 0 8, MemPlace.cell 0 9, MemPlace.cell 0 10, MemPlace.cell 0 11, MemPlace.cell 0 12, MemPlace.cell 0 13, MemPlace.cell 0 14, MemPlace.cell 0 15, MemPlace.cell 0 16, MemPlace.cell 1 0, MemPlace.cell 1 1, MemPlace.cell 1 2] := h
    simp only [List.mem_cons, List.not_mem_nil, or_false, MemPlace.cell.injEq] at h'
    have hb : (b = 0 ∧ off < 17) ∨ (b = 1 ∧ off < 3) := by omega
    rcases hb with ⟨rfl, ho⟩ | ⟨rfl, ho⟩
    · refine ⟨⟨_, _, eloShares_row0 os⟩, fun u v hc => ?_⟩
      simp only [World.cell?, eloShares_row0 os] at hc
      have hl : (#[.int .i64 500, .int .i64 571, .int .i64 640, .int .i64 703, .int .i64 760, .int .i64 808, .int .i64 849, .int .i64 882, .int .i64 909, .int .i64 930, .int .i64 947, .int .i64 960, .int .i64 969, .int .i64 977, .int .i64 983, .int .i64 987, .int .i64 990] : Array Value).toList.all (fun v => match v with | .iface _ _ => false | _ => true) = true := rfl
      have hm := List.all_eq_true.1 hl _ (Array.mem_toList_iff.2 (Array.mem_of_getElem? hc))
      cases hm
    · refine ⟨⟨_, _, eloShares_row1 os⟩, fun u v hc => ?_⟩
      simp only [World.cell?, eloShares_row1 os] at hc
      have hl : (#[.int .i64 500, .int .i64 1000, .int .i64 0] : Array Value).toList.all (fun v => match v with | .iface _ _ => false | _ => true) = true := rfl
      have hm := List.all_eq_true.1 hl _ (Array.mem_toList_iff.2 (Array.mem_of_getElem? hc))
      cases hm⟩
set_option maxRecDepth 100000 in
theorem eloShares_lifted (os : Os) (started : os.Started) (H : Type) (enc : TypeId × Value → H) :
    ReturnsInHanded {} Tryd.checked os 4 .any (fun w args => (Rows.eloSharesSpec.pre enc Tryd.prog Tryd.f4 [] false w args ∧ laidMet Tryd.prog [("tiltyard/elo.expected", Rows.laid_tiltyard_elo_expected), ("tiltyard/elo.scores", Rows.laid_tiltyard_elo_scores)] w) ∧ sizedMet enc Tryd.prog Tryd.f4 (OpenSpec.ofChange Rows.eloSharesSpec) false w args)
      (Rows.eloSharesSpec.post enc Tryd.prog Tryd.f4 false true false false) := by
  refine returnsInHanded_of_change_and (C := Tryd.checked) (X := fun w _ => laidMet Tryd.prog [("tiltyard/elo.expected", Rows.laid_tiltyard_elo_expected), ("tiltyard/elo.scores", Rows.laid_tiltyard_elo_scores)] w) (fun _ _ _ hh h => h.of_heap hh) ownK started (by kernel_rfl) Tryd.func4
    (ChangeSpec.witness_at (enc := enc) (C := Tryd.checked) (os := os) (X := fun w _ => laidMet Tryd.prog [("tiltyard/elo.expected", Rows.laid_tiltyard_elo_expected), ("tiltyard/elo.scores", Rows.laid_tiltyard_elo_scores)] w) false (laidWorld os) #[.int .i64 0, .int .i64 0, .int .i64 0] 8 rfl (by kernel_rfl) (by kernel_rfl) (by kernel_rfl) (by kernel_rfl) (by kernel_rfl) (eloShares_met os)) ?_
  intro W base args ds gs before hval0 hW _ _ hL _
  have hval : ∀ (j : Nat) t v, Tryd.f4.params[j]? = some t → args[j]? = some v → Value.okWide Tryd.prog W .any base t v := hval0
  have hW' := hW
  obtain ⟨p, q, hA0, hV, rfl, hfz, hnd⟩ := hW
  have hA : DataW.TrodAll enc Tryd.prog W 0 (fun _ => true) true Tryd.f4.params.toList args.toList ds p := hA0
  obtain ⟨rfl, rfl⟩ := trodVars_none hV
  obtain ⟨xs, hr, hw⟩ := args_of (k := 6) (by kernel_rfl : Tryd.f4.params.toList.all (fine Tryd.prog 6) = true) (fun j t v ht hv => hval j t v (by simpa using ht) (by simpa using hv)) hA
  have hcall := calls_of_acalls (glob_ok hL) hr (shares_args xs hw)
  have hA1 := hA
  rw [Tryd.params4] at hA1
  obtain ⟨v0, vs0, d0, ds0, p0, q0, hargs, rfl, rfl, h0, r0⟩ := trodAll_cons hA1
  obtain ⟨v1, vs1, d1, ds1, p1, q1, rfl, rfl, rfl, h1, r1⟩ := trodAll_cons r0
  obtain ⟨v2, vs2, d2, ds2, p2, q2, rfl, rfl, rfl, h2, r2⟩ := trodAll_cons r1
  obtain ⟨rfl, rfl, rfl⟩ := trodAll_nil r2
  refine hcall.mono fun e W' ⟨he, bel⟩ => ?_
  subst he
  exact ⟨_, rfl, _, _, _, [], _, [], hW', trodAll_mk1 (shut_bool Tryd.underlying4 _), below_trodAll laidOutK bel (by kernel_rfl) hA, rfl, bel.frame _, fun h => by cases h⟩
theorem eloShares_over : Rows.eloSharesRow.holds Tryd.pinned (OpenSpec.ofChange Rows.eloSharesSpec) :=
  OpenClaim.holds_of_wide 4 Tryd.f4 rfl rfl rfl rfl rfl rfl rfl ⟨rfl, rfl, rfl, rfl, rfl⟩ rfl rfl rfl rfl rfl (by kernel_rfl) Tryd.func4 (by kernel_rfl)
    (of_decide_eq_true (by kernel_rfl)) (by unfold Func.isWrapper; rw [if_neg (of_decide_eq_false (by kernel_rfl))]; exact ⟨rfl, rfl⟩)
    (fun os started H enc _ => eloShares_lifted os started H enc)
#print axioms eloShares_over
theorem eloUpdates_row0 (os : Os) : ((laidWorld os).forCall (fun _ _ => 0) ⟨#[], #[.slice none 0 0, .slice none 0 0, .int .i64 0], []⟩).memory.heap[0]? = some (.cells #[.int .i64 500, .int .i64 571, .int .i64 640, .int .i64 703, .int .i64 760, .int .i64 808, .int .i64 849, .int .i64 882, .int .i64 909, .int .i64 930, .int .i64 947, .int .i64 960, .int .i64 969, .int .i64 977, .int .i64 983, .int .i64 987, .int .i64 990] 42 (0, 0)) := by kernel_rfl
theorem eloUpdates_row1 (os : Os) : ((laidWorld os).forCall (fun _ _ => 0) ⟨#[], #[.slice none 0 0, .slice none 0 0, .int .i64 0], []⟩).memory.heap[1]? = some (.cells #[.int .i64 500, .int .i64 1000, .int .i64 0] 39 (0, 0)) := by kernel_rfl
theorem eloUpdates_met (os : Os) : laidMet Tryd.prog [("tiltyard/elo.expected", Rows.laid_tiltyard_elo_expected), ("tiltyard/elo.scores", Rows.laid_tiltyard_elo_scores)] ((laidWorld os).forCall (fun _ _ => 0) ⟨#[], #[.slice none 0 0, .slice none 0 0, .int .i64 0], []⟩).memory :=
  ⟨[MemPlace.cell 0 0, MemPlace.cell 0 1, MemPlace.cell 0 2, MemPlace.cell 0 3, MemPlace.cell 0 4, MemPlace.cell 0 5, MemPlace.cell 0 6, MemPlace.cell 0 7, MemPlace.cell 0 8, MemPlace.cell 0 9, MemPlace.cell 0 10, MemPlace.cell 0 11, MemPlace.cell 0 12, MemPlace.cell 0 13, MemPlace.cell 0 14, MemPlace.cell 0 15, MemPlace.cell 0 16, MemPlace.cell 1 0, MemPlace.cell 1 1, MemPlace.cell 1 2], ⟨0, 42, #[.int .i64 500, .int .i64 571, .int .i64 640, .int .i64 703, .int .i64 760, .int .i64 808, .int .i64 849, .int .i64 882, .int .i64 909, .int .i64 930, .int .i64 947, .int .i64 960, .int .i64 969, .int .i64 977, .int .i64 983, .int .i64 987, .int .i64 990], 8, [], _, by kernel_rfl, by kernel_rfl, by kernel_rfl, by kernel_rfl, ⟨1, 39, #[.int .i64 500, .int .i64 1000, .int .i64 0], 8, [], _, by kernel_rfl, by kernel_rfl, by kernel_rfl, by kernel_rfl, rfl, rfl⟩, rfl⟩, by decide, fun b off h => by
    have h' : MemPlace.cell b off ∈ [MemPlace.cell 0 0, MemPlace.cell 0 1, MemPlace.cell 0 2, MemPlace.cell 0 3, MemPlace.cell 0 4, MemPlace.cell 0 5, MemPlace.cell 0 6, MemPlace.cell 0 7, MemPlace.cell 0 8, MemPlace.cell 0 9, MemPlace.cell 0 10, MemPlace.cell 0 11, MemPlace.cell 0 12, MemPlace.cell 0 13, MemPlace.cell 0 14, MemPlace.cell 0 15, MemPlace.cell 0 16, MemPlace.cell 1 0, MemPlace.cell 1 1, MemPlace.cell 1 2] := h
    simp only [List.mem_cons, List.not_mem_nil, or_false, MemPlace.cell.injEq] at h'
    have hb : (b = 0 ∧ off < 17) ∨ (b = 1 ∧ off < 3) := by omega
    rcases hb with ⟨rfl, ho⟩ | ⟨rfl, ho⟩
    · refine ⟨⟨_, _, eloUpdates_row0 os⟩, fun u v hc => ?_⟩
      simp only [World.cell?, eloUpdates_row0 os] at hc
      have hl : (#[.int .i64 500, .int .i64 571, .int .i64 640, .int .i64 703, .int .i64 760, .int .i64 808, .int .i64 849, .int .i64 882, .int .i64 909, .int .i64 930, .int .i64 947, .int .i64 960, .int .i64 969, .int .i64 977, .int .i64 983, .int .i64 987, .int .i64 990] : Array Value).toList.all (fun v => match v with | .iface _ _ => false | _ => true) = true := rfl
      have hm := List.all_eq_true.1 hl _ (Array.mem_toList_iff.2 (Array.mem_of_getElem? hc))
      cases hm
    · refine ⟨⟨_, _, eloUpdates_row1 os⟩, fun u v hc => ?_⟩
      simp only [World.cell?, eloUpdates_row1 os] at hc
      have hl : (#[.int .i64 500, .int .i64 1000, .int .i64 0] : Array Value).toList.all (fun v => match v with | .iface _ _ => false | _ => true) = true := rfl
      have hm := List.all_eq_true.1 hl _ (Array.mem_toList_iff.2 (Array.mem_of_getElem? hc))
      cases hm⟩
set_option maxRecDepth 100000 in
theorem eloUpdates_lifted (os : Os) (started : os.Started) (H : Type) (enc : TypeId × Value → H) :
    ReturnsInHanded {} Tryd.checked os 5 .any (fun w args => (Rows.eloUpdatesSpec.pre enc Tryd.prog Tryd.f5 [] false w args ∧ laidMet Tryd.prog [("tiltyard/elo.expected", Rows.laid_tiltyard_elo_expected), ("tiltyard/elo.scores", Rows.laid_tiltyard_elo_scores)] w) ∧ sizedMet enc Tryd.prog Tryd.f5 (OpenSpec.ofChange Rows.eloUpdatesSpec) false w args)
      (Rows.eloUpdatesSpec.post enc Tryd.prog Tryd.f5 false true false false) := by
  refine returnsInHanded_of_change_and (C := Tryd.checked) (X := fun w _ => laidMet Tryd.prog [("tiltyard/elo.expected", Rows.laid_tiltyard_elo_expected), ("tiltyard/elo.scores", Rows.laid_tiltyard_elo_scores)] w) (fun _ _ _ hh h => h.of_heap hh) ownK started (by kernel_rfl) Tryd.func5
    (ChangeSpec.witness_at (enc := enc) (C := Tryd.checked) (os := os) (X := fun w _ => laidMet Tryd.prog [("tiltyard/elo.expected", Rows.laid_tiltyard_elo_expected), ("tiltyard/elo.scores", Rows.laid_tiltyard_elo_scores)] w) false (laidWorld os) #[.slice none 0 0, .slice none 0 0, .int .i64 0] 8 rfl (by kernel_rfl) (by kernel_rfl) (by kernel_rfl) (by kernel_rfl) (by kernel_rfl) (eloUpdates_met os)) ?_
  intro W base args ds gs before hval0 hW _ _ hL _
  have hval : ∀ (j : Nat) t v, Tryd.f5.params[j]? = some t → args[j]? = some v → Value.okWide Tryd.prog W .any base t v := hval0
  have hW' := hW
  obtain ⟨p, q, hA0, hV, rfl, hfz, hnd⟩ := hW
  have hA : DataW.TrodAll enc Tryd.prog W 0 (fun _ => true) true Tryd.f5.params.toList args.toList ds p := hA0
  obtain ⟨rfl, rfl⟩ := trodVars_none hV
  obtain ⟨xs, hr, hw⟩ := args_of (k := 6) (by kernel_rfl : Tryd.f5.params.toList.all (fine Tryd.prog 6) = true) (fun j t v ht hv => hval j t v (by simpa using ht) (by simpa using hv)) hA
  have hcall := calls_of_acalls (glob_ok hL) hr (updates_args xs hw)
  have hA1 := hA
  rw [Tryd.params5] at hA1
  obtain ⟨v0, vs0, d0, ds0, p0, q0, hargs, rfl, rfl, h0, r0⟩ := trodAll_cons hA1
  obtain ⟨v1, vs1, d1, ds1, p1, q1, rfl, rfl, rfl, h1, r1⟩ := trodAll_cons r0
  obtain ⟨v2, vs2, d2, ds2, p2, q2, rfl, rfl, rfl, h2, r2⟩ := trodAll_cons r1
  obtain ⟨rfl, rfl, rfl⟩ := trodAll_nil r2
  refine hcall.mono fun e W' ⟨he, bel⟩ => ?_
  subst he
  exact ⟨_, rfl, _, _, _, [], _, [], hW', trodAll_mk1 (shut_bool Tryd.underlying4 _), below_trodAll laidOutK bel (by kernel_rfl) hA, rfl, bel.frame _, fun h => by cases h⟩
theorem eloUpdates_over : Rows.eloUpdatesRow.holds Tryd.pinned (OpenSpec.ofChange Rows.eloUpdatesSpec) :=
  OpenClaim.holds_of_wide 5 Tryd.f5 rfl rfl rfl rfl rfl rfl rfl ⟨rfl, rfl, rfl, rfl, rfl⟩ rfl rfl rfl rfl rfl (by kernel_rfl) Tryd.func5 (by kernel_rfl)
    (of_decide_eq_true (by kernel_rfl)) (by unfold Func.isWrapper; rw [if_neg (of_decide_eq_false (by kernel_rfl))]; exact ⟨rfl, rfl⟩)
    (fun os started H enc _ => eloUpdates_lifted os started H enc)
#print axioms eloUpdates_over
theorem eloZero_row0 (os : Os) : ((laidWorld os).forCall (fun _ _ => 0) ⟨#[], #[.slice none 0 0, .slice none 0 0, .int .i64 0], []⟩).memory.heap[0]? = some (.cells #[.int .i64 500, .int .i64 571, .int .i64 640, .int .i64 703, .int .i64 760, .int .i64 808, .int .i64 849, .int .i64 882, .int .i64 909, .int .i64 930, .int .i64 947, .int .i64 960, .int .i64 969, .int .i64 977, .int .i64 983, .int .i64 987, .int .i64 990] 42 (0, 0)) := by kernel_rfl
theorem eloZero_row1 (os : Os) : ((laidWorld os).forCall (fun _ _ => 0) ⟨#[], #[.slice none 0 0, .slice none 0 0, .int .i64 0], []⟩).memory.heap[1]? = some (.cells #[.int .i64 500, .int .i64 1000, .int .i64 0] 39 (0, 0)) := by kernel_rfl
theorem eloZero_met (os : Os) : laidMet Tryd.prog [("tiltyard/elo.expected", Rows.laid_tiltyard_elo_expected), ("tiltyard/elo.scores", Rows.laid_tiltyard_elo_scores)] ((laidWorld os).forCall (fun _ _ => 0) ⟨#[], #[.slice none 0 0, .slice none 0 0, .int .i64 0], []⟩).memory :=
  ⟨[MemPlace.cell 0 0, MemPlace.cell 0 1, MemPlace.cell 0 2, MemPlace.cell 0 3, MemPlace.cell 0 4, MemPlace.cell 0 5, MemPlace.cell 0 6, MemPlace.cell 0 7, MemPlace.cell 0 8, MemPlace.cell 0 9, MemPlace.cell 0 10, MemPlace.cell 0 11, MemPlace.cell 0 12, MemPlace.cell 0 13, MemPlace.cell 0 14, MemPlace.cell 0 15, MemPlace.cell 0 16, MemPlace.cell 1 0, MemPlace.cell 1 1, MemPlace.cell 1 2], ⟨0, 42, #[.int .i64 500, .int .i64 571, .int .i64 640, .int .i64 703, .int .i64 760, .int .i64 808, .int .i64 849, .int .i64 882, .int .i64 909, .int .i64 930, .int .i64 947, .int .i64 960, .int .i64 969, .int .i64 977, .int .i64 983, .int .i64 987, .int .i64 990], 8, [], _, by kernel_rfl, by kernel_rfl, by kernel_rfl, by kernel_rfl, ⟨1, 39, #[.int .i64 500, .int .i64 1000, .int .i64 0], 8, [], _, by kernel_rfl, by kernel_rfl, by kernel_rfl, by kernel_rfl, rfl, rfl⟩, rfl⟩, by decide, fun b off h => by
    have h' : MemPlace.cell b off ∈ [MemPlace.cell 0 0, MemPlace.cell 0 1, MemPlace.cell 0 2, MemPlace.cell 0 3, MemPlace.cell 0 4, MemPlace.cell 0 5, MemPlace.cell 0 6, MemPlace.cell 0 7, MemPlace.cell 0 8, MemPlace.cell 0 9, MemPlace.cell 0 10, MemPlace.cell 0 11, MemPlace.cell 0 12, MemPlace.cell 0 13, MemPlace.cell 0 14, MemPlace.cell 0 15, MemPlace.cell 0 16, MemPlace.cell 1 0, MemPlace.cell 1 1, MemPlace.cell 1 2] := h
    simp only [List.mem_cons, List.not_mem_nil, or_false, MemPlace.cell.injEq] at h'
    have hb : (b = 0 ∧ off < 17) ∨ (b = 1 ∧ off < 3) := by omega
    rcases hb with ⟨rfl, ho⟩ | ⟨rfl, ho⟩
    · refine ⟨⟨_, _, eloZero_row0 os⟩, fun u v hc => ?_⟩
      simp only [World.cell?, eloZero_row0 os] at hc
      have hl : (#[.int .i64 500, .int .i64 571, .int .i64 640, .int .i64 703, .int .i64 760, .int .i64 808, .int .i64 849, .int .i64 882, .int .i64 909, .int .i64 930, .int .i64 947, .int .i64 960, .int .i64 969, .int .i64 977, .int .i64 983, .int .i64 987, .int .i64 990] : Array Value).toList.all (fun v => match v with | .iface _ _ => false | _ => true) = true := rfl
      have hm := List.all_eq_true.1 hl _ (Array.mem_toList_iff.2 (Array.mem_of_getElem? hc))
      cases hm
    · refine ⟨⟨_, _, eloZero_row1 os⟩, fun u v hc => ?_⟩
      simp only [World.cell?, eloZero_row1 os] at hc
      have hl : (#[.int .i64 500, .int .i64 1000, .int .i64 0] : Array Value).toList.all (fun v => match v with | .iface _ _ => false | _ => true) = true := rfl
      have hm := List.all_eq_true.1 hl _ (Array.mem_toList_iff.2 (Array.mem_of_getElem? hc))
      cases hm⟩
set_option maxRecDepth 100000 in
theorem eloZero_lifted (os : Os) (started : os.Started) (H : Type) (enc : TypeId × Value → H) :
    ReturnsInHanded {} Tryd.checked os 6 .any (fun w args => (Rows.eloZeroSpec.pre enc Tryd.prog Tryd.f6 [] false w args ∧ laidMet Tryd.prog [("tiltyard/elo.expected", Rows.laid_tiltyard_elo_expected), ("tiltyard/elo.scores", Rows.laid_tiltyard_elo_scores)] w) ∧ sizedMet enc Tryd.prog Tryd.f6 (OpenSpec.ofChange Rows.eloZeroSpec) false w args)
      (Rows.eloZeroSpec.post enc Tryd.prog Tryd.f6 false true false false) := by
  refine returnsInHanded_of_change_and (C := Tryd.checked) (X := fun w _ => laidMet Tryd.prog [("tiltyard/elo.expected", Rows.laid_tiltyard_elo_expected), ("tiltyard/elo.scores", Rows.laid_tiltyard_elo_scores)] w) (fun _ _ _ hh h => h.of_heap hh) ownK started (by kernel_rfl) Tryd.func6
    (ChangeSpec.witness_at (enc := enc) (C := Tryd.checked) (os := os) (X := fun w _ => laidMet Tryd.prog [("tiltyard/elo.expected", Rows.laid_tiltyard_elo_expected), ("tiltyard/elo.scores", Rows.laid_tiltyard_elo_scores)] w) false (laidWorld os) #[.slice none 0 0, .slice none 0 0, .int .i64 0] 8 rfl (by kernel_rfl) (by kernel_rfl) (by kernel_rfl) (by kernel_rfl) (by kernel_rfl) (eloZero_met os)) ?_
  intro W base args ds gs before hval0 hW _ _ hL _
  have hval : ∀ (j : Nat) t v, Tryd.f6.params[j]? = some t → args[j]? = some v → Value.okWide Tryd.prog W .any base t v := hval0
  have hW' := hW
  obtain ⟨p, q, hA0, hV, rfl, hfz, hnd⟩ := hW
  have hA : DataW.TrodAll enc Tryd.prog W 0 (fun _ => true) true Tryd.f6.params.toList args.toList ds p := hA0
  obtain ⟨rfl, rfl⟩ := trodVars_none hV
  obtain ⟨xs, hr, hw⟩ := args_of (k := 6) (by kernel_rfl : Tryd.f6.params.toList.all (fine Tryd.prog 6) = true) (fun j t v ht hv => hval j t v (by simpa using ht) (by simpa using hv)) hA
  have hcall := calls_of_acalls (glob_ok hL) hr (zero_args xs hw)
  have hA1 := hA
  rw [Tryd.params6] at hA1
  obtain ⟨v0, vs0, d0, ds0, p0, q0, hargs, rfl, rfl, h0, r0⟩ := trodAll_cons hA1
  obtain ⟨v1, vs1, d1, ds1, p1, q1, rfl, rfl, rfl, h1, r1⟩ := trodAll_cons r0
  obtain ⟨v2, vs2, d2, ds2, p2, q2, rfl, rfl, rfl, h2, r2⟩ := trodAll_cons r1
  obtain ⟨rfl, rfl, rfl⟩ := trodAll_nil r2
  refine hcall.mono fun e W' ⟨he, bel⟩ => ?_
  subst he
  exact ⟨_, rfl, _, _, _, [], _, [], hW', trodAll_mk1 (shut_bool Tryd.underlying4 _), below_trodAll laidOutK bel (by kernel_rfl) hA, rfl, bel.frame _, fun h => by cases h⟩
theorem eloZero_over : Rows.eloZeroRow.holds Tryd.pinned (OpenSpec.ofChange Rows.eloZeroSpec) :=
  OpenClaim.holds_of_wide 6 Tryd.f6 rfl rfl rfl rfl rfl rfl rfl ⟨rfl, rfl, rfl, rfl, rfl⟩ rfl rfl rfl rfl rfl (by kernel_rfl) Tryd.func6 (by kernel_rfl)
    (of_decide_eq_true (by kernel_rfl)) (by unfold Func.isWrapper; rw [if_neg (of_decide_eq_false (by kernel_rfl))]; exact ⟨rfl, rfl⟩)
    (fun os started H enc _ => eloZero_lifted os started H enc)
#print axioms eloZero_over
theorem eloWins_row0 (os : Os) : ((laidWorld os).forCall (fun _ _ => 0) ⟨#[], #[.slice none 0 0, .slice none 0 0, .int .i64 0], []⟩).memory.heap[0]? = some (.cells #[.int .i64 500, .int .i64 571, .int .i64 640, .int .i64 703, .int .i64 760, .int .i64 808, .int .i64 849, .int .i64 882, .int .i64 909, .int .i64 930, .int .i64 947, .int .i64 960, .int .i64 969, .int .i64 977, .int .i64 983, .int .i64 987, .int .i64 990] 42 (0, 0)) := by kernel_rfl
theorem eloWins_row1 (os : Os) : ((laidWorld os).forCall (fun _ _ => 0) ⟨#[], #[.slice none 0 0, .slice none 0 0, .int .i64 0], []⟩).memory.heap[1]? = some (.cells #[.int .i64 500, .int .i64 1000, .int .i64 0] 39 (0, 0)) := by kernel_rfl
theorem eloWins_met (os : Os) : laidMet Tryd.prog [("tiltyard/elo.expected", Rows.laid_tiltyard_elo_expected), ("tiltyard/elo.scores", Rows.laid_tiltyard_elo_scores)] ((laidWorld os).forCall (fun _ _ => 0) ⟨#[], #[.slice none 0 0, .slice none 0 0, .int .i64 0], []⟩).memory :=
  ⟨[MemPlace.cell 0 0, MemPlace.cell 0 1, MemPlace.cell 0 2, MemPlace.cell 0 3, MemPlace.cell 0 4, MemPlace.cell 0 5, MemPlace.cell 0 6, MemPlace.cell 0 7, MemPlace.cell 0 8, MemPlace.cell 0 9, MemPlace.cell 0 10, MemPlace.cell 0 11, MemPlace.cell 0 12, MemPlace.cell 0 13, MemPlace.cell 0 14, MemPlace.cell 0 15, MemPlace.cell 0 16, MemPlace.cell 1 0, MemPlace.cell 1 1, MemPlace.cell 1 2], ⟨0, 42, #[.int .i64 500, .int .i64 571, .int .i64 640, .int .i64 703, .int .i64 760, .int .i64 808, .int .i64 849, .int .i64 882, .int .i64 909, .int .i64 930, .int .i64 947, .int .i64 960, .int .i64 969, .int .i64 977, .int .i64 983, .int .i64 987, .int .i64 990], 8, [], _, by kernel_rfl, by kernel_rfl, by kernel_rfl, by kernel_rfl, ⟨1, 39, #[.int .i64 500, .int .i64 1000, .int .i64 0], 8, [], _, by kernel_rfl, by kernel_rfl, by kernel_rfl, by kernel_rfl, rfl, rfl⟩, rfl⟩, by decide, fun b off h => by
    have h' : MemPlace.cell b off ∈ [MemPlace.cell 0 0, MemPlace.cell 0 1, MemPlace.cell 0 2, MemPlace.cell 0 3, MemPlace.cell 0 4, MemPlace.cell 0 5, MemPlace.cell 0 6, MemPlace.cell 0 7, MemPlace.cell 0 8, MemPlace.cell 0 9, MemPlace.cell 0 10, MemPlace.cell 0 11, MemPlace.cell 0 12, MemPlace.cell 0 13, MemPlace.cell 0 14, MemPlace.cell 0 15, MemPlace.cell 0 16, MemPlace.cell 1 0, MemPlace.cell 1 1, MemPlace.cell 1 2] := h
    simp only [List.mem_cons, List.not_mem_nil, or_false, MemPlace.cell.injEq] at h'
    have hb : (b = 0 ∧ off < 17) ∨ (b = 1 ∧ off < 3) := by omega
    rcases hb with ⟨rfl, ho⟩ | ⟨rfl, ho⟩
    · refine ⟨⟨_, _, eloWins_row0 os⟩, fun u v hc => ?_⟩
      simp only [World.cell?, eloWins_row0 os] at hc
      have hl : (#[.int .i64 500, .int .i64 571, .int .i64 640, .int .i64 703, .int .i64 760, .int .i64 808, .int .i64 849, .int .i64 882, .int .i64 909, .int .i64 930, .int .i64 947, .int .i64 960, .int .i64 969, .int .i64 977, .int .i64 983, .int .i64 987, .int .i64 990] : Array Value).toList.all (fun v => match v with | .iface _ _ => false | _ => true) = true := rfl
      have hm := List.all_eq_true.1 hl _ (Array.mem_toList_iff.2 (Array.mem_of_getElem? hc))
      cases hm
    · refine ⟨⟨_, _, eloWins_row1 os⟩, fun u v hc => ?_⟩
      simp only [World.cell?, eloWins_row1 os] at hc
      have hl : (#[.int .i64 500, .int .i64 1000, .int .i64 0] : Array Value).toList.all (fun v => match v with | .iface _ _ => false | _ => true) = true := rfl
      have hm := List.all_eq_true.1 hl _ (Array.mem_toList_iff.2 (Array.mem_of_getElem? hc))
      cases hm⟩
set_option maxRecDepth 100000 in
theorem eloWins_lifted (os : Os) (started : os.Started) (H : Type) (enc : TypeId × Value → H) :
    ReturnsInHanded {} Tryd.checked os 7 .any (fun w args => (Rows.eloWinsSpec.pre enc Tryd.prog Tryd.f7 [] false w args ∧ laidMet Tryd.prog [("tiltyard/elo.expected", Rows.laid_tiltyard_elo_expected), ("tiltyard/elo.scores", Rows.laid_tiltyard_elo_scores)] w) ∧ sizedMet enc Tryd.prog Tryd.f7 (OpenSpec.ofChange Rows.eloWinsSpec) false w args)
      (Rows.eloWinsSpec.post enc Tryd.prog Tryd.f7 false true false false) := by
  refine returnsInHanded_of_change_and (C := Tryd.checked) (X := fun w _ => laidMet Tryd.prog [("tiltyard/elo.expected", Rows.laid_tiltyard_elo_expected), ("tiltyard/elo.scores", Rows.laid_tiltyard_elo_scores)] w) (fun _ _ _ hh h => h.of_heap hh) ownK started (by kernel_rfl) Tryd.func7
    (ChangeSpec.witness_at (enc := enc) (C := Tryd.checked) (os := os) (X := fun w _ => laidMet Tryd.prog [("tiltyard/elo.expected", Rows.laid_tiltyard_elo_expected), ("tiltyard/elo.scores", Rows.laid_tiltyard_elo_scores)] w) false (laidWorld os) #[.slice none 0 0, .slice none 0 0, .int .i64 0] 8 rfl (by kernel_rfl) (by kernel_rfl) (by kernel_rfl) (by kernel_rfl) (by kernel_rfl) (eloWins_met os)) ?_
  intro W base args ds gs before hval0 hW _ _ hL _
  have hval : ∀ (j : Nat) t v, Tryd.f7.params[j]? = some t → args[j]? = some v → Value.okWide Tryd.prog W .any base t v := hval0
  have hW' := hW
  obtain ⟨p, q, hA0, hV, rfl, hfz, hnd⟩ := hW
  have hA : DataW.TrodAll enc Tryd.prog W 0 (fun _ => true) true Tryd.f7.params.toList args.toList ds p := hA0
  obtain ⟨rfl, rfl⟩ := trodVars_none hV
  obtain ⟨xs, hr, hw⟩ := args_of (k := 6) (by kernel_rfl : Tryd.f7.params.toList.all (fine Tryd.prog 6) = true) (fun j t v ht hv => hval j t v (by simpa using ht) (by simpa using hv)) hA
  have hcall := calls_of_acalls (glob_ok hL) hr (wins_args xs hw)
  have hA1 := hA
  rw [Tryd.params7] at hA1
  obtain ⟨v0, vs0, d0, ds0, p0, q0, hargs, rfl, rfl, h0, r0⟩ := trodAll_cons hA1
  obtain ⟨v1, vs1, d1, ds1, p1, q1, rfl, rfl, rfl, h1, r1⟩ := trodAll_cons r0
  obtain ⟨v2, vs2, d2, ds2, p2, q2, rfl, rfl, rfl, h2, r2⟩ := trodAll_cons r1
  obtain ⟨rfl, rfl, rfl⟩ := trodAll_nil r2
  refine hcall.mono fun e W' ⟨he, bel⟩ => ?_
  subst he
  exact ⟨_, rfl, _, _, _, [], _, [], hW', trodAll_mk1 (shut_bool Tryd.underlying4 _), below_trodAll laidOutK bel (by kernel_rfl) hA, rfl, bel.frame _, fun h => by cases h⟩
theorem eloWins_over : Rows.eloWinsRow.holds Tryd.pinned (OpenSpec.ofChange Rows.eloWinsSpec) :=
  OpenClaim.holds_of_wide 7 Tryd.f7 rfl rfl rfl rfl rfl rfl rfl ⟨rfl, rfl, rfl, rfl, rfl⟩ rfl rfl rfl rfl rfl (by kernel_rfl) Tryd.func7 (by kernel_rfl)
    (of_decide_eq_true (by kernel_rfl)) (by unfold Func.isWrapper; rw [if_neg (of_decide_eq_false (by kernel_rfl))]; exact ⟨rfl, rfl⟩)
    (fun os started H enc _ => eloWins_lifted os started H enc)
#print axioms eloWins_over
theorem eloTurned_row0 (os : Os) : ((laidWorld os).forCall (fun _ _ => 0) ⟨#[], #[.slice none 0 0, .slice none 0 0, .int .i64 0], []⟩).memory.heap[0]? = some (.cells #[.int .i64 500, .int .i64 571, .int .i64 640, .int .i64 703, .int .i64 760, .int .i64 808, .int .i64 849, .int .i64 882, .int .i64 909, .int .i64 930, .int .i64 947, .int .i64 960, .int .i64 969, .int .i64 977, .int .i64 983, .int .i64 987, .int .i64 990] 42 (0, 0)) := by kernel_rfl
theorem eloTurned_row1 (os : Os) : ((laidWorld os).forCall (fun _ _ => 0) ⟨#[], #[.slice none 0 0, .slice none 0 0, .int .i64 0], []⟩).memory.heap[1]? = some (.cells #[.int .i64 500, .int .i64 1000, .int .i64 0] 39 (0, 0)) := by kernel_rfl
theorem eloTurned_met (os : Os) : laidMet Tryd.prog [("tiltyard/elo.expected", Rows.laid_tiltyard_elo_expected), ("tiltyard/elo.scores", Rows.laid_tiltyard_elo_scores)] ((laidWorld os).forCall (fun _ _ => 0) ⟨#[], #[.slice none 0 0, .slice none 0 0, .int .i64 0], []⟩).memory :=
  ⟨[MemPlace.cell 0 0, MemPlace.cell 0 1, MemPlace.cell 0 2, MemPlace.cell 0 3, MemPlace.cell 0 4, MemPlace.cell 0 5, MemPlace.cell 0 6, MemPlace.cell 0 7, MemPlace.cell 0 8, MemPlace.cell 0 9, MemPlace.cell 0 10, MemPlace.cell 0 11, MemPlace.cell 0 12, MemPlace.cell 0 13, MemPlace.cell 0 14, MemPlace.cell 0 15, MemPlace.cell 0 16, MemPlace.cell 1 0, MemPlace.cell 1 1, MemPlace.cell 1 2], ⟨0, 42, #[.int .i64 500, .int .i64 571, .int .i64 640, .int .i64 703, .int .i64 760, .int .i64 808, .int .i64 849, .int .i64 882, .int .i64 909, .int .i64 930, .int .i64 947, .int .i64 960, .int .i64 969, .int .i64 977, .int .i64 983, .int .i64 987, .int .i64 990], 8, [], _, by kernel_rfl, by kernel_rfl, by kernel_rfl, by kernel_rfl, ⟨1, 39, #[.int .i64 500, .int .i64 1000, .int .i64 0], 8, [], _, by kernel_rfl, by kernel_rfl, by kernel_rfl, by kernel_rfl, rfl, rfl⟩, rfl⟩, by decide, fun b off h => by
    have h' : MemPlace.cell b off ∈ [MemPlace.cell 0 0, MemPlace.cell 0 1, MemPlace.cell 0 2, MemPlace.cell 0 3, MemPlace.cell 0 4, MemPlace.cell 0 5, MemPlace.cell 0 6, MemPlace.cell 0 7, MemPlace.cell 0 8, MemPlace.cell 0 9, MemPlace.cell 0 10, MemPlace.cell 0 11, MemPlace.cell 0 12, MemPlace.cell 0 13, MemPlace.cell 0 14, MemPlace.cell 0 15, MemPlace.cell 0 16, MemPlace.cell 1 0, MemPlace.cell 1 1, MemPlace.cell 1 2] := h
    simp only [List.mem_cons, List.not_mem_nil, or_false, MemPlace.cell.injEq] at h'
    have hb : (b = 0 ∧ off < 17) ∨ (b = 1 ∧ off < 3) := by omega
    rcases hb with ⟨rfl, ho⟩ | ⟨rfl, ho⟩
    · refine ⟨⟨_, _, eloTurned_row0 os⟩, fun u v hc => ?_⟩
      simp only [World.cell?, eloTurned_row0 os] at hc
      have hl : (#[.int .i64 500, .int .i64 571, .int .i64 640, .int .i64 703, .int .i64 760, .int .i64 808, .int .i64 849, .int .i64 882, .int .i64 909, .int .i64 930, .int .i64 947, .int .i64 960, .int .i64 969, .int .i64 977, .int .i64 983, .int .i64 987, .int .i64 990] : Array Value).toList.all (fun v => match v with | .iface _ _ => false | _ => true) = true := rfl
      have hm := List.all_eq_true.1 hl _ (Array.mem_toList_iff.2 (Array.mem_of_getElem? hc))
      cases hm
    · refine ⟨⟨_, _, eloTurned_row1 os⟩, fun u v hc => ?_⟩
      simp only [World.cell?, eloTurned_row1 os] at hc
      have hl : (#[.int .i64 500, .int .i64 1000, .int .i64 0] : Array Value).toList.all (fun v => match v with | .iface _ _ => false | _ => true) = true := rfl
      have hm := List.all_eq_true.1 hl _ (Array.mem_toList_iff.2 (Array.mem_of_getElem? hc))
      cases hm⟩
set_option maxRecDepth 100000 in
theorem eloTurned_lifted (os : Os) (started : os.Started) (H : Type) (enc : TypeId × Value → H) :
    ReturnsInHanded {} Tryd.checked os 8 .any (fun w args => (Rows.eloTurnedSpec.pre enc Tryd.prog Tryd.f8 [] false w args ∧ laidMet Tryd.prog [("tiltyard/elo.expected", Rows.laid_tiltyard_elo_expected), ("tiltyard/elo.scores", Rows.laid_tiltyard_elo_scores)] w) ∧ sizedMet enc Tryd.prog Tryd.f8 (OpenSpec.ofChange Rows.eloTurnedSpec) false w args)
      (Rows.eloTurnedSpec.post enc Tryd.prog Tryd.f8 false true false false) := by
  refine returnsInHanded_of_change_and (C := Tryd.checked) (X := fun w _ => laidMet Tryd.prog [("tiltyard/elo.expected", Rows.laid_tiltyard_elo_expected), ("tiltyard/elo.scores", Rows.laid_tiltyard_elo_scores)] w) (fun _ _ _ hh h => h.of_heap hh) ownK started (by kernel_rfl) Tryd.func8
    (ChangeSpec.witness_at (enc := enc) (C := Tryd.checked) (os := os) (X := fun w _ => laidMet Tryd.prog [("tiltyard/elo.expected", Rows.laid_tiltyard_elo_expected), ("tiltyard/elo.scores", Rows.laid_tiltyard_elo_scores)] w) false (laidWorld os) #[.slice none 0 0, .slice none 0 0, .int .i64 0] 8 rfl (by kernel_rfl) (by kernel_rfl) (by kernel_rfl) (by kernel_rfl) (by kernel_rfl) (eloTurned_met os)) ?_
  intro W base args ds gs before hval0 hW _ _ hL _
  have hval : ∀ (j : Nat) t v, Tryd.f8.params[j]? = some t → args[j]? = some v → Value.okWide Tryd.prog W .any base t v := hval0
  have hW' := hW
  obtain ⟨p, q, hA0, hV, rfl, hfz, hnd⟩ := hW
  have hA : DataW.TrodAll enc Tryd.prog W 0 (fun _ => true) true Tryd.f8.params.toList args.toList ds p := hA0
  obtain ⟨rfl, rfl⟩ := trodVars_none hV
  obtain ⟨xs, hr, hw⟩ := args_of (k := 6) (by kernel_rfl : Tryd.f8.params.toList.all (fine Tryd.prog 6) = true) (fun j t v ht hv => hval j t v (by simpa using ht) (by simpa using hv)) hA
  have hcall := calls_of_acalls (glob_ok hL) hr (turned_args xs hw)
  have hA1 := hA
  rw [Tryd.params8] at hA1
  obtain ⟨v0, vs0, d0, ds0, p0, q0, hargs, rfl, rfl, h0, r0⟩ := trodAll_cons hA1
  obtain ⟨v1, vs1, d1, ds1, p1, q1, rfl, rfl, rfl, h1, r1⟩ := trodAll_cons r0
  obtain ⟨v2, vs2, d2, ds2, p2, q2, rfl, rfl, rfl, h2, r2⟩ := trodAll_cons r1
  obtain ⟨rfl, rfl, rfl⟩ := trodAll_nil r2
  refine hcall.mono fun e W' ⟨he, bel⟩ => ?_
  subst he
  exact ⟨_, rfl, _, _, _, [], _, [], hW', trodAll_mk1 (shut_bool Tryd.underlying4 _), below_trodAll laidOutK bel (by kernel_rfl) hA, rfl, bel.frame _, fun h => by cases h⟩
theorem eloTurned_over : Rows.eloTurnedRow.holds Tryd.pinned (OpenSpec.ofChange Rows.eloTurnedSpec) :=
  OpenClaim.holds_of_wide 8 Tryd.f8 rfl rfl rfl rfl rfl rfl rfl ⟨rfl, rfl, rfl, rfl, rfl⟩ rfl rfl rfl rfl rfl (by kernel_rfl) Tryd.func8 (by kernel_rfl)
    (of_decide_eq_true (by kernel_rfl)) (by unfold Func.isWrapper; rw [if_neg (of_decide_eq_false (by kernel_rfl))]; exact ⟨rfl, rfl⟩)
    (fun os started H enc _ => eloTurned_lifted os started H enc)
#print axioms eloTurned_over
theorem eloMore_row0 (os : Os) : ((laidWorld os).forCall (fun _ _ => 0) ⟨#[], #[.agg #[.int .i64 0, .int .i64 0, .int .i64 0], .int .u8 0, .int .i32 0], []⟩).memory.heap[0]? = some (.cells #[.int .i64 500, .int .i64 571, .int .i64 640, .int .i64 703, .int .i64 760, .int .i64 808, .int .i64 849, .int .i64 882, .int .i64 909, .int .i64 930, .int .i64 947, .int .i64 960, .int .i64 969, .int .i64 977, .int .i64 983, .int .i64 987, .int .i64 990] 42 (0, 0)) := by kernel_rfl
theorem eloMore_row1 (os : Os) : ((laidWorld os).forCall (fun _ _ => 0) ⟨#[], #[.agg #[.int .i64 0, .int .i64 0, .int .i64 0], .int .u8 0, .int .i32 0], []⟩).memory.heap[1]? = some (.cells #[.int .i64 500, .int .i64 1000, .int .i64 0] 39 (0, 0)) := by kernel_rfl
theorem eloMore_met (os : Os) : laidMet Tryd.prog [("tiltyard/elo.expected", Rows.laid_tiltyard_elo_expected), ("tiltyard/elo.scores", Rows.laid_tiltyard_elo_scores)] ((laidWorld os).forCall (fun _ _ => 0) ⟨#[], #[.agg #[.int .i64 0, .int .i64 0, .int .i64 0], .int .u8 0, .int .i32 0], []⟩).memory :=
  ⟨[MemPlace.cell 0 0, MemPlace.cell 0 1, MemPlace.cell 0 2, MemPlace.cell 0 3, MemPlace.cell 0 4, MemPlace.cell 0 5, MemPlace.cell 0 6, MemPlace.cell 0 7, MemPlace.cell 0 8, MemPlace.cell 0 9, MemPlace.cell 0 10, MemPlace.cell 0 11, MemPlace.cell 0 12, MemPlace.cell 0 13, MemPlace.cell 0 14, MemPlace.cell 0 15, MemPlace.cell 0 16, MemPlace.cell 1 0, MemPlace.cell 1 1, MemPlace.cell 1 2], ⟨0, 42, #[.int .i64 500, .int .i64 571, .int .i64 640, .int .i64 703, .int .i64 760, .int .i64 808, .int .i64 849, .int .i64 882, .int .i64 909, .int .i64 930, .int .i64 947, .int .i64 960, .int .i64 969, .int .i64 977, .int .i64 983, .int .i64 987, .int .i64 990], 8, [], _, by kernel_rfl, by kernel_rfl, by kernel_rfl, by kernel_rfl, ⟨1, 39, #[.int .i64 500, .int .i64 1000, .int .i64 0], 8, [], _, by kernel_rfl, by kernel_rfl, by kernel_rfl, by kernel_rfl, rfl, rfl⟩, rfl⟩, by decide, fun b off h => by
    have h' : MemPlace.cell b off ∈ [MemPlace.cell 0 0, MemPlace.cell 0 1, MemPlace.cell 0 2, MemPlace.cell 0 3, MemPlace.cell 0 4, MemPlace.cell 0 5, MemPlace.cell 0 6, MemPlace.cell 0 7, MemPlace.cell 0 8, MemPlace.cell 0 9, MemPlace.cell 0 10, MemPlace.cell 0 11, MemPlace.cell 0 12, MemPlace.cell 0 13, MemPlace.cell 0 14, MemPlace.cell 0 15, MemPlace.cell 0 16, MemPlace.cell 1 0, MemPlace.cell 1 1, MemPlace.cell 1 2] := h
    simp only [List.mem_cons, List.not_mem_nil, or_false, MemPlace.cell.injEq] at h'
    have hb : (b = 0 ∧ off < 17) ∨ (b = 1 ∧ off < 3) := by omega
    rcases hb with ⟨rfl, ho⟩ | ⟨rfl, ho⟩
    · refine ⟨⟨_, _, eloMore_row0 os⟩, fun u v hc => ?_⟩
      simp only [World.cell?, eloMore_row0 os] at hc
      have hl : (#[.int .i64 500, .int .i64 571, .int .i64 640, .int .i64 703, .int .i64 760, .int .i64 808, .int .i64 849, .int .i64 882, .int .i64 909, .int .i64 930, .int .i64 947, .int .i64 960, .int .i64 969, .int .i64 977, .int .i64 983, .int .i64 987, .int .i64 990] : Array Value).toList.all (fun v => match v with | .iface _ _ => false | _ => true) = true := rfl
      have hm := List.all_eq_true.1 hl _ (Array.mem_toList_iff.2 (Array.mem_of_getElem? hc))
      cases hm
    · refine ⟨⟨_, _, eloMore_row1 os⟩, fun u v hc => ?_⟩
      simp only [World.cell?, eloMore_row1 os] at hc
      have hl : (#[.int .i64 500, .int .i64 1000, .int .i64 0] : Array Value).toList.all (fun v => match v with | .iface _ _ => false | _ => true) = true := rfl
      have hm := List.all_eq_true.1 hl _ (Array.mem_toList_iff.2 (Array.mem_of_getElem? hc))
      cases hm⟩
set_option maxRecDepth 100000 in
theorem eloMore_lifted (os : Os) (started : os.Started) (H : Type) (enc : TypeId × Value → H) :
    ReturnsInHanded {} Tryd.checked os 9 .any (fun w args => (Rows.eloMoreSpec.pre enc Tryd.prog Tryd.f9 [] false w args ∧ laidMet Tryd.prog [("tiltyard/elo.expected", Rows.laid_tiltyard_elo_expected), ("tiltyard/elo.scores", Rows.laid_tiltyard_elo_scores)] w) ∧ sizedMet enc Tryd.prog Tryd.f9 (OpenSpec.ofChange Rows.eloMoreSpec) false w args)
      (Rows.eloMoreSpec.post enc Tryd.prog Tryd.f9 false true false false) := by
  refine returnsInHanded_of_change_and (C := Tryd.checked) (X := fun w _ => laidMet Tryd.prog [("tiltyard/elo.expected", Rows.laid_tiltyard_elo_expected), ("tiltyard/elo.scores", Rows.laid_tiltyard_elo_scores)] w) (fun _ _ _ hh h => h.of_heap hh) ownK started (by kernel_rfl) Tryd.func9
    (ChangeSpec.witness_at (enc := enc) (C := Tryd.checked) (os := os) (X := fun w _ => laidMet Tryd.prog [("tiltyard/elo.expected", Rows.laid_tiltyard_elo_expected), ("tiltyard/elo.scores", Rows.laid_tiltyard_elo_scores)] w) false (laidWorld os) #[.agg #[.int .i64 0, .int .i64 0, .int .i64 0], .int .u8 0, .int .i32 0] 8 rfl (by kernel_rfl) (by kernel_rfl) (by kernel_rfl) (by kernel_rfl) (by kernel_rfl) (eloMore_met os)) ?_
  intro W base args ds gs before hval0 hW _ _ hL _
  have hval : ∀ (j : Nat) t v, Tryd.f9.params[j]? = some t → args[j]? = some v → Value.okWide Tryd.prog W .any base t v := hval0
  have hW' := hW
  obtain ⟨p, q, hA0, hV, rfl, hfz, hnd⟩ := hW
  have hA : DataW.TrodAll enc Tryd.prog W 0 (fun _ => true) true Tryd.f9.params.toList args.toList ds p := hA0
  obtain ⟨rfl, rfl⟩ := trodVars_none hV
  obtain ⟨xs, hr, hw⟩ := args_of (k := 6) (by kernel_rfl : Tryd.f9.params.toList.all (fine Tryd.prog 6) = true) (fun j t v ht hv => hval j t v (by simpa using ht) (by simpa using hv)) hA
  have hcall := calls_of_acalls (glob_ok hL) hr (more_args xs hw)
  have hA1 := hA
  rw [Tryd.params9] at hA1
  obtain ⟨v0, vs0, d0, ds0, p0, q0, hargs, rfl, rfl, h0, r0⟩ := trodAll_cons hA1
  obtain ⟨v1, vs1, d1, ds1, p1, q1, rfl, rfl, rfl, h1, r1⟩ := trodAll_cons r0
  obtain ⟨v2, vs2, d2, ds2, p2, q2, rfl, rfl, rfl, h2, r2⟩ := trodAll_cons r1
  obtain ⟨rfl, rfl, rfl⟩ := trodAll_nil r2
  refine hcall.mono fun e W' ⟨he, bel⟩ => ?_
  subst he
  exact ⟨_, rfl, _, _, _, [], _, [], hW', trodAll_mk1 (shut_bool Tryd.underlying4 _), below_trodAll laidOutK bel (by kernel_rfl) hA, rfl, bel.frame _, fun h => by cases h⟩
theorem eloMore_over : Rows.eloMoreRow.holds Tryd.pinned (OpenSpec.ofChange Rows.eloMoreSpec) :=
  OpenClaim.holds_of_wide 9 Tryd.f9 rfl rfl rfl rfl rfl rfl rfl ⟨rfl, rfl, rfl, rfl, rfl⟩ rfl rfl rfl rfl rfl (by kernel_rfl) Tryd.func9 (by kernel_rfl)
    (of_decide_eq_true (by kernel_rfl)) (by unfold Func.isWrapper; rw [if_neg (of_decide_eq_false (by kernel_rfl))]; exact ⟨rfl, rfl⟩)
    (fun os started H enc _ => eloMore_lifted os started H enc)
#print axioms eloMore_over
end Go.Proofs.YtpabioibhkdkpaaDoor
