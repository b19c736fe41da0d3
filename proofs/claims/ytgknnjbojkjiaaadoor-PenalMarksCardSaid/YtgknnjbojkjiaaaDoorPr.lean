/-
  The rows of layer 16: from the laws over pure values to the model's calls; conditions: the listed variable reads as laid.
-/
import Derived.Test.YtgknnjbojkjiaaaDoorPn
import Derived.Test.YtgknnjbojkjiaaaDoorA25
import Derived.Test.YtgknnjbojkjiaaaDoorRows
import Derived.Test.YtgknnjbojkjiaaaDoorTie
import Derived.Test.YtgknnjbojkjiaaaDoorCards
import Derived.WalkKit
import Derived.ProofKit
import Derived.OpenShut
import Derived.ChangeSame
import Derived.ChangeVars
import Derived.JoinedOf
import Derived.RowKit
import Derived.SevenTiedAt
namespace Go.Proofs.YtgknnjbojkjiaaaDoor
open Go Go.AM Go.ChangeShapes Go.WideShapes Go.ChangeAt Go.RowKit
theorem ownK : ownKnob Tryd.prog.godebug = none := by kernel_rfl
theorem laidOutK : laidOutB Tryd.prog = true := by kernel_rfl
theorem lad : Tryd.prog.globalNamed "tiltyard/penal.ladder" = some 0 := by kernel_rfl
theorem ladT : (Tryd.prog.globals[0]?).map (·.type) = some 38 := by kernel_rfl
theorem glob_ok {W : World} (h : laidMet Tryd.prog [("tiltyard/penal.ladder", Rows.laid_tiltyard_penal_ladder)] W) : GlobOk (gh0 W) W gl := by
  obtain ⟨ps, h, _⟩ := h
  have hc := (table_of_laid (ns := [60, 300, 900, 3600, 14400, 86400]) (k := .i64) lad ladT Tryd.underlying38 Tryd.underlying2 (by kernel_rfl) (by kernel_rfl) rfl h).1
  refine globOk_of fun k cs hk => ?_
  unfold gl at hk
  split at hk
  · cases hk; exact ⟨_, relL_ints .i64 [60, 300, 900, 3600, 14400, 86400], hc⟩
  · cases hk
noncomputable def laidWorld (os : Os) : World :=
  { World.holding Tryd.prog os ⟨#[], #[], []⟩ with heap := (World.holding Tryd.prog os ⟨#[], #[], []⟩).heap.modify 0 fun
      | .cells _ t frozen => .cells #[.int .i64 60, .int .i64 300, .int .i64 900, .int .i64 3600, .int .i64 14400, .int .i64 86400] t frozen
      | o => o }

theorem penalMarks_row0 (os : Os) : ((laidWorld os).forCall (fun _ _ => 0) ⟨#[], #[.agg #[.int .i64 0, .int .i64 0, .int .i64 0], .int .i64 0], []⟩).memory.heap[0]? = some (.cells #[.int .i64 60, .int .i64 300, .int .i64 900, .int .i64 3600, .int .i64 14400, .int .i64 86400] 38 (0, 0)) := by kernel_rfl
theorem penalMarks_met (os : Os) : laidMet Tryd.prog [("tiltyard/penal.ladder", Rows.laid_tiltyard_penal_ladder)] ((laidWorld os).forCall (fun _ _ => 0) ⟨#[], #[.agg #[.int .i64 0, .int .i64 0, .int .i64 0], .int .i64 0], []⟩).memory :=
  ⟨_, ⟨0, 38, #[.int .i64 60, .int .i64 300, .int .i64 900, .int .i64 3600, .int .i64 14400, .int .i64 86400], 8, [], [], by kernel_rfl, by kernel_rfl, by kernel_rfl, by kernel_rfl, rfl, rfl⟩, by decide, fun b off h => by
    have h' : MemPlace.cell b off ∈ [MemPlace.cell 0 0, .cell 0 1, .cell 0 2, .cell 0 3, .cell 0 4, .cell 0 5] := h
    have hb : b = 0 := by
      simp at h'
      omega
    subst hb
    refine ⟨⟨_, _, penalMarks_row0 os⟩, fun u v hc => ?_⟩
    simp only [World.cell?, penalMarks_row0 os] at hc
    simp at h'
    rcases h' with rfl | rfl | rfl | rfl | rfl | rfl <;> simp at hc⟩
set_option maxRecDepth 100000 in
theorem penalMarks_lifted (os : Os) (started : os.Started) (H : Type) (enc : TypeId × Value → H) :
    ReturnsInHanded {} Tryd.checked os 3 .any (fun w args => (Rows.penalMarksSpec.pre enc Tryd.prog Tryd.f3 [] false w args ∧ laidMet Tryd.prog [("tiltyard/penal.ladder", Rows.laid_tiltyard_penal_ladder)] w) ∧ sizedMet enc Tryd.prog Tryd.f3 (OpenSpec.ofChange Rows.penalMarksSpec) false w args)
      (Rows.penalMarksSpec.post enc Tryd.prog Tryd.f3 false true false false) := by
  refine returnsInHanded_of_change_and (C := Tryd.checked) (X := fun w _ => laidMet Tryd.prog [("tiltyard/penal.ladder", Rows.laid_tiltyard_penal_ladder)] w) (fun _ _ _ hh h => h.of_heap hh) ownK started (by kernel_rfl) Tryd.func3
    (ChangeSpec.witness_at (enc := enc) (C := Tryd.checked) (os := os) (X := fun w _ => laidMet Tryd.prog [("tiltyard/penal.ladder", Rows.laid_tiltyard_penal_ladder)] w) false (laidWorld os) #[.agg #[.int .i64 0, .int .i64 0, .int .i64 0], .int .i64 0] 8 rfl (by kernel_rfl) (by kernel_rfl) (by kernel_rfl) (by kernel_rfl) (by kernel_rfl) (penalMarks_met os)) ?_
  intro W base args ds gs before hval0 hW _ _ hL _
  have hval : ∀ (j : Nat) t v, Tryd.f3.params[j]? = some t → args[j]? = some v → Value.okWide Tryd.prog W .any base t v := hval0
  have hW' := hW
  obtain ⟨p, q, hA0, hV, rfl, hfz, hnd⟩ := hW
  have hA : DataW.TrodAll enc Tryd.prog W 0 (fun _ => true) true Tryd.f3.params.toList args.toList ds p := hA0
  obtain ⟨rfl, rfl⟩ := trodVars_none hV
  obtain ⟨xs, hr, hw⟩ := args_of (k := 6) (by kernel_rfl : Tryd.f3.params.toList.all (fine Tryd.prog 6) = true) (fun j t v ht hv => hval j t v (by simpa using ht) (by simpa using hv)) hA
  have hcall := calls_of_acalls (glob_ok hL) hr (marks_args xs hw)
  have hA1 := hA
  rw [Tryd.params3] at hA1
  obtain ⟨v0, vs0, d0, ds0, p0, q0, hargs, rfl, rfl, h0, r0⟩ := trodAll_cons hA1
  obtain ⟨v1, vs1, d1, ds1, p1, q1, rfl, rfl, rfl, h1, r1⟩ := trodAll_cons r0
  obtain ⟨rfl, rfl, rfl⟩ := trodAll_nil r1
  refine hcall.mono fun e W' ⟨he, bel⟩ => ?_
  subst he
  exact ⟨_, rfl, _, _, _, [], _, [], hW', trodAll_mk1 (shut_bool Tryd.underlying4 _), below_trodAll laidOutK bel (by kernel_rfl) hA, rfl, bel.frame _, fun h => by cases h⟩
theorem penalMarks_over : Rows.penalMarksRow.holds Tryd.pinned (OpenSpec.ofChange Rows.penalMarksSpec) :=
  OpenClaim.holds_of_wide 3 Tryd.f3 rfl rfl rfl rfl rfl rfl rfl ⟨rfl, rfl, rfl, rfl, rfl⟩ rfl rfl rfl rfl rfl (by kernel_rfl) Tryd.func3 (by kernel_rfl)
    (of_decide_eq_true (by kernel_rfl)) (by unfold Func.isWrapper; rw [if_neg (of_decide_eq_false (by kernel_rfl))]; exact ⟨rfl, rfl⟩)
    (fun os started H enc _ => penalMarks_lifted os started H enc)
#print axioms penalMarks_over

theorem penalBetween_row0 (os : Os) : ((laidWorld os).forCall (fun _ _ => 0) ⟨#[], #[.agg #[.int .i64 0, .int .i64 0, .int .i64 0], .agg #[.int .i64 0, .int .i64 0]], []⟩).memory.heap[0]? = some (.cells #[.int .i64 60, .int .i64 300, .int .i64 900, .int .i64 3600, .int .i64 14400, .int .i64 86400] 38 (0, 0)) := by kernel_rfl
theorem penalBetween_met (os : Os) : laidMet Tryd.prog [("tiltyard/penal.ladder", Rows.laid_tiltyard_penal_ladder)] ((laidWorld os).forCall (fun _ _ => 0) ⟨#[], #[.agg #[.int .i64 0, .int .i64 0, .int .i64 0], .agg #[.int .i64 0, .int .i64 0]], []⟩).memory :=
  ⟨_, ⟨0, 38, #[.int .i64 60, .int .i64 300, .int .i64 900, .int .i64 3600, .int .i64 14400, .int .i64 86400], 8, [], [], by kernel_rfl, by kernel_rfl, by kernel_rfl, by kernel_rfl, rfl, rfl⟩, by decide, fun b off h => by
    have h' : MemPlace.cell b off ∈ [MemPlace.cell 0 0, .cell 0 1, .cell 0 2, .cell 0 3, .cell 0 4, .cell 0 5] := h
    have hb : b = 0 := by
      simp at h'
      omega
    subst hb
    refine ⟨⟨_, _, penalBetween_row0 os⟩, fun u v hc => ?_⟩
    simp only [World.cell?, penalBetween_row0 os] at hc
    simp at h'
    rcases h' with rfl | rfl | rfl | rfl | rfl | rfl <;> simp at hc⟩
set_option maxRecDepth 100000 in
theorem penalBetween_lifted (os : Os) (started : os.Started) (H : Type) (enc : TypeId × Value → H) :
    ReturnsInHanded {} Tryd.checked os 4 .any (fun w args => (Rows.penalBetweenSpec.pre enc Tryd.prog Tryd.f4 [] false w args ∧ laidMet Tryd.prog [("tiltyard/penal.ladder", Rows.laid_tiltyard_penal_ladder)] w) ∧ sizedMet enc Tryd.prog Tryd.f4 (OpenSpec.ofChange Rows.penalBetweenSpec) false w args)
      (Rows.penalBetweenSpec.post enc Tryd.prog Tryd.f4 false true false false) := by
  refine returnsInHanded_of_change_and (C := Tryd.checked) (X := fun w _ => laidMet Tryd.prog [("tiltyard/penal.ladder", Rows.laid_tiltyard_penal_ladder)] w) (fun _ _ _ hh h => h.of_heap hh) ownK started (by kernel_rfl) Tryd.func4
    (ChangeSpec.witness_at (enc := enc) (C := Tryd.checked) (os := os) (X := fun w _ => laidMet Tryd.prog [("tiltyard/penal.ladder", Rows.laid_tiltyard_penal_ladder)] w) false (laidWorld os) #[.agg #[.int .i64 0, .int .i64 0, .int .i64 0], .agg #[.int .i64 0, .int .i64 0]] 8 rfl (by kernel_rfl) (by kernel_rfl) (by kernel_rfl) (by kernel_rfl) (by kernel_rfl) (penalBetween_met os)) ?_
  intro W base args ds gs before hval0 hW _ _ hL _
  have hval : ∀ (j : Nat) t v, Tryd.f4.params[j]? = some t → args[j]? = some v → Value.okWide Tryd.prog W .any base t v := hval0
  have hW' := hW
  obtain ⟨p, q, hA0, hV, rfl, hfz, hnd⟩ := hW
  have hA : DataW.TrodAll enc Tryd.prog W 0 (fun _ => true) true Tryd.f4.params.toList args.toList ds p := hA0
  obtain ⟨rfl, rfl⟩ := trodVars_none hV
  obtain ⟨xs, hr, hw⟩ := args_of (k := 6) (by kernel_rfl : Tryd.f4.params.toList.all (fine Tryd.prog 6) = true) (fun j t v ht hv => hval j t v (by simpa using ht) (by simpa using hv)) hA
  have hcall := calls_of_acalls (glob_ok hL) hr (between_args xs hw)
  have hA1 := hA
  rw [Tryd.params4] at hA1
  obtain ⟨v0, vs0, d0, ds0, p0, q0, hargs, rfl, rfl, h0, r0⟩ := trodAll_cons hA1
  obtain ⟨v1, vs1, d1, ds1, p1, q1, rfl, rfl, rfl, h1, r1⟩ := trodAll_cons r0
  obtain ⟨rfl, rfl, rfl⟩ := trodAll_nil r1
  refine hcall.mono fun e W' ⟨he, bel⟩ => ?_
  subst he
  exact ⟨_, rfl, _, _, _, [], _, [], hW', trodAll_mk1 (shut_bool Tryd.underlying4 _), below_trodAll laidOutK bel (by kernel_rfl) hA, rfl, bel.frame _, fun h => by cases h⟩
theorem penalBetween_over : Rows.penalBetweenRow.holds Tryd.pinned (OpenSpec.ofChange Rows.penalBetweenSpec) :=
  OpenClaim.holds_of_wide 4 Tryd.f4 rfl rfl rfl rfl rfl rfl rfl ⟨rfl, rfl, rfl, rfl, rfl⟩ rfl rfl rfl rfl rfl (by kernel_rfl) Tryd.func4 (by kernel_rfl)
    (of_decide_eq_true (by kernel_rfl)) (by unfold Func.isWrapper; rw [if_neg (of_decide_eq_false (by kernel_rfl))]; exact ⟨rfl, rfl⟩)
    (fun os started H enc _ => penalBetween_lifted os started H enc)
#print axioms penalBetween_over

theorem penalHarder_row0 (os : Os) : ((laidWorld os).forCall (fun _ _ => 0) ⟨#[], #[.agg #[.int .i64 0, .int .i64 0, .int .i64 0], .int .i64 0], []⟩).memory.heap[0]? = some (.cells #[.int .i64 60, .int .i64 300, .int .i64 900, .int .i64 3600, .int .i64 14400, .int .i64 86400] 38 (0, 0)) := by kernel_rfl
theorem penalHarder_met (os : Os) : laidMet Tryd.prog [("tiltyard/penal.ladder", Rows.laid_tiltyard_penal_ladder)] ((laidWorld os).forCall (fun _ _ => 0) ⟨#[], #[.agg #[.int .i64 0, .int .i64 0, .int .i64 0], .int .i64 0], []⟩).memory :=
  ⟨_, ⟨0, 38, #[.int .i64 60, .int .i64 300, .int .i64 900, .int .i64 3600, .int .i64 14400, .int .i64 86400], 8, [], [], by kernel_rfl, by kernel_rfl, by kernel_rfl, by kernel_rfl, rfl, rfl⟩, by decide, fun b off h => by
    have h' : MemPlace.cell b off ∈ [MemPlace.cell 0 0, .cell 0 1, .cell 0 2, .cell 0 3, .cell 0 4, .cell 0 5] := h
    have hb : b = 0 := by
      simp at h'
      omega
    subst hb
    refine ⟨⟨_, _, penalHarder_row0 os⟩, fun u v hc => ?_⟩
    simp only [World.cell?, penalHarder_row0 os] at hc
    simp at h'
    rcases h' with rfl | rfl | rfl | rfl | rfl | rfl <;> simp at hc⟩
set_option maxRecDepth 100000 in
theorem penalHarder_lifted (os : Os) (started : os.Started) (H : Type) (enc : TypeId × Value → H) :
    ReturnsInHanded {} Tryd.checked os 5 .any (fun w args => (Rows.penalHarderSpec.pre enc Tryd.prog Tryd.f5 [] false w args ∧ laidMet Tryd.prog [("tiltyard/penal.ladder", Rows.laid_tiltyard_penal_ladder)] w) ∧ sizedMet enc Tryd.prog Tryd.f5 (OpenSpec.ofChange Rows.penalHarderSpec) false w args)
      (Rows.penalHarderSpec.post enc Tryd.prog Tryd.f5 false true false false) := by
  refine returnsInHanded_of_change_and (C := Tryd.checked) (X := fun w _ => laidMet Tryd.prog [("tiltyard/penal.ladder", Rows.laid_tiltyard_penal_ladder)] w) (fun _ _ _ hh h => h.of_heap hh) ownK started (by kernel_rfl) Tryd.func5
    (ChangeSpec.witness_at (enc := enc) (C := Tryd.checked) (os := os) (X := fun w _ => laidMet Tryd.prog [("tiltyard/penal.ladder", Rows.laid_tiltyard_penal_ladder)] w) false (laidWorld os) #[.agg #[.int .i64 0, .int .i64 0, .int .i64 0], .int .i64 0] 8 rfl (by kernel_rfl) (by kernel_rfl) (by kernel_rfl) (by kernel_rfl) (by kernel_rfl) (penalHarder_met os)) ?_
  intro W base args ds gs before hval0 hW _ _ hL _
  have hval : ∀ (j : Nat) t v, Tryd.f5.params[j]? = some t → args[j]? = some v → Value.okWide Tryd.prog W .any base t v := hval0
  have hW' := hW
  obtain ⟨p, q, hA0, hV, rfl, hfz, hnd⟩ := hW
  have hA : DataW.TrodAll enc Tryd.prog W 0 (fun _ => true) true Tryd.f5.params.toList args.toList ds p := hA0
  obtain ⟨rfl, rfl⟩ := trodVars_none hV
  obtain ⟨xs, hr, hw⟩ := args_of (k := 6) (by kernel_rfl : Tryd.f5.params.toList.all (fine Tryd.prog 6) = true) (fun j t v ht hv => hval j t v (by simpa using ht) (by simpa using hv)) hA
  have hcall := calls_of_acalls (glob_ok hL) hr (harder_args xs hw)
  have hA1 := hA
  rw [Tryd.params5] at hA1
  obtain ⟨v0, vs0, d0, ds0, p0, q0, hargs, rfl, rfl, h0, r0⟩ := trodAll_cons hA1
  obtain ⟨v1, vs1, d1, ds1, p1, q1, rfl, rfl, rfl, h1, r1⟩ := trodAll_cons r0
  obtain ⟨rfl, rfl, rfl⟩ := trodAll_nil r1
  refine hcall.mono fun e W' ⟨he, bel⟩ => ?_
  subst he
  exact ⟨_, rfl, _, _, _, [], _, [], hW', trodAll_mk1 (shut_bool Tryd.underlying4 _), below_trodAll laidOutK bel (by kernel_rfl) hA, rfl, bel.frame _, fun h => by cases h⟩
theorem penalHarder_over : Rows.penalHarderRow.holds Tryd.pinned (OpenSpec.ofChange Rows.penalHarderSpec) :=
  OpenClaim.holds_of_wide 5 Tryd.f5 rfl rfl rfl rfl rfl rfl rfl ⟨rfl, rfl, rfl, rfl, rfl⟩ rfl rfl rfl rfl rfl (by kernel_rfl) Tryd.func5 (by kernel_rfl)
    (of_decide_eq_true (by kernel_rfl)) (by unfold Func.isWrapper; rw [if_neg (of_decide_eq_false (by kernel_rfl))]; exact ⟨rfl, rfl⟩)
    (fun os started H enc _ => penalHarder_lifted os started H enc)
#print axioms penalHarder_over
end Go.Proofs.YtgknnjbojkjiaaaDoor
