/-
  The rows of PenalNil, PenalRuns and PenalForgets.
-/
import Derived.Test.YtcmknbanojcbaaaDoorHl
import Derived.Test.YtcmknbanojcbaaaDoorA6
import Derived.Test.YtcmknbanojcbaaaDoorRows
import Derived.Test.YtcmknbanojcbaaaDoorTie
import Derived.Test.YtcmknbanojcbaaaDoorCards
import Derived.WalkKit
import Derived.ProofKit
import Derived.OpenShut
import Derived.ChangeSame
import Derived.ChangeVars
import Derived.JoinedOf
import Derived.RowKit
import Derived.SevenTiedAt
namespace Go.Proofs.YtcmknbanojcbaaaDoor
open Go Go.AM Go.ChangeShapes Go.WideShapes Go.ChangeAt Go.RowKit
theorem ownK : ownKnob Tryd.prog.godebug = none := by kernel_rfl
theorem laidOutK : laidOutB Tryd.prog = true := by kernel_rfl
theorem var0 : Tryd.prog.globalNamed "tiltyard/penal.ladder" = some 0 := by kernel_rfl
theorem var0T : (Tryd.prog.globals[0]?).map (·.type) = some 68 := by kernel_rfl
theorem glob_ok {W : World} (h : laidMet Tryd.prog [("tiltyard/penal.ladder", Rows.laid_tiltyard_penal_ladder)] W) : GlobOk (gh0 W) W gl := by
  obtain ⟨ps, h, _⟩ := h
  obtain ⟨hc0, ps, h⟩ := table_of_laid (ns := [60, 300, 900, 3600, 14400, 86400]) (k := .i64) var0 var0T Tryd.underlying68 Tryd.underlying2 (by kernel_rfl) (by kernel_rfl) rfl h
  refine globOk_of fun k cs hk => ?_
  unfold gl at hk
  split at hk
  · cases hk; exact ⟨_, relL_ints .i64 [60, 300, 900, 3600, 14400, 86400], hc0⟩
  · cases hk
noncomputable def laidWorld (os : Os) : World :=
  { World.holding Tryd.prog os ⟨#[], #[], []⟩ with heap := ((World.holding Tryd.prog os ⟨#[], #[], []⟩).heap.modify 0 fun
      | .cells _ t frozen => .cells #[.int .i64 60, .int .i64 300, .int .i64 900, .int .i64 3600, .int .i64 14400, .int .i64 86400] t frozen
      | o => o) }
theorem penalNil_row0 (os : Os) : ((laidWorld os).forCall (fun _ _ => 0) ⟨#[], #[.int .u32 0, .int .i64 0], []⟩).memory.heap[0]? = some (.cells #[.int .i64 60, .int .i64 300, .int .i64 900, .int .i64 3600, .int .i64 14400, .int .i64 86400] 68 (0, 0)) := by kernel_rfl
theorem penalNil_met (os : Os) : laidMet Tryd.prog [("tiltyard/penal.ladder", Rows.laid_tiltyard_penal_ladder)] ((laidWorld os).forCall (fun _ _ => 0) ⟨#[], #[.int .u32 0, .int .i64 0], []⟩).memory :=
  ⟨[MemPlace.cell 0 0, MemPlace.cell 0 1, MemPlace.cell 0 2, MemPlace.cell 0 3, MemPlace.cell 0 4, MemPlace.cell 0 5], ⟨0, 68, #[.int .i64 60, .int .i64 300, .int .i64 900, .int .i64 3600, .int .i64 14400, .int .i64 86400], 8, [], _, by kernel_rfl, by kernel_rfl, by kernel_rfl, by kernel_rfl, rfl, rfl⟩, by decide, fun b off h => by
    have h' : MemPlace.cell b off ∈ [MemPlace.cell 0 0, MemPlace.cell 0 1, MemPlace.cell 0 2, MemPlace.cell 0 3, MemPlace.cell 0 4, MemPlace.cell 0 5] := h
    simp only [List.mem_cons, List.not_mem_nil, or_false, MemPlace.cell.injEq] at h'
    have hb : (b = 0 ∧ off < 6) := by omega
    rcases hb with ⟨rfl, ho⟩
    · refine ⟨⟨_, _, penalNil_row0 os⟩, fun u v hc => ?_⟩
      simp only [World.cell?, penalNil_row0 os] at hc
      have hl : (#[.int .i64 60, .int .i64 300, .int .i64 900, .int .i64 3600, .int .i64 14400, .int .i64 86400] : Array Value).toList.all (fun v => match v with | .iface _ _ => false | _ => true) = true := rfl
      have hm := List.all_eq_true.1 hl _ (Array.mem_toList_iff.2 (Array.mem_of_getElem? hc))
      cases hm⟩
set_option maxRecDepth 100000 in
theorem penalNil_lifted (os : Os) (started : os.Started) (H : Type) (enc : TypeId × Value → H) :
    ReturnsInHanded {} Tryd.checked os 3 .any (fun w args => (Rows.penalNilSpec.pre enc Tryd.prog Tryd.f3 [] false w args ∧ laidMet Tryd.prog [("tiltyard/penal.ladder", Rows.laid_tiltyard_penal_ladder)] w) ∧ sizedMet enc Tryd.prog Tryd.f3 (OpenSpec.ofChange Rows.penalNilSpec) false w args)
      (Rows.penalNilSpec.post enc Tryd.prog Tryd.f3 false true false false) := by
  refine returnsInHanded_of_change_and (C := Tryd.checked) (X := fun w _ => laidMet Tryd.prog [("tiltyard/penal.ladder", Rows.laid_tiltyard_penal_ladder)] w) (fun _ _ _ hh h => h.of_heap hh) ownK started (by kernel_rfl) Tryd.func3
    (ChangeSpec.witness_at (enc := enc) (C := Tryd.checked) (os := os) (X := fun w _ => laidMet Tryd.prog [("tiltyard/penal.ladder", Rows.laid_tiltyard_penal_ladder)] w) false (laidWorld os) #[.int .u32 0, .int .i64 0] 8 rfl (by kernel_rfl) (by kernel_rfl) (by kernel_rfl) (by kernel_rfl) (by kernel_rfl) (penalNil_met os)) ?_
  intro W base args ds gs before hval0 hW _ _ hL _
  have hval : ∀ (j : Nat) t v, Tryd.f3.params[j]? = some t → args[j]? = some v → Value.okWide Tryd.prog W .any base t v := hval0
  have hW' := hW
  obtain ⟨p, q, hA0, hV, rfl, hfz, hnd⟩ := hW
  have hA : DataW.TrodAll enc Tryd.prog W 0 (fun _ => true) true Tryd.f3.params.toList args.toList ds p := hA0
  obtain ⟨rfl, rfl⟩ := trodVars_none hV
  obtain ⟨xs, hr, hw⟩ := args_of (k := 6) (by kernel_rfl : Tryd.f3.params.toList.all (fine Tryd.prog 6) = true) (fun j t v ht hv => hval j t v (by simpa using ht) (by simpa using hv)) hA
  have hcall := calls_of_acalls (glob_ok hL) hr (nil_args xs hw)
  have hA1 := hA
  rw [Tryd.params3] at hA1
  obtain ⟨v0, vs0, d0, ds0, p0, q0, hargs, rfl, rfl, h0, r0⟩ := trodAll_cons hA1
  obtain ⟨v1, vs1, d1, ds1, p1, q1, rfl, rfl, rfl, h1, r1⟩ := trodAll_cons r0
  obtain ⟨rfl, rfl, rfl⟩ := trodAll_nil r1
  refine hcall.mono fun e W' ⟨he, bel⟩ => ?_
  subst he
  exact ⟨_, rfl, _, _, _, [], _, [], hW', trodAll_mk1 (shut_bool Tryd.underlying4 _), below_trodAll laidOutK bel (by kernel_rfl) hA, rfl, bel.frame _, fun h => by cases h⟩
theorem penalNil_over : Rows.penalNilRow.holds Tryd.pinned (OpenSpec.ofChange Rows.penalNilSpec) :=
  OpenClaim.holds_of_wide 3 Tryd.f3 rfl rfl rfl rfl rfl rfl rfl ⟨rfl, rfl, rfl, rfl, rfl⟩ rfl rfl rfl rfl rfl (by kernel_rfl) Tryd.func3 (by kernel_rfl)
    (of_decide_eq_true (by kernel_rfl)) (by unfold Func.isWrapper; rw [if_neg (of_decide_eq_false (by kernel_rfl))]; exact ⟨rfl, rfl⟩)
    (fun os started H enc _ => penalNil_lifted os started H enc)
#print axioms penalNil_over
theorem penalRuns_row0 (os : Os) : ((laidWorld os).forCall (fun _ _ => 0) ⟨#[], #[.int .i64 0, .slice none 0 0], []⟩).memory.heap[0]? = some (.cells #[.int .i64 60, .int .i64 300, .int .i64 900, .int .i64 3600, .int .i64 14400, .int .i64 86400] 68 (0, 0)) := by kernel_rfl
theorem penalRuns_met (os : Os) : laidMet Tryd.prog [("tiltyard/penal.ladder", Rows.laid_tiltyard_penal_ladder)] ((laidWorld os).forCall (fun _ _ => 0) ⟨#[], #[.int .i64 0, .slice none 0 0], []⟩).memory :=
  ⟨[MemPlace.cell 0 0, MemPlace.cell 0 1, MemPlace.cell 0 2, MemPlace.cell 0 3, MemPlace.cell 0 4, MemPlace.cell 0 5], ⟨0, 68, #[.int .i64 60, .int .i64 300, .int .i64 900, .int .i64 3600, .int .i64 14400, .int .i64 86400], 8, [], _, by kernel_rfl, by kernel_rfl, by kernel_rfl, by kernel_rfl, rfl, rfl⟩, by decide, fun b off h => by
    have h' : MemPlace.cell b off ∈ [MemPlace.cell 0 0, MemPlace.cell 0 1, MemPlace.cell 0 2, MemPlace.cell 0 3, MemPlace.cell 0 4, MemPlace.cell 0 5] := h
    simp only [List.mem_cons, List.not_mem_nil, or_false, MemPlace.cell.injEq] at h'
    have hb : (b = 0 ∧ off < 6) := by omega
    rcases hb with ⟨rfl, ho⟩
    · refine ⟨⟨_, _, penalRuns_row0 os⟩, fun u v hc => ?_⟩
      simp only [World.cell?, penalRuns_row0 os] at hc
      have hl : (#[.int .i64 60, .int .i64 300, .int .i64 900, .int .i64 3600, .int .i64 14400, .int .i64 86400] : Array Value).toList.all (fun v => match v with | .iface _ _ => false | _ => true) = true := rfl
      have hm := List.all_eq_true.1 hl _ (Array.mem_toList_iff.2 (Array.mem_of_getElem? hc))
      cases hm⟩
set_option maxRecDepth 100000 in
theorem penalRuns_lifted (os : Os) (started : os.Started) (H : Type) (enc : TypeId × Value → H) :
    ReturnsInHanded {} Tryd.checked os 4 .any (fun w args => (Rows.penalRunsSpec.pre enc Tryd.prog Tryd.f4 [] false w args ∧ laidMet Tryd.prog [("tiltyard/penal.ladder", Rows.laid_tiltyard_penal_ladder)] w) ∧ sizedMet enc Tryd.prog Tryd.f4 (OpenSpec.ofChange Rows.penalRunsSpec) false w args)
      (Rows.penalRunsSpec.post enc Tryd.prog Tryd.f4 false true false false) := by
  refine returnsInHanded_of_change_and (C := Tryd.checked) (X := fun w _ => laidMet Tryd.prog [("tiltyard/penal.ladder", Rows.laid_tiltyard_penal_ladder)] w) (fun _ _ _ hh h => h.of_heap hh) ownK started (by kernel_rfl) Tryd.func4
    (ChangeSpec.witness_at (enc := enc) (C := Tryd.checked) (os := os) (X := fun w _ => laidMet Tryd.prog [("tiltyard/penal.ladder", Rows.laid_tiltyard_penal_ladder)] w) false (laidWorld os) #[.int .i64 0, .slice none 0 0] 8 rfl (by kernel_rfl) (by kernel_rfl) (by kernel_rfl) (by kernel_rfl) (by kernel_rfl) (penalRuns_met os)) ?_
  intro W base args ds gs before hval0 hW _ _ hL _
  have hval : ∀ (j : Nat) t v, Tryd.f4.params[j]? = some t → args[j]? = some v → Value.okWide Tryd.prog W .any base t v := hval0
  have hW' := hW
  obtain ⟨p, q, hA0, hV, rfl, hfz, hnd⟩ := hW
  have hA : DataW.TrodAll enc Tryd.prog W 0 (fun _ => true) true Tryd.f4.params.toList args.toList ds p := hA0
  obtain ⟨rfl, rfl⟩ := trodVars_none hV
  obtain ⟨xs, hr, hw⟩ := args_of (k := 6) (by kernel_rfl : Tryd.f4.params.toList.all (fine Tryd.prog 6) = true) (fun j t v ht hv => hval j t v (by simpa using ht) (by simpa using hv)) hA
  have hcall := calls_of_acalls (glob_ok hL) hr (runs_args xs hw)
  have hA1 := hA
  rw [Tryd.params4] at hA1
  obtain ⟨v0, vs0, d0, ds0, p0, q0, hargs, rfl, rfl, h0, r0⟩ := trodAll_cons hA1
  obtain ⟨v1, vs1, d1, ds1, p1, q1, rfl, rfl, rfl, h1, r1⟩ := trodAll_cons r0
  obtain ⟨rfl, rfl, rfl⟩ := trodAll_nil r1
  refine hcall.mono fun e W' ⟨he, bel⟩ => ?_
  subst he
  exact ⟨_, rfl, _, _, _, [], _, [], hW', trodAll_mk1 (shut_bool Tryd.underlying4 _), below_trodAll laidOutK bel (by kernel_rfl) hA, rfl, bel.frame _, fun h => by cases h⟩
theorem penalRuns_over : Rows.penalRunsRow.holds Tryd.pinned (OpenSpec.ofChange Rows.penalRunsSpec) :=
  OpenClaim.holds_of_wide 4 Tryd.f4 rfl rfl rfl rfl rfl rfl rfl ⟨rfl, rfl, rfl, rfl, rfl⟩ rfl rfl rfl rfl rfl (by kernel_rfl) Tryd.func4 (by kernel_rfl)
    (of_decide_eq_true (by kernel_rfl)) (by unfold Func.isWrapper; rw [if_neg (of_decide_eq_false (by kernel_rfl))]; exact ⟨rfl, rfl⟩)
    (fun os started H enc _ => penalRuns_lifted os started H enc)
#print axioms penalRuns_over
theorem penalForgets_row0 (os : Os) : ((laidWorld os).forCall (fun _ _ => 0) ⟨#[], #[.slice none 0 0, .int .u32 0], []⟩).memory.heap[0]? = some (.cells #[.int .i64 60, .int .i64 300, .int .i64 900, .int .i64 3600, .int .i64 14400, .int .i64 86400] 68 (0, 0)) := by kernel_rfl
theorem penalForgets_met (os : Os) : laidMet Tryd.prog [("tiltyard/penal.ladder", Rows.laid_tiltyard_penal_ladder)] ((laidWorld os).forCall (fun _ _ => 0) ⟨#[], #[.slice none 0 0, .int .u32 0], []⟩).memory :=
  ⟨[MemPlace.cell 0 0, MemPlace.cell 0 1, MemPlace.cell 0 2, MemPlace.cell 0 3, MemPlace.cell 0 4, MemPlace.cell 0 5], ⟨0, 68, #[.int .i64 60, .int .i64 300, .int .i64 900, .int .i64 3600, .int .i64 14400, .int .i64 86400], 8, [], _, by kernel_rfl, by kernel_rfl, by kernel_rfl, by kernel_rfl, rfl, rfl⟩, by decide, fun b off h => by
    have h' : MemPlace.cell b off ∈ [MemPlace.cell 0 0, MemPlace.cell 0 1, MemPlace.cell 0 2, MemPlace.cell 0 3, MemPlace.cell 0 4, MemPlace.cell 0 5] := h
    simp only [List.mem_cons, List.not_mem_nil, or_false, MemPlace.cell.injEq] at h'
    have hb : (b = 0 ∧ off < 6) := by omega
    rcases hb with ⟨rfl, ho⟩
    · refine ⟨⟨_, _, penalForgets_row0 os⟩, fun u v hc => ?_⟩
      simp only [World.cell?, penalForgets_row0 os] at hc
      have hl : (#[.int .i64 60, .int .i64 300, .int .i64 900, .int .i64 3600, .int .i64 14400, .int .i64 86400] : Array Value).toList.all (fun v => match v with | .iface _ _ => false | _ => true) = true := rfl
      have hm := List.all_eq_true.1 hl _ (Array.mem_toList_iff.2 (Array.mem_of_getElem? hc))
      cases hm⟩
set_option maxRecDepth 100000 in
theorem penalForgets_lifted (os : Os) (started : os.Started) (H : Type) (enc : TypeId × Value → H) :
    ReturnsInHanded {} Tryd.checked os 5 .any (fun w args => (Rows.penalForgetsSpec.pre enc Tryd.prog Tryd.f5 [] false w args ∧ laidMet Tryd.prog [("tiltyard/penal.ladder", Rows.laid_tiltyard_penal_ladder)] w) ∧ sizedMet enc Tryd.prog Tryd.f5 (OpenSpec.ofChange Rows.penalForgetsSpec) false w args)
      (Rows.penalForgetsSpec.post enc Tryd.prog Tryd.f5 false true false false) := by
  refine returnsInHanded_of_change_and (C := Tryd.checked) (X := fun w _ => laidMet Tryd.prog [("tiltyard/penal.ladder", Rows.laid_tiltyard_penal_ladder)] w) (fun _ _ _ hh h => h.of_heap hh) ownK started (by kernel_rfl) Tryd.func5
    (ChangeSpec.witness_at (enc := enc) (C := Tryd.checked) (os := os) (X := fun w _ => laidMet Tryd.prog [("tiltyard/penal.ladder", Rows.laid_tiltyard_penal_ladder)] w) false (laidWorld os) #[.slice none 0 0, .int .u32 0] 8 rfl (by kernel_rfl) (by kernel_rfl) (by kernel_rfl) (by kernel_rfl) (by kernel_rfl) (penalForgets_met os)) ?_
  intro W base args ds gs before hval0 hW _ _ hL _
  have hval : ∀ (j : Nat) t v, Tryd.f5.params[j]? = some t → args[j]? = some v → Value.okWide Tryd.prog W .any base t v := hval0
  have hW' := hW
  obtain ⟨p, q, hA0, hV, rfl, hfz, hnd⟩ := hW
  have hA : DataW.TrodAll enc Tryd.prog W 0 (fun _ => true) true Tryd.f5.params.toList args.toList ds p := hA0
  obtain ⟨rfl, rfl⟩ := trodVars_none hV
  obtain ⟨xs, hr, hw⟩ := args_of (k := 6) (by kernel_rfl : Tryd.f5.params.toList.all (fine Tryd.prog 6) = true) (fun j t v ht hv => hval j t v (by simpa using ht) (by simpa using hv)) hA
  have hcall := calls_of_acalls (glob_ok hL) hr (forg_args xs hw)
  have hA1 := hA
  rw [Tryd.params5] at hA1
  obtain ⟨v0, vs0, d0, ds0, p0, q0, hargs, rfl, rfl, h0, r0⟩ := trodAll_cons hA1
  obtain ⟨v1, vs1, d1, ds1, p1, q1, rfl, rfl, rfl, h1, r1⟩ := trodAll_cons r0
  obtain ⟨rfl, rfl, rfl⟩ := trodAll_nil r1
  refine hcall.mono fun e W' ⟨he, bel⟩ => ?_
  subst he
  exact ⟨_, rfl, _, _, _, [], _, [], hW', trodAll_mk1 (shut_bool Tryd.underlying4 _), below_trodAll laidOutK bel (by kernel_rfl) hA, rfl, bel.frame _, fun h => by cases h⟩
theorem penalForgets_over : Rows.penalForgetsRow.holds Tryd.pinned (OpenSpec.ofChange Rows.penalForgetsSpec) :=
  OpenClaim.holds_of_wide 5 Tryd.f5 rfl rfl rfl rfl rfl rfl rfl ⟨rfl, rfl, rfl, rfl, rfl⟩ rfl rfl rfl rfl rfl (by kernel_rfl) Tryd.func5 (by kernel_rfl)
    (of_decide_eq_true (by kernel_rfl)) (by unfold Func.isWrapper; rw [if_neg (of_decide_eq_false (by kernel_rfl))]; exact ⟨rfl, rfl⟩)
    (fun os started H enc _ => penalForgets_lifted os started H enc)
#print axioms penalForgets_over
end Go.Proofs.YtcmknbanojcbaaaDoor
