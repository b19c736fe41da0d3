/-
  QueueRuns' law.
-/
import Derived.Test.YtcmknbanojcbaaaUi
import Derived.Test.YtcmknbanojcbaaaA6
import Derived.Test.YtcmknbanojcbaaaProg
namespace Go.Proofs.Ytcmknbanojcbaaa
open Go Go.AM Go.Proofs
theorem runs_law (ms : List Mo) (acs : List Ac) (nn : ∀ a ∈ acs, Nn a.t) : ACalls Try.prog gl 9 [.list (ms.map Mo.cs) .no, .list (acs.map Ac.cs) .no] [] (fun x _ => x = .bool true) := by
  refine ru1_vc ms acs (fun x => x = .bool true) ?_
  simp only [br_if, List.length_map]
  by_cases c1 : acs.length ≤ 60
  · rw [if_pos (by simp; omega)]
    by_cases c2 : ms.length ≤ 6
    · rw [if_neg (by simp; omega)]
      exact ⟨ms, .no, rfl, by omega, S0, _, _, _, _, _, _, _, _, _, _, _, _, ms, rfl, by omega, ms, acs, c2, c1, nn, rfl, rfl, fun _ _ _ => trivial, fun _ _ _ => ⟨rfl, trivial⟩⟩
    · rw [if_pos (by simp; omega)]; trivial
  · rw [if_neg (by simp; omega)]; trivial
#print axioms runs_law
set_option maxRecDepth 10000
theorem u2 : Try.prog.underlying 2 = some (.int .i64) := by kernel_rfl
theorem u3 : Try.prog.underlying 3 = some (.int .i64) := by kernel_rfl
theorem u4 : Try.prog.underlying 4 = some .bool := by kernel_rfl
theorem u25 : Try.prog.underlying 25 = some (.int .u32) := by kernel_rfl
theorem u22 : Try.prog.underlying 22 = some (.slice 25) := by kernel_rfl
theorem u66 : Try.prog.underlying 66 = some (.slice 78) := by kernel_rfl
theorem u86 : Try.prog.underlying 86 = some (.slice 141) := by kernel_rfl
theorem u87 : Try.prog.underlying 87 = some (.slice 90) := by kernel_rfl
theorem s78 : ∃ fs, Try.prog.underlying 78 = some (.struct fs) ∧ fs.toList.map (·.type) = [25, 3, 22, 3, 2] := ⟨_, Try.underlying78, rfl⟩
theorem s90 : ∃ fs, Try.prog.underlying 90 = some (.struct fs) ∧ fs.toList.map (·.type) = [4, 78] := ⟨_, Try.underlying90, rfl⟩
theorem s141 : ∃ fs, Try.prog.underlying 141 = some (.struct fs) ∧ fs.toList.map (·.type) = [3, 3, 3, 3, 2] := ⟨_, Try.underlying141, rfl⟩
theorem pl_of {k : Nat} {xs : List PV} (h : WTp Try.prog (k + 1 + 1) 22 xs) : ∃ l : List Int, xs = [.list (l.map u1) .no] ∧ ∀ p ∈ l, 0 ≤ p := by
  obtain ⟨es, rfl, _, g⟩ := wtp_list u22 h
  obtain ⟨l, rfl, hl⟩ := list_of (f := u1) (Q := fun n => 0 ≤ n) fun r hr => by
    obtain ⟨n, h1, h2, _⟩ := wtp_int u25 (g r hr)
    exact ⟨n, h1, h2⟩
  exact ⟨l, rfl, hl⟩
theorem tk_of {k : Nat} {cs : List PV} (h : WTp Try.prog (k + 1 + 1 + 1) 78 cs) : ∃ t : Tk, cs = csT t ∧ Nn t := by
  obtain ⟨fs, hs, hf⟩ := s78
  have g := wtp_struct hs h
  rw [hf] at g
  obtain ⟨x1, r1, rfl, h1, g⟩ := wfs_cons g
  obtain ⟨x2, r2, rfl, h2, g⟩ := wfs_cons g
  obtain ⟨x3, r3, rfl, h3, g⟩ := wfs_cons g
  obtain ⟨x4, r4, rfl, h4, g⟩ := wfs_cons g
  obtain ⟨x5, r5, rfl, h5, g⟩ := wfs_cons g
  obtain rfl := wfs_nil g
  obtain ⟨a, rfl, h6, _⟩ := wtp_int u25 h1
  obtain ⟨b, rfl, _⟩ := wtp_int u3 h2
  obtain ⟨l, rfl, h7⟩ := pl_of h3
  obtain ⟨c, rfl, _⟩ := wtp_int u3 h4
  obtain ⟨d, rfl, _⟩ := wtp_int u2 h5
  exact ⟨⟨a, b, l, c, d⟩, rfl, h6, h7⟩
theorem ac_of {k : Nat} {cs : List PV} (h : WTp Try.prog (k + 1 + 1 + 1 + 1) 90 cs) : ∃ a : Ac, cs = a.cs ∧ Nn a.t := by
  obtain ⟨fs, hs, hf⟩ := s90
  have g := wtp_struct hs h
  rw [hf] at g
  obtain ⟨x1, r1, rfl, h1, g⟩ := wfs_cons g
  obtain ⟨x2, r2, rfl, h2, g⟩ := wfs_cons g
  obtain rfl := wfs_nil g
  obtain ⟨b, rfl⟩ := wtp_bool u4 h1
  obtain ⟨t, rfl, h3⟩ := tk_of h2
  exact ⟨⟨b, t⟩, by simp [Ac.cs, Tk.cells], h3⟩
theorem mo_of {k : Nat} {cs : List PV} (h : WTp Try.prog (k + 1 + 1) 141 cs) : ∃ m : Mo, cs = m.cs ∧ True := by
  obtain ⟨fs, hs, hf⟩ := s141
  have g := wtp_struct hs h
  rw [hf] at g
  obtain ⟨x1, r1, rfl, h1, g⟩ := wfs_cons g
  obtain ⟨x2, r2, rfl, h2, g⟩ := wfs_cons g
  obtain ⟨x3, r3, rfl, h3, g⟩ := wfs_cons g
  obtain ⟨x4, r4, rfl, h4, g⟩ := wfs_cons g
  obtain ⟨x5, r5, rfl, h5, g⟩ := wfs_cons g
  obtain rfl := wfs_nil g
  obtain ⟨a, rfl, _⟩ := wtp_int u3 h1
  obtain ⟨b, rfl, _⟩ := wtp_int u3 h2
  obtain ⟨c, rfl, _⟩ := wtp_int u3 h3
  obtain ⟨d, rfl, _⟩ := wtp_int u3 h4
  obtain ⟨e, rfl, _⟩ := wtp_int u2 h5
  exact ⟨⟨a, b, c, d, e⟩, rfl, trivial⟩
theorem runs_args (xs : List PV) (h : WTargs Try.prog 6 Try.f9.params.toList xs) : ACalls Try.prog gl 9 xs [] (fun x _ => x = .bool true) := by
  rw [Try.params9] at h
  obtain ⟨x, r, rfl, h1, y, r2, rfl, h2, h3⟩ := h
  obtain rfl := wtargs_nil h3
  obtain ⟨es, rfl, _, g⟩ := wta_list u86 h1
  obtain ⟨ms, rfl, _⟩ := list_of (f := Mo.cs) (Q := fun _ => True) fun r hr => mo_of (g r hr)
  obtain ⟨es2, rfl, _, g2⟩ := wta_list u87 h2
  obtain ⟨acs, rfl, hl⟩ := list_of (f := Ac.cs) (Q := fun a => Nn a.t) fun r hr => ac_of (g2 r hr)
  exact runs_law ms acs hl
#print axioms runs_args
end Go.Proofs.Ytcmknbanojcbaaa
