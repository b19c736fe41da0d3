/-
  An abstract machine over values without memory, proved against the model; part 31. A tool for the proofs of this claim; it states nothing of the program.
-/
import Derived.Test.YtmcincfonnfblaaA30
/-! AM, part 31: readers of arguments by their types. -/
namespace Go.AM
open Go Go.RowKit

theorem list_of {α : Type} {f : α → List PV} {Q : α → Prop} : ∀ {es : List (List PV)}, (∀ r ∈ es, ∃ a, r = f a ∧ Q a) → ∃ l : List α, es = l.map f ∧ ∀ a ∈ l, Q a
  | [], _ => ⟨[], rfl, fun a h => by simp at h⟩
  | e :: es, h => by
    obtain ⟨a, h1, h2⟩ := h e List.mem_cons_self
    obtain ⟨l, h3, h4⟩ := list_of (es := es) (fun r hr => h r (List.mem_cons_of_mem _ hr))
    refine ⟨a :: l, by rw [h1, h3]; rfl, fun b hb => ?_⟩
    rcases List.mem_cons.1 hb with rfl | hb
    · exact h2
    · exact h4 b hb

variable {P : Program} {k : Nat} {t : TypeId} {xs : List PV} {x : PV}

theorem wtp_int {kd : IntKind} (hu : P.underlying t = some (.int kd)) (h : WTp P (k + 1) t xs) : ∃ n, xs = [.int kd n] ∧ kd.min ≤ n ∧ n ≤ kd.max := by
  unfold WTp at h; rw [hu] at h; exact h
theorem wtp_bool (hu : P.underlying t = some .bool) (h : WTp P (k + 1) t xs) : ∃ b, xs = [.bool b] := by
  unfold WTp at h; rw [hu] at h; exact h
theorem wtp_str (hu : P.underlying t = some .string) (h : WTp P (k + 1) t xs) : ∃ s, xs = [.str s] ∧ s.size ≤ maxLen := by
  unfold WTp at h; rw [hu] at h; exact h
theorem wtp_list {e : TypeId} (hu : P.underlying t = some (.slice e)) (h : WTp P (k + 1) t xs) : ∃ es, xs = [.list es .no] ∧ es.length ≤ maxLen ∧ ∀ r ∈ es, WTp P k e r := by
  unfold WTp at h; rw [hu] at h; exact h
theorem wtp_struct {fs : Array Field} (hu : P.underlying t = some (.struct fs)) (h : WTp P (k + 1) t xs) : WFs (WTp P k) (fs.toList.map (·.type)) xs := by
  unfold WTp at h; rw [hu] at h; exact h
theorem wtp_array {n : Nat} {e : TypeId} (hu : P.underlying t = some (.array n e)) (h : WTp P (k + 1) t xs) : WFs (WTp P k) (List.replicate n e) xs := by
  unfold WTp at h; rw [hu] at h; exact h

theorem wta_int {kd : IntKind} (hu : P.underlying t = some (.int kd)) (h : WTa P (k + 1) t x) : ∃ n, x = .int kd n ∧ kd.min ≤ n ∧ n ≤ kd.max := by
  unfold WTa at h; rw [hu] at h
  obtain ⟨n, h1, h2⟩ := wtp_int hu h
  exact ⟨n, by simpa using h1, h2⟩
theorem wta_bool (hu : P.underlying t = some .bool) (h : WTa P (k + 1) t x) : ∃ b, x = .bool b := by
  unfold WTa at h; rw [hu] at h
  obtain ⟨n, h1⟩ := wtp_bool hu h
  exact ⟨n, by simpa using h1⟩
theorem wta_str (hu : P.underlying t = some .string) (h : WTa P (k + 1) t x) : ∃ s, x = .str s ∧ s.size ≤ maxLen := by
  unfold WTa at h; rw [hu] at h
  obtain ⟨n, h1, h2⟩ := wtp_str hu h
  exact ⟨n, by simpa using h1, h2⟩
theorem wta_list {e : TypeId} (hu : P.underlying t = some (.slice e)) (h : WTa P (k + 1) t x) : ∃ es, x = .list es .no ∧ es.length ≤ maxLen ∧ ∀ r ∈ es, WTp P k e r := by
  unfold WTa at h; rw [hu] at h
  obtain ⟨n, h1, h2⟩ := wtp_list hu h
  exact ⟨n, by simpa using h1, h2⟩
theorem wta_struct {fs : Array Field} (hu : P.underlying t = some (.struct fs)) (h : WTa P (k + 1) t x) : ∃ cs, x = .agg cs ∧ WFs (WTp P k) (fs.toList.map (·.type)) cs := by
  unfold WTa at h; rw [hu] at h
  obtain ⟨cs, h1, h2⟩ := h
  exact ⟨cs, h1, wtp_struct hu h2⟩
theorem wta_array {n : Nat} {e : TypeId} (hu : P.underlying t = some (.array n e)) (h : WTa P (k + 1) t x) : ∃ cs, x = .agg cs ∧ WFs (WTp P k) (List.replicate n e) cs := by
  unfold WTa at h; rw [hu] at h
  obtain ⟨cs, h1, h2⟩ := h
  exact ⟨cs, h1, wtp_array hu h2⟩

/-- a list of whole numbers -/
theorem wtp_ints {e : TypeId} {kd : IntKind} (hu : P.underlying e = some (.int kd)) {es : List (List PV)} (h : ∀ r ∈ es, WTp P (k + 1) e r) : ∃ ns, es = en1 kd ns ∧ ∀ n ∈ ns, kd.min ≤ n ∧ n ≤ kd.max :=
  list_of (f := fun n => [PV.int kd n]) fun r hr => wtp_int hu (h r hr)
theorem wta_ints {e : TypeId} {kd : IntKind} (hu : P.underlying t = some (.slice e)) (he : P.underlying e = some (.int kd)) (h : WTa P (k + 2) t x) : ∃ ns, x = .list (en1 kd ns) .no ∧ ns.length ≤ maxLen ∧ ∀ n ∈ ns, kd.min ≤ n ∧ n ≤ kd.max := by
  obtain ⟨es, rfl, h1, h2⟩ := wta_list hu h
  obtain ⟨ns, rfl, h3⟩ := wtp_ints he h2
  exact ⟨ns, rfl, by rwa [en1_length] at h1, h3⟩
theorem wtargs_nil (h : WTargs P k [] xs) : xs = [] := h
theorem wtargs_cons {ts : List TypeId} (h : WTargs P k (t :: ts) xs) : ∃ x ys, xs = x :: ys ∧ WTa P k t x ∧ WTargs P k ts ys := h
theorem wfs_nil {R : TypeId → List PV → Prop} (h : WFs R [] xs) : xs = [] := h
theorem wfs_cons {R : TypeId → List PV → Prop} {ts : List TypeId} (h : WFs R (t :: ts) xs) : ∃ a b, xs = a ++ b ∧ R t a ∧ WFs R ts b := h

end Go.AM
