/-
  An abstract machine over values without memory, proved against the model; part 26. A tool for the proofs of this claim; it states nothing of the program.
-/
import Derived.Test.YtmcincfonnfblaaA25
/-! AM, part 26: rows of whole numbers; a row that a function made and answers with. -/
namespace Go.AM
open Go

/-- a list of whole numbers -/
def en1 (k : IntKind) (ns : List Int) : List (List PV) := ns.map fun n => [PV.int k n]

theorem en1_length (k : IntKind) (ns : List Int) : (en1 k ns).length = ns.length := by simp [en1]
theorem en1_uni (k : IntKind) (ns : List Int) : uni 1 (en1 k ns) := by
  intro e he
  simp only [en1, List.mem_map] at he
  obtain ⟨n, _, rfl⟩ := he; rfl
theorem en1_flat (k : IntKind) (ns : List Int) : (en1 k ns).flatten = ns.map (PV.int k) := by
  induction ns with
  | nil => rfl
  | cons n ns ih => simp only [en1, List.map_cons, List.flatten_cons] at ih ⊢; rw [ih]; rfl
theorem en1_get (k : IntKind) (ns : List Int) (i : Nat) (h : i < ns.length) : (en1 k ns).getD i [] = [PV.int k (ns.getD i 0)] := by
  rw [List.getD_eq_getElem?_getD, en1, List.getElem?_map, List.getElem?_eq_getElem h, List.getD_eq_getElem?_getD, List.getElem?_eq_getElem h]; rfl
theorem en1_in (k : IntKind) (ns : List Int) (i : Int) (h0 : 0 ≤ i) (h : i < ns.length) : InL (en1 k ns) 1 i :=
  ⟨h0, by rw [en1_length]; omega, en1_uni k ns, by decide⟩
theorem en1_append (k : IntKind) (ns ms : List Int) : en1 k ns ++ en1 k ms = en1 k (ns ++ ms) := by simp [en1]
theorem en1_take (k : IntKind) (ns : List Int) (n : Nat) : (en1 k ns).take n = en1 k (ns.take n) := by simp [en1, List.map_take]
theorem en1_drop (k : IntKind) (ns : List Int) (n : Nat) : (en1 k ns).drop n = en1 k (ns.drop n) := by simp [en1, List.map_drop]
theorem low_en1 {n : Nat} (k : IntKind) (ns : List Int) : ∀ x ∈ (en1 k ns).flatten, Low n x := by
  rw [en1_flat]; intro x hx
  simp only [List.mem_map] at hx
  obtain ⟨m, _, rfl⟩ := hx
  exact .int _ _
theorem fit_en1 (k : IntKind) (m : Int) : fitX [CK.int k] 0 [PV.int k m] = true := by simp [fitX, fit1]
theorem cI_en1 (k : IntKind) (m : Int) : cI [PV.int k m] 0 = m := rfl

theorem fit_drop (k : IntKind) (ns : List Int) (i : Nat) (h : i < ns.length) : fitX [CK.int k] 0 (List.drop i (ns.map (PV.int k))) = true := by
  simp only [fitX, Bool.and_true, List.getElem?_drop, Nat.add_zero, List.getElem?_map, List.getElem?_eq_getElem h, Option.map_some, fit1, beq_self_eq_true]
theorem cI_drop (k : IntKind) (ns : List Int) (i : Nat) : cI (List.drop i (ns.map (PV.int k))) 0 = ns.getD i 0 := by
  unfold cI
  simp only [List.getElem?_drop, Nat.add_zero, List.getElem?_map, List.getD_eq_getElem?_getD]
  cases ns[i]? <;> rfl
theorem fit_get (k : IntKind) (ns : List Int) (i : Nat) (h : i < ns.length) : fitX [CK.int k] 0 ((en1 k ns).getD i []) = true := by rw [en1_get k ns i h]; exact fit_en1 k _
theorem cI_get (k : IntKind) (ns : List Int) (i : Nat) : cI ((en1 k ns).getD i []) 0 = ns.getD i 0 := by
  rcases Nat.lt_or_ge i ns.length with h | h
  · rw [en1_get k ns i h]; rfl
  · rw [List.getD_eq_getElem?_getD, List.getD_eq_getElem?_getD, List.getElem?_eq_none (by rw [en1_length]; exact h), List.getElem?_eq_none h]; rfl

/-- the cells of whole numbers -/
theorem ints_len (k : IntKind) (ns : List Int) : (ns.map (PV.int k)).length = ns.length := by simp
theorem over_ints (k : IntKind) (ns : List Int) (i : Nat) (m : Int) (h : i < ns.length) : over (ns.map (PV.int k)) i [PV.int k m] = (ns.set i m).map (PV.int k) := by
  unfold over
  apply List.ext_getElem?
  intro j
  simp only [List.map_set]
  rw [List.getElem?_set]
  by_cases hj : j < i
  · rw [if_neg (by omega), List.append_assoc, List.getElem?_append_left (by simp; omega), List.getElem?_take, if_pos hj]
  · by_cases he : i = j
    · subst he
      rw [if_pos rfl, if_pos (by simpa using h), List.append_assoc, List.getElem?_append_right (by simp; omega)]
      have : min i ns.length = i := by omega
      simp [this]
    · rw [if_neg he, List.append_assoc, List.getElem?_append_right (by simp; omega), List.getElem?_append_right (by simp; omega), List.getElem?_drop]
      congr 1
      simp
      omega
theorem low_ints {n : Nat} (k : IntKind) (ns : List Int) : ∀ x ∈ ns.map (PV.int k), Low n x := by
  intro x hx
  simp only [List.mem_map] at hx
  obtain ⟨m, _, rfl⟩ := hx
  exact .int _ _
theorem flat_rep (k : IntKind) (n : Nat) (m : Int) : (List.replicate n [PV.int k m]).flatten = (List.replicate n m).map (PV.int k) := by
  induction n with
  | zero => rfl
  | succ n ih => simp only [List.replicate_succ, List.flatten_cons, ih]; simp

/-- a list whose spare room nobody may use -/
def NT (t : Tail) : Prop := ∀ o, t ≠ .tok o
theorem NT.no : NT .no := fun _ h => by cases h
theorem NT.exact : NT .exact := fun _ h => by cases h
theorem low_list {n : Nat} {es : List (List PV)} {t : Tail} (ht : NT t) (h : ∀ x ∈ es.flatten, Low n x) : Low n (.list es t) := .list _ _ (fun o e => absurd e (ht o)) h
theorem low_list1 {n : Nat} {ns : List Int} {k : IntKind} {t : Tail} (ht : NT t) : Low n (.list (en1 k ns) t) := low_list ht (low_en1 k ns)

theorem acalls_freeze {P : Program} {gl : Glob} {f : FuncId} {args : List PV} {K : PV → Prop} (h : ACalls P gl f args [] (fun x H' => ∃ (o len cap sz : Nat) (cs rest : List PV) (es : List (List PV)), x = .arr o 0 len cap ∧ H'[o]? = some (.cells cs) ∧ uni sz es ∧ es.length = len ∧ len ≤ cap ∧ cs = es.flatten ++ rest ∧ K (.list es .no))) :
    ACalls P gl f args [] (fun x _ => K x) := by
  intro g w vs hS hG hR
  refine (h g w vs hS hG hR).mono ?_
  rintro e w' ⟨v, g', H', x, rfl, hS', hX, hr, o, len, cap, sz, cs, rest, es, rfl, ho, hu, hl, hc, hcs, hk⟩
  obtain ⟨g2, k1, k2, k3⟩ := hS'.freeze ho
  cases hr with
  | arr _ _ _ _ hlt =>
    refine ⟨_, g2, _, .list es .no, rfl, k1, hX.trans k2, ?_, hk⟩
    have hbk : g'.bk o = g2.bk o := (k2.gx.bk o hlt).symm
    rw [hcs] at k3
    subst hl
    refine Rel.list_iff.2 ⟨some ⟨g'.bk o, 0, none⟩, cap, rfl, uni_eq hu, hc, trivial, .inr ⟨_, rfl, k3.front⟩⟩

#print axioms acalls_freeze
end Go.AM
