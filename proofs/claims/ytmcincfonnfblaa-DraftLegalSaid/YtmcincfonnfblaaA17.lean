/-
  An abstract machine over values without memory, proved against the model; part 17. A tool for the proofs of this claim; it states nothing of the program.
-/
import Derived.Test.YtmcincfonnfblaaA16
import Derived.DataReads
import Derived.Below
import Derived.ChangeOld
import Derived.OpenShut
import Derived.ChangeArms
/-! AM, part 17: what the arguments' reading tells: pure values, well typed. -/
namespace Go.AM
open Go Go.RowKit

/-- a row that falls apart into rows, each of its type -/
def WFs (R : TypeId → List PV → Prop) : List TypeId → List PV → Prop
  | [], xs => xs = []
  | t :: ts, xs => ∃ a b, xs = a ++ b ∧ R t a ∧ WFs R ts b

def WTp (P : Program) : Nat → TypeId → List PV → Prop
  | 0, _, _ => False
  | k + 1, t, xs => match P.underlying t with
    | some .bool => ∃ b, xs = [.bool b]
    | some (.int kd) => ∃ n, xs = [.int kd n] ∧ kd.min ≤ n ∧ n ≤ kd.max
    | some .string => ∃ s, xs = [.str s] ∧ s.size ≤ maxLen
    | some (.slice e) => ∃ es, xs = [.list es .no] ∧ es.length ≤ maxLen ∧ ∀ r ∈ es, WTp P k e r
    | some (.struct fs) => WFs (WTp P k) (fs.toList.map (·.type)) xs
    | some (.array n e) => WFs (WTp P k) (List.replicate n e) xs
    | _ => False

def offsOk (P : Program) : Nat → List Field → Nat → Bool
  | o, [], n => o == n
  | o, f :: fs, n => f.offset == o && offsOk P (o + P.cellsOf f.type) fs n

/-- the reading knows such a type -/
def fine (P : Program) : Nat → TypeId → Bool
  | 0, _ => false
  | k + 1, t => match P.underlying t with
    | some .bool | some (.int _) | some .string => true
    | some (.slice e) => fine P k e
    | some (.struct fs) => offsOk P 0 fs.toList (P.cellsOf t) && fs.toList.all (fun f => fine P k f.type)
    | some (.array n e) => P.cellsOf t == n * P.cellsOf e && fine P k e
    | _ => false

def gh0 (W : World) : Gh := ⟨0, fun _ => 0, fun _ => 0, fun _ => 0, fun b _ => b < W.heap.size, fun _ _ => False⟩

theorem sim0 (W : World) : Sim (gh0 W) [] W where
  n := rfl
  inj := fun o _ _ _ _ h => by simp at h
  cells := fun o cs h => by simp at h
  tok := fun o h => by simp at h
  imm := fun _ _ h => h
  abs := fun o r h => by simp at h

theorem below_of_ext {W W' : World} {g' : Gh} {H' : Heap} (h : Ext (gh0 W) [] W g' H' W') : Below W.heap.size W W' :=
  ⟨h.os, h.tape, h.output, h.size, fun k hk => h.frame k hk (fun ⟨o, ob, ho, _⟩ => by simp at ho)⟩

theorem cells_lt {w : World} {A : Addr} {v : Value} (h : w.cell? A = some v) : A.block < w.heap.size := by
  unfold World.cell? at h
  split at h
  · rename_i hb; exact (Array.getElem?_eq_some_iff.1 hb).1
  · cases h

theorem cell_spot {w : World} {A : Addr} {v : Value} (h : w.cell? A = some v) : A.spot = none := by
  unfold World.cell? at h
  split at h
  · split at h
    · cases h
    · rename_i hs; cases hq : A.spot with
      | none => rfl
      | some _ => simp [hq] at hs
  · cases h

theorem cells?_len {w : World} {b : Nat} {A : Addr} {n : Nat} {cs : List Value} (h : w.cells? b A n = some cs) : cs.length = n ∧ ∀ i, i < n → w.cell? (A.add i) = cs[i]? := by
  unfold World.cells? at h
  split at h
  · refine ⟨by simpa using mapM_some_length h, fun i hi => ?_⟩
    exact mapM_some_get h i i (by simp [List.getElem?_range hi])
  · cases h

theorem wfs_of_fields {P : Program} {g : Gh} {w : World} {R : TypeId → List PV → Prop} : ∀ (fs : List Field) (o n : Nat) (cs : List Value), offsOk P o fs n = true → cs.length = n →
    (∀ f ∈ fs, ∃ xs, RelL g w xs ((cs.drop f.offset).take (P.cellsOf f.type)) ∧ R f.type xs) → o ≤ n → ∃ xs, RelL g w xs (cs.drop o) ∧ WFs R (fs.map (·.type)) xs
  | [], o, n, cs, ho, hl, _, _ => by
    simp only [offsOk, beq_iff_eq] at ho
    refine ⟨[], ?_, rfl⟩
    rw [List.drop_eq_nil_of_le (by omega)]; exact .nil
  | f :: fs, o, n, cs, ho, hl, hf, hn => by
    simp only [offsOk, Bool.and_eq_true, beq_iff_eq] at ho
    have hle : ∀ (fs : List Field) (o : Nat), offsOk P o fs n = true → o ≤ n := by
      intro fs
      induction fs with
      | nil => intro o h; simp only [offsOk, beq_iff_eq] at h; omega
      | cons f fs ih => intro o h; simp only [offsOk, Bool.and_eq_true] at h; have := ih _ h.2; omega
    have hn' := hle _ _ ho.2
    obtain ⟨ys, hy, hw⟩ := wfs_of_fields fs _ n cs ho.2 hl (fun f' hf' => hf f' (List.mem_cons_of_mem _ hf')) hn'
    obtain ⟨xs, hx, hr⟩ := hf f List.mem_cons_self
    refine ⟨xs ++ ys, ?_, xs, ys, rfl, hr, hw⟩
    have e : cs.drop o = (cs.drop f.offset).take (P.cellsOf f.type) ++ cs.drop (o + P.cellsOf f.type) := by
      rw [ho.1, ← List.drop_drop, List.take_append_drop]
    rw [e]; exact hx.append hy

theorem wfs_of_elems {g : Gh} {w : World} {R : TypeId → List PV → Prop} {e : TypeId} {s : Nat} : ∀ (n : Nat) (cs : List Value), cs.length = n * s →
    (∀ i, i < n → ∃ xs, RelL g w xs ((cs.drop (i * s)).take s) ∧ R e xs) → ∃ xs, RelL g w xs cs ∧ WFs R (List.replicate n e) xs
  | 0, cs, hl, _ => by
    refine ⟨[], ?_, rfl⟩
    have h0 : cs = [] := List.eq_nil_of_length_eq_zero (by simpa using hl)
    subst h0; exact .nil
  | n + 1, cs, hl, hf => by
    have hl' : cs.length = n * s + s := by rw [hl]; exact Nat.succ_mul n s
    obtain ⟨xs, hx, hr⟩ := hf 0 (Nat.succ_pos n)
    obtain ⟨ys, hy, hw⟩ := wfs_of_elems (g := g) (w := w) (R := R) (e := e) (s := s) n (cs.drop s) (by rw [List.length_drop, hl']; omega) (fun i hi => by
      obtain ⟨zs, hz, hq⟩ := hf (i + 1) (by omega)
      refine ⟨zs, ?_, hq⟩
      rw [List.drop_drop, show s + i * s = (i + 1) * s by rw [Nat.succ_mul]; omega]; exact hz)
    refine ⟨xs ++ ys, ?_, xs, ys, rfl, hr, hw⟩
    simp only [Nat.zero_mul, List.drop_zero] at hx
    have := hx.append hy
    rwa [List.take_append_drop] at this

theorem flatten_get_of {α : Type} {s : Nat} : ∀ (es : List (List α)), (∀ e ∈ es, e.length = s) → ∀ q, q < es.flatten.length → es.flatten[q]? = (es.getD (q / s) [])[q % s]? ∧ q / s < es.length ∧ 0 < s
  | [], _, q, hq => by simp at hq
  | e :: es, h, q, hq => by
    have he := h e List.mem_cons_self
    have hs := fun e' (h' : e' ∈ es) => h e' (List.mem_cons_of_mem _ h')
    simp only [List.flatten_cons, List.length_append] at hq
    by_cases hq1 : q < s
    · have hdiv : q / s = 0 := Nat.div_eq_of_lt hq1
      have hmod : q % s = q := Nat.mod_eq_of_lt hq1
      refine ⟨?_, by rw [hdiv]; simp, by omega⟩
      rw [hdiv, hmod, List.flatten_cons, List.getElem?_append_left (by omega)]; rfl
    · obtain ⟨h1, h2, h3⟩ := flatten_get_of es hs (q - s) (by omega)
      have hdiv : q / s = (q - s) / s + 1 := by rw [Nat.div_eq_sub_div h3 (by omega)]
      have hmod : q % s = (q - s) % s := by rw [Nat.mod_eq_sub_mod (by omega)]
      refine ⟨?_, by rw [hdiv]; simpa using h2, h3⟩
      rw [List.flatten_cons, List.getElem?_append_right (by omega), he, h1, hdiv, hmod]; rfl

theorem read_elems {g : Gh} {w : World} {R : List PV → Prop} {s : Nat} (A : Addr) (base : Nat) : ∀ (n : Nat),
    (∀ i, i < n → ∃ cs xs, w.cells? base (A.add (i * s)) s = some cs ∧ RelL g w xs cs ∧ R xs) →
    ∃ es : List (List PV), es.length = n ∧ (∀ e ∈ es, e.length = s ∧ R e) ∧ ∀ i, i < n → ∃ cs, w.cells? base (A.add (i * s)) s = some cs ∧ RelL g w (es.getD i []) cs
  | 0, _ => ⟨[], rfl, fun e he => by simp at he, fun i hi => by omega⟩
  | n + 1, h => by
    obtain ⟨es, hl, he, hi⟩ := read_elems A base n (fun i hi => h i (by omega))
    obtain ⟨cs, xs, h1, h2, h3⟩ := h n (by omega)
    refine ⟨es ++ [xs], by simp [hl], fun e hm => ?_, fun i hlt => ?_⟩
    · rcases List.mem_append.1 hm with hm | hm
      · exact he e hm
      · simp only [List.mem_singleton] at hm; subst hm
        exact ⟨h2.1.trans (cells?_len h1).1, h3⟩
    · by_cases hin : i < n
      · obtain ⟨cs', k1, k2⟩ := hi i hin
        refine ⟨cs', k1, ?_⟩
        rw [List.getD_eq_getElem?_getD, List.getElem?_append_left (by omega), ← List.getD_eq_getElem?_getD]; exact k2
      · have : i = n := by omega
        subst this
        refine ⟨cs, h1, ?_⟩
        rw [List.getD_eq_getElem?_getD, List.getElem?_append_right (by omega), hl]; simpa using h2

theorem add_add (b o u v : Nat) : ((⟨b, o, none⟩ : Addr).add u).add v = ⟨b, o + (u + v), none⟩ := by
  unfold Addr.add
  by_cases hu : u = 0
  · subst hu
    by_cases hv : v = 0
    · subst hv; rfl
    · rw [if_pos rfl, if_neg hv, Nat.zero_add]
  · by_cases hv : v = 0
    · subst hv; rw [if_pos rfl, if_neg hu, Nat.add_zero]
    · rw [if_neg hv, if_neg hu]; simp only [Nat.add_assoc]

theorem rel_list_of {g : Gh} {w : World} {s n cap : Nat} {a : Option Addr} {base : Nat} {es : List (List PV)} (hl : es.length = n) (hcap : n ≤ cap)
    (he : ∀ e ∈ es, e.length = s) (hg : ∀ A, a = some A → ∀ q, g.imm A.block (A.off + q) ∨ w.heap.size ≤ A.block)
    (ha : 0 < n → ∃ A, a = some A ∧ ∀ i, i < n → ∃ cs, w.cells? base (A.add (i * s)) s = some cs ∧ RelL g w (es.getD i []) cs) : Rel g w (.list es .no) (.slice a n cap) := by
  subst hl
  have key : ∀ q, q < es.flatten.length → ∃ A c, a = some A ∧ A.spot = none ∧ g.imm A.block (A.off + q) ∧ w.cell? (At A q) = some c ∧ ∀ x, es.flatten[q]? = some x → Rel g w x c := by
    intro q hq
    obtain ⟨h1, h2, h3⟩ := flatten_get_of es he q hq
    obtain ⟨A, e, hA⟩ := ha (Nat.lt_of_le_of_lt (Nat.zero_le _) h2)
    obtain ⟨cs, k1, k2⟩ := hA (q / s) h2
    obtain ⟨k3, k4⟩ := cells?_len k1
    have k5 := k4 (q % s) (Nat.mod_lt _ h3)
    have hoff : q / s * s + q % s = q := by rw [Nat.mul_comm]; exact Nat.div_add_mod q s
    have hc : (cs[q % s]?).isSome := by simp [k3, Nat.mod_lt _ h3]
    obtain ⟨c, hc⟩ := Option.isSome_iff_exists.1 hc
    rw [hc] at k5
    have hsp : A.spot = none := by
      obtain ⟨cs0, m1, m2⟩ := hA 0 (Nat.lt_of_le_of_lt (Nat.zero_le _) h2)
      obtain ⟨m3, m4⟩ := cells?_len m1
      have m5 := m4 0 h3
      have m6 : (cs0[0]?).isSome := by simp [m3, h3]
      obtain ⟨c0, m6⟩ := Option.isSome_iff_exists.1 m6
      rw [m6] at m5
      simp only [Nat.zero_mul, Addr.add, if_true] at m5
      exact cell_spot m5
    have hAt : (A.add (q / s * s)).add (q % s) = At A q := by
      cases A with
      | mk b o sp =>
        simp only at hsp; subst hsp
        rw [add_add, hoff]; rfl
    have k6 := k5
    rw [hAt] at k6
    refine ⟨A, c, e, hsp, ?_, k6, fun x hx => ?_⟩
    · rcases hg A e q with h | h
      · exact h
      · exact absurd (cells_lt k6) (by simp only [At]; omega)
    · rw [h1] at hx
      exact k2.2 _ x c hx hc
  refine .list es .no a cap (fun q => match a with | some A => (w.cell? (At A q)).getD default | none => default) (fun e h e' h' => (he e h).trans (he e' h').symm) hcap trivial (fun q hq => ?_) (fun q x hx => ?_)
  · obtain ⟨A, c, e, hsp, him, k6, _⟩ := key q hq
    refine ⟨A, e, hsp, him, ?_⟩
    subst e; simp only [k6, Option.getD_some]
  · obtain ⟨A, c, e, _, _, k6, k7⟩ := key q (List.getElem?_eq_some_iff.1 hx).1
    subst e; simp only [k6, Option.getD_some]
    exact k7 x hx

theorem rel_of_trod {H : Type} {enc : TypeId × Value → H} {P : Program} {W : World} {base : Nat} {spare : Nat → Bool} {held : Bool} : ∀ (k n : Nat) (t : TypeId) (cs : List Value) (x : DataW H × List MemPlace), fine P k t = true →
    DataW.trod enc P W base spare held n t cs = some x → ∃ xs, RelL (gh0 W) W xs cs ∧ WTp P k t xs
  | 0, _, _, _, _, hf, _ => by simp [fine] at hf
  | k + 1, n, t, cs, x, hf, h => by
    unfold fine at hf
    unfold WTp
    cases hu : P.underlying t with
    | none => rw [hu] at hf; simp at hf
    | some ty =>
      rw [hu] at hf
      cases ty with
      | bool =>
        obtain ⟨b, rfl, _⟩ := DataW.trod_bool hu h
        exact ⟨[.bool b], .cons (.bool b) .nil, b, rfl⟩
      | int kd =>
        obtain ⟨m, rfl, _, hw⟩ := DataW.trod_int hu h
        simp only [Lit.wf, Bool.and_eq_true, decide_eq_true_eq] at hw
        exact ⟨[.int _ m], .cons (.int _ m) .nil, m, rfl, hw⟩
      | string =>
        obtain ⟨s, rfl, _, hs⟩ := DataW.trod_string hu h
        exact ⟨[.str s], .cons (.str s) .nil, s, rfl, hs⟩
      | slice e =>
        simp only at hf
        rcases DataW.trod_slice hu h with ⟨rfl, _⟩ | ⟨a, len, cap, elems, rest, m, rfl, rfl, _, _, hl, hm, he, hi, _⟩
        · refine ⟨[.list [] .no], .cons (.list [] .no none 0 (fun _ => .nilIface) (fun e he => by simp at he) (Nat.le_refl _) trivial (fun q hq => by simp at hq) (fun q x hx => by simp at hx)) .nil, [], rfl, Nat.zero_le _, fun r hr => by simp at hr⟩
        · have hr : ∀ i, i < len → ∃ cs xs, W.cells? base (a.add (i * P.cellsOf e)) (P.cellsOf e) = some cs ∧ RelL (gh0 W) W xs cs ∧ WTp P k e xs := by
            intro i hlt
            have h1 := hi i hlt
            rw [List.getElem?_eq_getElem (by omega)] at h1
            obtain ⟨cs, h2, h3⟩ := Option.bind_eq_some_iff.1 h1
            obtain ⟨xs, h4, h5⟩ := rel_of_trod k m e cs _ hf h3
            exact ⟨cs, xs, h2, h4, h5⟩
          obtain ⟨es, e1, e2, e3⟩ := read_elems a base len hr
          refine ⟨[.list es .no], .cons ?_ .nil, es, rfl, by omega, fun r hr => (e2 r hr).2⟩
          refine rel_list_of (s := P.cellsOf e) (base := base) e1 hl (fun e he => (e2 e he).1) (fun A hA q => ?_) (fun _ => ⟨a, rfl, e3⟩)
          show A.block < W.heap.size ∨ _
          omega
      | struct fs =>
        simp only [Bool.and_eq_true, List.all_eq_true] at hf
        obtain ⟨xs, m, rfl, _, hl, hs, hi⟩ := DataW.trod_struct hu h
        obtain ⟨ys, h1, h2⟩ := wfs_of_fields (P := P) (g := gh0 W) (w := W) (R := WTp P k) fs.toList 0 _ cs hf.1 hl (fun f hmem => by
          obtain ⟨i, hlt, he⟩ := List.getElem_of_mem hmem
          have h1 := hi i f (by rw [← he]; simp)
          have hlt' : i < xs.length := by rw [hs]; simpa using hlt
          rw [List.getElem?_eq_getElem hlt'] at h1
          exact rel_of_trod k m _ _ _ (hf.2 f hmem) h1) (Nat.zero_le _)
        exact ⟨ys, by simpa using h1, h2⟩
      | array c e =>
        simp only [Bool.and_eq_true, beq_iff_eq] at hf
        obtain ⟨xs, m, rfl, _, hl, hs, hi⟩ := DataW.trod_array hu h
        exact wfs_of_elems (s := P.cellsOf e) c cs (by rw [hl, hf.1]) (fun i hlt => by
          have h1 := hi i hlt
          rw [List.getElem?_eq_getElem (by omega)] at h1
          exact rel_of_trod k m _ _ _ hf.2 h1)
      | _ => simp at hf

/-- all arguments at once -/
theorem rels_of_trodAll {H : Type} {enc : TypeId × Value → H} {P : Program} {W : World} {base : Nat} {spare : Nat → Bool} {held : Bool} (k : Nat) : ∀ (ts : List TypeId) (vs : List Value) (ds : List (DataW H)) (ps : List MemPlace),
    ts.all (fun t => fine P k t && P.cellsOf t == 1) = true → (∀ v ∈ vs, v.cells.size = 1 → True) → DataW.TrodAll enc P W base spare held ts vs ds ps →
    ∃ xs : List (List PV), xs.length = ts.length ∧ vs.length = ts.length ∧ ∀ (j : Nat) (t : TypeId) (v : Value), ts[j]? = some t → vs[j]? = some v → ∃ x, xs[j]? = some x ∧ RelL (gh0 W) W x v.cells.toList ∧ WTp P k t x
  | [], [], [], _, _, _, _ => ⟨[], rfl, rfl, fun j t v h => by simp at h⟩
  | t :: ts, v :: vs, d :: ds, ps, hf, _, ⟨p, q, ⟨n, h1⟩, h2, _⟩ => by
    simp only [List.all_cons, Bool.and_eq_true] at hf
    obtain ⟨x, hx, hw⟩ := rel_of_trod k n t _ _ hf.1.1 h1
    obtain ⟨xs, e1, e2, e3⟩ := rels_of_trodAll k ts vs ds q hf.2 (fun _ _ _ => trivial) h2
    refine ⟨x :: xs, by simp [e1], by simp [e2], fun j t' v' ht hv => ?_⟩
    cases j with
    | zero => simp at ht hv; subst ht; subst hv; exact ⟨x, rfl, hx, hw⟩
    | succ j => exact e3 j t' v' (by simpa using ht) (by simpa using hv)
  | [], _ :: _, _, _, _, _, h => h.elim
  | [], [], _ :: _, _, _, _, h => h.elim
  | _ :: _, [], _, _, _, _, h => h.elim
  | _ :: _, _ :: _, [], _, _, _, h => h.elim

#print axioms rel_of_trod
end Go.AM
