/-
  An abstract machine over values without memory, proved against the model; part 20. A tool for the proofs of this claim; it states nothing of the program.
-/
import Derived.Test.YtmcincfonnfblaaA19
/-! AM, part 20: operations, in a form that comes out by computing. -/
namespace Go.AM
open Go

/-- a branch on a Bool -/
def br (b : Bool) (X Y : Prop) : Prop := match b with
  | true => X
  | false => Y

theorem br_iff {b : Bool} {X Y : Prop} : br b X Y ↔ (b = true → X) ∧ (b = false → Y) := by cases b <;> simp [br]
theorem br_false {b : Bool} {X : Prop} (h : br b X False) : b = true ∧ X := by cases b <;> simp_all [br]
theorem br_mono {b : Bool} {X Y X' Y' : Prop} (h : br b X Y) (hx : X → X') (hy : Y → Y') : br b X' Y' := by cases b; exact hy h; exact hx h

inductive CK where
  | int (k : IntKind)
  | bool
  | str
  | list
  | raw

def cI (xs : List PV) (i : Nat) : Int := match xs[i]? with | some (.int _ n) => n | _ => 0
def cB (xs : List PV) (i : Nat) : Bool := match xs[i]? with | some (.bool b) => b | _ => false
def cS (xs : List PV) (i : Nat) : ByteArray := match xs[i]? with | some (.str s) => s | _ => ByteArray.empty
def cL (xs : List PV) (i : Nat) : List (List PV) := match xs[i]? with | some (.list es _) => es | _ => []
def cT (xs : List PV) (i : Nat) : Tail := match xs[i]? with | some (.list _ t) => t | _ => .no
def cR (xs : List PV) (i : Nat) : PV := match xs[i]? with | some x => x | none => .any

def view1 : CK → List PV → Nat → PV
  | .int k, xs, i => .int k (cI xs i)
  | .bool, xs, i => .bool (cB xs i)
  | .str, xs, i => .str (cS xs i)
  | .list, xs, i => .list (cL xs i) (cT xs i)
  | .raw, xs, i => cR xs i

def fit1 : CK → Option PV → Bool
  | .int k, some (.int k' _) => k == k'
  | .bool, some (.bool _) => true
  | .str, some (.str _) => true
  | .list, some (.list _ _) => true
  | .raw, some _ => true
  | _, _ => false

theorem view1_of {c : CK} {xs : List PV} {i : Nat} (h : fit1 c xs[i]? = true) : xs[i]? = some (view1 c xs i) := by
  cases hx : xs[i]? with
  | none => rw [hx] at h; cases c <;> cases h
  | some x =>
    rw [hx] at h
    cases c with
    | raw => simp only [view1, cR, hx]
    | int k => cases x <;> first | (cases h; done) | (simp only [fit1, beq_iff_eq] at h; subst h; simp only [view1, cI, hx])
    | bool => cases x <;> first | (cases h; done) | simp only [view1, cB, hx]
    | str => cases x <;> first | (cases h; done) | simp only [view1, cS, hx]
    | list => cases x <;> first | (cases h; done) | simp only [view1, cL, cT, hx]

def viewX : List CK → Nat → List PV → List PV
  | [], _, _ => []
  | c :: cs, i, xs => view1 c xs i :: viewX cs (i + 1) xs

def fitX : List CK → Nat → List PV → Bool
  | [], _, _ => true
  | c :: cs, i, xs => fit1 c xs[i]? && fitX cs (i + 1) xs

theorem viewX_of : ∀ (cs : List CK) (i : Nat) (xs : List PV), fitX cs i xs = true → viewX cs i xs = (xs.drop i).take cs.length ∧ (cs ≠ [] → i + cs.length ≤ xs.length)
  | [], i, xs, _ => ⟨by simp [viewX], fun h => absurd rfl h⟩
  | c :: cs, i, xs, h => by
    simp only [fitX, Bool.and_eq_true] at h
    have h1 := view1_of h.1
    have hi : i < xs.length := (List.getElem?_eq_some_iff.1 h1).1
    obtain ⟨h2, h3⟩ := viewX_of cs (i + 1) xs h.2
    have hd : xs.drop i = view1 c xs i :: xs.drop (i + 1) := by
      rw [List.drop_eq_getElem_cons hi]
      congr 1
      exact (List.getElem?_eq_some_iff.1 h1).2
    refine ⟨?_, fun _ => ?_⟩
    · rw [viewX, h2, hd, List.length_cons, List.take_succ_cons]
    · by_cases hc : cs = []
      · subst hc; simp; omega
      · have := h3 hc; simp; omega

/-- the kinds of a type's cells -/
def ckT (P : Program) : Nat → TypeId → List CK
  | 0, t => match tyA P t with
    | some (_, sz) => List.replicate sz .raw
    | none => []
  | k + 1, t => match P.underlying t with
    | some .bool => [.bool]
    | some (.int kd) => [.int kd]
    | some .string => [.str]
    | some (.slice _) => [.list]
    | some (.struct fs) => (fs.toList.map fun f => ckT P k f.type).flatten
    | some (.array n e) => (List.replicate n (ckT P k e)).flatten
    | _ => match tyA P t with
      | some (_, sz) => List.replicate sz .raw
      | none => []

/-- a load: typed (m = 0), or as it stands -/
def loadc (B : Bool → Prop → Prop → Prop) (P : Program) (t : TypeId) (m : Nat) (cs : List PV) (K : PV → Prop) : Prop :=
  match tyA P t with
  | some (b, sz) => match m with
    | 0 => B ((ckT P 6 t).length == sz && (b || sz == 1) && fitX (ckT P 6 t) 0 cs) (K (match b with | true => .agg (viewX (ckT P 6 t) 0 cs) | false => match viewX (ckT P 6 t) 0 cs with | x :: _ => x | [] => .any)) False
    | _ => match loadPV b sz cs with
      | some y => K y
      | none => False
  | none => False

theorem loadc_sound {P : Program} {t : TypeId} {m : Nat} {cs : List PV} {K : PV → Prop} (h : loadc br P t m cs K) : ∃ b sz y, tyA P t = some (b, sz) ∧ loadPV b sz cs = some y ∧ K y := by
  unfold loadc at h
  cases ht : tyA P t with
  | none => rw [ht] at h; exact h.elim
  | some p =>
    obtain ⟨b, sz⟩ := p
    rw [ht] at h
    cases m with
    | zero =>
      simp only at h
      obtain ⟨hc, hk⟩ := br_false h
      simp only [Bool.and_eq_true, beq_iff_eq, Bool.or_eq_true] at hc
      obtain ⟨⟨h1, h2⟩, h3⟩ := hc
      obtain ⟨h4, h5⟩ := viewX_of _ _ _ h3
      refine ⟨b, sz, _, rfl, ?_, hk⟩
      unfold loadPV
      cases b with
      | true =>
        have : sz ≤ cs.length := by
          by_cases hn : ckT P 6 t = []
          · rw [hn] at h1; simp at h1; omega
          · have := h5 hn; omega
        simp only [if_true, if_pos this, h4, List.drop_zero, h1]
      | false =>
        have hs : sz = 1 := by simpa using h2
        subst hs
        have hn : ckT P 6 t ≠ [] := fun e => by rw [e] at h1; simp at h1
        have := h5 hn
        rw [h4, List.drop_zero, h1]
        cases cs with
        | nil => simp [h1] at this
        | cons x cs => rfl
    | succ m =>
      simp only at h
      cases hl : loadPV b sz cs with
      | none => rw [hl] at h; exact h.elim
      | some y => rw [hl] at h; exact ⟨b, sz, y, rfl, hl, h⟩

end Go.AM
