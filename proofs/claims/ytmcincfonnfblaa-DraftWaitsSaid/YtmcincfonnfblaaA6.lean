/-
  An abstract machine over values without memory, proved against the model; part 6. A tool for the proofs of this claim; it states nothing of the program.
-/
import Derived.Test.YtmcincfonnfblaaA5
/-! AM, part 6: operations, continued. -/
namespace Go.AM
open Go

/-- what a two-sided operation on whole numbers comes to -/
def intK (op : BinOp) (k : IntKind) (a : Int) (k' : IntKind) (b : Int) (K : PV → Prop) : Prop :=
  match op with
  | .add => k = k' ∧ K (.int k (k.wrap (a + b)))
  | .sub => k = k' ∧ K (.int k (k.wrap (a - b)))
  | .mul => k = k' ∧ K (.int k (k.wrap (a * b)))
  | .quo => k = k' ∧ b ≠ 0 ∧ K (.int k (k.wrap (a.tdiv b)))
  | .rem => k = k' ∧ b ≠ 0 ∧ K (.int k (a.tmod b))
  | .and => k = k' ∧ K (.int k (k.wrap (BitVec.ofInt k.bits a &&& BitVec.ofInt k.bits b).toNat))
  | .or => k = k' ∧ K (.int k (k.wrap (BitVec.ofInt k.bits a ||| BitVec.ofInt k.bits b).toNat))
  | .xor => k = k' ∧ K (.int k (k.wrap (BitVec.ofInt k.bits a ^^^ BitVec.ofInt k.bits b).toNat))
  | .andNot => k = k' ∧ K (.int k (k.wrap (BitVec.ofInt k.bits a &&& ~~~ BitVec.ofInt k.bits b).toNat))
  | .shl => 0 ≤ b ∧ K (.int k (k.wrap (a * 2 ^ (min b.toNat k.bits))))
  | .shr => 0 ≤ b ∧ K (.int k (a.fdiv (2 ^ (min b.toNat k.bits))))
  | .eql => k = k' ∧ K (.bool (a == b))
  | .neq => k = k' ∧ K (.bool (a != b))
  | .lss => k = k' ∧ K (.bool (decide (a < b)))
  | .leq => k = k' ∧ K (.bool (decide (a ≤ b)))
  | .gtr => k = k' ∧ K (.bool (decide (a > b)))
  | .geq => k = k' ∧ K (.bool (decide (a ≥ b)))

theorem intK_run {P : Program} {g : Gh} {w : World} {op : BinOp} {k k' : IntKind} {a b : Int} {K : PV → Prop} (h : intK op k a k' b K) (t : TypeId) :
    ∃ v z, (binOp op t (.int k a) (.int k' b)).run P w = .ok v w ∧ Rel g w z v ∧ K z := by
  cases op <;> simp only [intK] at h
  case shl =>
    refine ⟨_, _, ?_, .int _ _, h.2⟩
    simp only [binOp, Op.shift]
    rw [if_neg (by omega)]; rfl
  case shr =>
    refine ⟨_, _, ?_, .int _ _, h.2⟩
    simp only [binOp, Op.shift]
    rw [if_neg (by omega)]; rfl
  case quo =>
    obtain ⟨rfl, hb, hk⟩ := h
    refine ⟨_, _, ?_, .int _ _, hk⟩
    simp [binOp, Op.intDiv, hb]
  case rem =>
    obtain ⟨rfl, hb, hk⟩ := h
    refine ⟨_, _, ?_, .int _ _, hk⟩
    simp [binOp, Op.intDiv, hb]
  all_goals
    obtain ⟨rfl, hk⟩ := h
    first
    | exact ⟨_, _, by simp [binOp, Op.intArith, Op.intBits], Rel.int _ _, hk⟩
    | exact ⟨_, _, by simp [binOp, Op.intCmp], Rel.bool _, hk⟩

theorem equal_ptr {P : Program} {w : World} {t e : TypeId} (ht : P.underlying t = some (.pointer e)) (a : Option Addr) : (Op.equal t (.pointer a) (.pointer none)).run P w = .ok a.isNone w := by
  have h : ∀ d, (Op.equalIn (d + 1) t (.pointer a) (.pointer none)).run P w = .ok a.isNone w := by
    intro d
    unfold Op.equalIn
    rw [Sem.run_bind, run_under ht]
    cases a <;> rfl
  exact h 9999

theorem equal_slice {P : Program} {w : World} {t e : TypeId} (ht : P.underlying t = some (.slice e)) (a : Option Addr) (n c : Nat) : (Op.equal t (.slice a n c) (.slice none 0 0)).run P w = .ok a.isNone w := by
  have h : ∀ d, (Op.equalIn (d + 1) t (.slice a n c) (.slice none 0 0)).run P w = .ok a.isNone w := by
    intro d
    unfold Op.equalIn
    rw [Sem.run_bind, run_under ht]
    cases a <;> rfl
  exact h 9999

/-- two-sided operations -/
def binK (P : Program) (op : BinOp) (t : TypeId) (x y : PV) (K : PV → Prop) : Prop :=
  match x, y with
  | .int k a, .int k' b => intK op k a k' b K
  | .str a, .str b => match op with
    | .eql => K (.bool (a == b))
    | .neq => K (.bool (a != b))
    | _ => False
  | .bool a, .bool b => P.underlying t = some .bool ∧ match op with
    | .eql => K (.bool (a == b))
    | .neq => K (.bool (a != b))
    | _ => False
  | .nilptr, .nilptr => (∃ e, P.underlying t = some (.pointer e)) ∧ match op with
    | .eql => K (.bool true)
    | .neq => K (.bool false)
    | _ => False
  | .ptr _ _, .nilptr => (∃ e, P.underlying t = some (.pointer e)) ∧ match op with
    | .eql => K (.bool false)
    | .neq => K (.bool true)
    | _ => False
  | .iptr _, .nilptr => (∃ e, P.underlying t = some (.pointer e)) ∧ match op with
    | .eql => K (.bool false)
    | .neq => K (.bool true)
    | _ => False
  | .agg xs, .agg ys => P.eqGuardType P.depth t = false ∧ flatT P 20 t = some xs.length ∧ tyA P t = some (true, xs.length) ∧ fitT P 20 t xs = true ∧
    match eqCells xs ys with
    | some r => (match op with
      | .eql => K (.bool r)
      | .neq => K (.bool (!r))
      | _ => False)
    | none => False
  | _, _ => False

def isNilSlice : Operand → Bool
  | .const (.slice none 0 0) => true
  | _ => false

theorem binK_run {P : Program} {g : Gh} {w : World} {op : BinOp} {t : TypeId} {x y : PV} {v u : Value} (hx : Rel g w x v) (hy : Rel g w y u) (X Y : Operand) {K : PV → Prop} (h : binK P op t x y K) :
    ∃ r z, (do eqGuard op t X Y v u; binOp op t v u : Sem Value).run P w = .ok r w ∧ Rel g w z r ∧ K z := by
  unfold binK at h
  split at h
  · rename_i k a k' b
    cases hx; cases hy
    obtain ⟨v, z, h1, h2, h3⟩ := intK_run (P := P) (g := g) (w := w) h t
    refine ⟨v, z, ?_, h2, h3⟩
    rw [Sem.run_bind]
    have : (eqGuard op t X Y (.int k a) (.int k' b)).run P w = .ok () w := by cases op <;> simp [eqGuard]
    rw [this]; exact h1
  · rename_i a b
    cases hx; cases hy
    have hg : (eqGuard op t X Y (.string a) (.string b)).run P w = .ok () w := by cases op <;> simp [eqGuard]
    split at h
    · refine ⟨_, _, ?_, .bool _, h⟩
      rw [Sem.run_bind, hg]
      simp [binOp, Op.stringOp, beq_toListBytes]
    · refine ⟨_, _, ?_, .bool _, h⟩
      rw [Sem.run_bind, hg]
      simp [binOp, Op.stringOp, bne, beq_toListBytes]
    · exact h.elim
  · rename_i a b
    cases hx; cases hy
    obtain ⟨ht, h⟩ := h
    have hg : (eqGuard op t X Y (.bool a) (.bool b)).run P w = .ok () w := by cases op <;> simp [eqGuard]
    split at h
    · refine ⟨_, _, ?_, .bool _, h⟩
      rw [Sem.run_bind, hg]
      simp only [Result.andThen_ok, binOp, Sem.run_bind, Op.equal, Op.maxDepth]
      rw [run_equalIn_bool' w 9999 t a b ht]; rfl
    · refine ⟨_, _, ?_, .bool _, h⟩
      rw [Sem.run_bind, hg]
      simp only [Result.andThen_ok, binOp, Sem.run_bind, Op.equal, Op.maxDepth]
      rw [run_equalIn_bool' w 9999 t a b ht]; rfl
    · exact h.elim
  · cases hx; cases hy
    obtain ⟨⟨e, ht⟩, h⟩ := h
    have hg : (eqGuard op t X Y (.pointer none) (.pointer none)).run P w = .ok () w := by cases op <;> simp [eqGuard]
    split at h
    · refine ⟨_, _, ?_, .bool _, h⟩
      rw [Sem.run_bind, hg]
      simp only [Result.andThen_ok, binOp, Sem.run_bind, equal_ptr ht]; rfl
    · refine ⟨_, _, ?_, .bool _, h⟩
      rw [Sem.run_bind, hg]
      simp only [Result.andThen_ok, binOp, Sem.run_bind, equal_ptr ht]; rfl
    · exact h.elim
  · rename_i o off
    cases hx; cases hy
    obtain ⟨⟨e, ht⟩, h⟩ := h
    have hg : ∀ A, (eqGuard op t X Y (.pointer (some A)) (.pointer none)).run P w = .ok () w := by intro A; cases op <;> simp [eqGuard]
    split at h
    · refine ⟨_, _, ?_, .bool _, h⟩
      rw [Sem.run_bind, hg]
      simp only [Result.andThen_ok, binOp, Sem.run_bind, equal_ptr ht]; rfl
    · refine ⟨_, _, ?_, .bool _, h⟩
      rw [Sem.run_bind, hg]
      simp only [Result.andThen_ok, binOp, Sem.run_bind, equal_ptr ht]; rfl
    · exact h.elim
  · rename_i cs
    cases hx; cases hy
    obtain ⟨⟨e, ht⟩, h⟩ := h
    have hg : ∀ A, (eqGuard op t X Y (.pointer (some A)) (.pointer none)).run P w = .ok () w := by intro A; cases op <;> simp [eqGuard]
    split at h
    · refine ⟨_, _, ?_, .bool _, h⟩
      rw [Sem.run_bind, hg]
      simp only [Result.andThen_ok, binOp, Sem.run_bind, equal_ptr ht]; rfl
    · refine ⟨_, _, ?_, .bool _, h⟩
      rw [Sem.run_bind, hg]
      simp only [Result.andThen_ok, binOp, Sem.run_bind, equal_ptr ht]; rfl
    · exact h.elim
  · rename_i xs ys
    obtain ⟨vs, rfl, hvs⟩ := Rel.agg_iff.1 hx
    obtain ⟨us, rfl, hus⟩ := Rel.agg_iff.1 hy
    obtain ⟨hgd, hfl, hty, hfit, h⟩ := h
    have hg : (eqGuard op t X Y (.agg vs) (.agg us)).run P w = .ok () w := run_eqGuard_agg w op t X Y vs us hgd
    split at h
    · rename_i r he
      have heq := eq_flat (P := P) (g := g) (w := w) 20 10000 (by omega) t _ true _ hfl hty rfl xs ys vs.toList us.toList r hvs hus rfl hfit he
      simp only [valOf, if_true, Array.toArray_toList] at heq
      split at h
      · refine ⟨_, _, ?_, .bool _, h⟩
        rw [Sem.run_bind, hg]
        simp only [Result.andThen_ok]
        rw [run_eql_struct, heq]; rfl
      · refine ⟨_, _, ?_, .bool _, h⟩
        rw [Sem.run_bind, hg]
        simp only [Result.andThen_ok]
        rw [run_neq_struct, heq]; rfl
      · exact h.elim
    · exact h.elim
  · exact h.elim

/-- a slice held against nil -/
def nilK (P : Program) (op : BinOp) (t : TypeId) (x : PV) (K : PV → Prop) : Prop :=
  (∃ e, P.underlying t = some (.slice e)) ∧ match x with
  | .list es _ => (match op with
    | .eql => ∀ b : Bool, (es.flatten ≠ [] → b = false) → K (.bool b)
    | .neq => ∀ b : Bool, (es.flatten ≠ [] → b = true) → K (.bool b)
    | _ => False)
  | .arr _ _ _ _ => (match op with
    | .eql => K (.bool false)
    | .neq => K (.bool true)
    | _ => False)
  | _ => False

theorem nilK_run {P : Program} {g : Gh} {w : World} {op : BinOp} {t : TypeId} {x : PV} {v : Value} (hx : Rel g w x v) (X Y : Operand) {K : PV → Prop} (h : nilK P op t x K) :
    ∃ r z, (do eqGuard op t X Y v (.slice none 0 0); binOp op t v (.slice none 0 0) : Sem Value).run P w = .ok r w ∧ Rel g w z r ∧ K z := by
  obtain ⟨⟨e, ht⟩, h⟩ := h
  have hg : ∀ a n c, (eqGuard op t X Y (.slice a n c) (.slice none 0 0)).run P w = .ok () w := by intro a n c; cases op <;> simp [eqGuard]
  have heq : ∀ (a : Option Addr) n c, (Op.equal t (.slice a n c) (.slice none 0 0)).run P w = .ok a.isNone w := by
    exact fun a n c => equal_slice ht a n c
  split at h
  · rename_i es tl
    obtain ⟨a, cap, rfl, _, _, _, hc⟩ := Rel.list_iff.1 hx
    have hne : es.flatten ≠ [] → a.isNone = false := by
      intro hf
      rcases hc with h0 | ⟨A, rfl, _⟩
      · exact absurd h0 hf
      · rfl
    split at h
    · refine ⟨.bool a.isNone, .bool a.isNone, ?_, .bool _, h a.isNone hne⟩
      rw [Sem.run_bind, hg]
      simp only [Result.andThen_ok, binOp, Sem.run_bind, heq]; rfl
    · refine ⟨.bool !a.isNone, .bool !a.isNone, ?_, .bool _, h (!a.isNone) (fun hf => by rw [hne hf]; rfl)⟩
      rw [Sem.run_bind, hg]
      simp only [Result.andThen_ok, binOp, Sem.run_bind, heq]; rfl
    · exact h.elim
  · cases hx
    split at h
    · refine ⟨_, _, ?_, .bool _, h⟩
      rw [Sem.run_bind, hg]
      simp only [Result.andThen_ok, binOp, Sem.run_bind, heq]; rfl
    · refine ⟨_, _, ?_, .bool _, h⟩
      rw [Sem.run_bind, hg]
      simp only [Result.andThen_ok, binOp, Sem.run_bind, heq]; rfl
    · exact h.elim
  · exact h.elim

/-- one-sided operations -/
def unA (op : UnOp) (x : PV) : Option PV :=
  match op, x with
  | .not, .bool b => some (.bool !b)
  | .neg, .int k n => some (.int k (k.wrap (0 - n)))
  | _, _ => none

theorem unA_run {P : Program} {g : Gh} {w : World} {op : UnOp} {x y : PV} {v : Value} (hx : Rel g w x v) (h : unA op x = some y) : ∃ r, (Op.unary op v).run P w = .ok r w ∧ Rel g w y r := by
  unfold unA at h
  split at h
  · cases h; cases hx; exact ⟨_, rfl, .bool _⟩
  · cases h; cases hx; exact ⟨_, rfl, .int _ _⟩
  · cases h

/-- conversions -/
def convA (P : Program) (src dst : TypeId) (x : PV) : Option PV :=
  match P.underlying src, P.underlying dst, x with
  | some (.int _), some (.int k), .int _ n => some (.int k (k.wrap n))
  | some .string, some .string, .str s => some (.str s)
  | _, _, _ => none

theorem convA_run {P : Program} {g : Gh} {w : World} {src dst : TypeId} {x y : PV} {v : Value} (hx : Rel g w x v) (h : convA P src dst x = some y) : ∃ r, (convert src dst v).run P w = .ok r w ∧ Rel g w y r := by
  unfold convA at h
  split at h
  · rename_i k0 k k' n h1 h2
    cases h; cases hx
    refine ⟨_, ?_, .int _ _⟩
    unfold convert
    simp only [Sem.run_bind, run_under h1, run_under h2, Result.andThen_ok, Conv.intToInt, Sem.run_pure]
  · rename_i s h1 h2
    cases h; cases hx
    refine ⟨_, ?_, .str _⟩
    unfold convert
    simp only [Sem.run_bind, run_under h1, run_under h2, Result.andThen_ok, Sem.run_pure]
  · cases h

/-- a length -/
def lenA (P : Program) (t : TypeId) (x : PV) : Option Int :=
  match P.underlying t, x with
  | some (.slice _), .list es _ => some es.length
  | some (.slice _), .arr _ _ n _ => some n
  | some .string, .str s => some s.size
  | some (.array n _), _ => some n
  | _, _ => none

theorem lenA_run {P : Program} {g : Gh} {w : World} {t : TypeId} {ts : Array TypeId} {x : PV} {v : Value} {n : Int} (hx : Rel g w x v) (ht : ts[0]? = some t) (h : lenA P t x = some n) (ty : TypeId) :
    (Builtin.len_ ts ty #[v]).run P w = .ok (goInt n) w := by
  unfold Builtin.len_
  simp only [ht]
  unfold lenA at h
  split at h
  · rename_i es tl hu
    cases h
    obtain ⟨a, cap, rfl, _⟩ := Rel.list_iff.1 hx
    simp [run_under hu]
  · rename_i hu
    cases h; cases hx
    simp [run_under hu]
  · rename_i hu
    cases h; cases hx
    simp [run_under hu]
  · rename_i hu
    cases h
    simp [run_under hu]
  · cases h

theorem capA_run {P : Program} {g : Gh} {w : World} {t e : TypeId} {ts : Array TypeId} {o off len cap : Nat} {v : Value} (hx : Rel g w (.arr o off len cap) v) (ht : ts[0]? = some t) (hu : P.underlying t = some (.slice e)) (ty : TypeId) :
    (Builtin.cap_ ts ty #[v]).run P w = .ok (goInt cap) w := by
  cases hx
  unfold Builtin.cap_
  simp [ht, run_under hu]

/-- the least, the greatest of whole numbers -/
def foldMM (f : Int → Int → Int) : List PV → Option PV
  | .int k x :: ys => go k x ys
  | _ => none
  where go (k : IntKind) (x : Int) : List PV → Option PV
  | [] => some (.int k x)
  | .int _ y :: ys => go k (f x y) ys
  | _ => none

def mnI (x y : Int) : Int := if y < x then y else x
def mxI (x y : Int) : Int := if y > x then y else x

theorem min_go {P : Program} {g : Gh} {w : World} (k : IntKind) : ∀ (ys : List PV) (us : List Value) (x : Int) (z : PV), RelL g w ys us → foldMM.go mnI k x ys = some z →
    ∃ r, (us.foldlM Builtin.min2 (.int k x)).run P w = .ok r w ∧ Rel g w z r := by
  intro ys
  induction ys with
  | nil =>
    intro us x z h hz
    have : us = [] := by have := h.1; simp at this; exact List.length_eq_zero_iff.1 this.symm
    subst this
    simp only [foldMM.go, Option.some.injEq] at hz
    subst hz
    exact ⟨_, rfl, .int _ _⟩
  | cons y ys ih =>
    intro us x z h hz
    cases us with
    | nil => have := h.1; simp at this
    | cons u us =>
      have hy := h.2 0 y u rfl rfl
      cases hy <;> simp only [foldMM.go, reduceCtorEq] at hz
      obtain ⟨r, h1, h2⟩ := ih us _ z ⟨by have := h.1; simpa using this, fun q a b ha hb => h.2 (q + 1) a b (by simpa using ha) (by simpa using hb)⟩ hz
      refine ⟨r, ?_, h2⟩
      rw [List.foldlM_cons, Sem.run_bind]
      simp only [Builtin.min2, Sem.run_pure, Result.andThen_ok]
      exact h1

theorem max_go {P : Program} {g : Gh} {w : World} (k : IntKind) : ∀ (ys : List PV) (us : List Value) (x : Int) (z : PV), RelL g w ys us → foldMM.go mxI k x ys = some z →
    ∃ r, (us.foldlM Builtin.max2 (.int k x)).run P w = .ok r w ∧ Rel g w z r := by
  intro ys
  induction ys with
  | nil =>
    intro us x z h hz
    have : us = [] := by have := h.1; simp at this; exact List.length_eq_zero_iff.1 this.symm
    subst this
    simp only [foldMM.go, Option.some.injEq] at hz
    subst hz
    exact ⟨_, rfl, .int _ _⟩
  | cons y ys ih =>
    intro us x z h hz
    cases us with
    | nil => have := h.1; simp at this
    | cons u us =>
      have hy := h.2 0 y u rfl rfl
      cases hy <;> simp only [foldMM.go, reduceCtorEq] at hz
      obtain ⟨r, h1, h2⟩ := ih us _ z ⟨by have := h.1; simpa using this, fun q a b ha hb => h.2 (q + 1) a b (by simpa using ha) (by simpa using hb)⟩ hz
      refine ⟨r, ?_, h2⟩
      rw [List.foldlM_cons, Sem.run_bind]
      simp only [Builtin.max2, Sem.run_pure, Result.andThen_ok]
      exact h1

theorem minA_run {P : Program} {g : Gh} {w : World} {xs : List PV} {vs : Array Value} {z : PV} (h : RelL g w xs vs.toList) (hz : foldMM mnI xs = some z) (ts : Array TypeId) (ty : TypeId) :
    ∃ r, (Builtin.min_ ts ty vs).run P w = .ok r w ∧ Rel g w z r := by
  unfold foldMM at hz
  split at hz
  · rename_i k x ys
    unfold Builtin.min_
    generalize vs.toList = us at h
    cases us with
    | nil => have := h.1; simp at this
    | cons u us =>
      have hy := h.2 0 _ u rfl rfl
      cases hy
      exact min_go k ys us x z ⟨by have := h.1; simpa using this, fun q a b ha hb => h.2 (q + 1) a b (by simpa using ha) (by simpa using hb)⟩ hz
  · cases hz

theorem maxA_run {P : Program} {g : Gh} {w : World} {xs : List PV} {vs : Array Value} {z : PV} (h : RelL g w xs vs.toList) (hz : foldMM mxI xs = some z) (ts : Array TypeId) (ty : TypeId) :
    ∃ r, (Builtin.max_ ts ty vs).run P w = .ok r w ∧ Rel g w z r := by
  unfold foldMM at hz
  split at hz
  · rename_i k x ys
    unfold Builtin.max_
    generalize vs.toList = us at h
    cases us with
    | nil => have := h.1; simp at this
    | cons u us =>
      have hy := h.2 0 _ u rfl rfl
      cases hy
      exact max_go k ys us x z ⟨by have := h.1; simpa using this, fun q a b ha hb => h.2 (q + 1) a b (by simpa using ha) (by simpa using hb)⟩ hz
  · cases hz

/-- a struct or an array put together -/
def fillPV (place : Nat → Option (Nat × Nat)) (cells : List PV) : List (Nat × PV) → Option (List PV)
  | [] => some cells
  | (i, x) :: rest => match place i, x.cells with
    | some (off, size), some xs => if xs.length = size ∧ off + xs.length ≤ cells.length then fillPV place (over cells off xs) rest else none
    | _, _ => none

theorem foldl_over (vs : List Value) : ∀ (off j : Nat) (C : Array Value), off + j + vs.length ≤ C.size →
    ((vs.zipIdx j).foldl (fun cs (x : Value × Nat) => cs.setIfInBounds (off + x.2) x.1) C).toList = over C.toList (off + j) vs := by
  induction vs with
  | nil => intro off j C _; simp [over_nil]
  | cons v vs ih =>
    intro off j C h
    simp only [List.length_cons] at h
    simp only [List.zipIdx_cons, List.foldl_cons]
    rw [ih off (j + 1) _ (by simp; omega), Array.toList_setIfInBounds, ← Nat.add_assoc, over_cons _ _ _ _ (by simp; omega)]

theorem fill_spec {g : Gh} {w : World} (place : Nat → Option (Nat × Nat)) : ∀ (parts : List (Nat × PV)) (vparts : List (Nat × Value)) (cells : List PV) (C : Array Value) (cs : List PV),
    RelL g w cells C.toList → vparts.map (·.1) = parts.map (·.1) → RelL g w (parts.map (·.2)) (vparts.map (·.2)) → fillPV place cells parts = some cs →
    ∃ C', Instr.fill place C vparts = some C' ∧ RelL g w cs C'.toList := by
  intro parts
  induction parts with
  | nil =>
    intro vparts cells C cs h h1 _ hf
    have : vparts = [] := by simpa using h1
    subst this
    cases hf
    exact ⟨C, rfl, h⟩
  | cons p parts ih =>
    intro vparts cells C cs h h1 h2 hf
    obtain ⟨i, x⟩ := p
    cases vparts with
    | nil => simp at h1
    | cons q vparts =>
      obtain ⟨i', v⟩ := q
      simp only [List.map_cons, List.cons.injEq] at h1 h2
      obtain ⟨rfl, h1⟩ := h1
      have hx : Rel g w x v := h2.2 0 x v rfl rfl
      have h2' : RelL g w (parts.map (·.2)) (vparts.map (·.2)) := ⟨by have := h2.1; simpa using this, fun q a b ha hb => h2.2 (q + 1) a b (by simpa using ha) (by simpa using hb)⟩
      simp only [fillPV] at hf
      split at hf
      · rename_i off size xs hp hc
        split at hf
        · rename_i hfit
          have hr := hx.cells_of hc
          have hvs : v.cells.size = size := by have := hr.1; simp at this; omega
          have hCs : C.size = cells.length := by have := h.1; simp at this; omega
          obtain ⟨C', h3, h4⟩ := ih vparts (over cells off xs) ⟨over C.toList off v.cells.toList⟩ cs (by simpa using h.over hr off) h1 h2' hf
          refine ⟨C', ?_, h4⟩
          simp only [Instr.fill, hp]
          rw [if_neg (by simp [hvs]; omega)]
          rw [← h3]
          congr 1
          apply Array.ext'
          have := foldl_over v.cells.toList off 0 C (by simp; omega)
          simp only [Nat.add_zero] at this
          rw [← this, ← Array.foldl_toList]
          simp
        · cases hf
      · cases hf

def placesA (P : Program) : List Field → Option (List (Nat × Nat))
  | [] => some []
  | f :: fs => match tyA P f.type, placesA P fs with
    | some (_, sz), some r => some ((f.offset, sz) :: r)
    | _, _ => none

theorem placesA_run {P : Program} {w : World} : ∀ (fs : List Field) (r : List (Nat × Nat)), placesA P fs = some r → (fs.mapM (fun f => do pure (f.offset, ← sizeOf f.type) : Field → Sem (Nat × Nat))).run P w = .ok r w := by
  intro fs
  induction fs with
  | nil => intro r h; cases h; rfl
  | cons f fs ih =>
    intro r h
    simp only [placesA] at h
    split at h
    · rename_i b sz r' ht hr
      cases h
      simp only [List.mapM_cons, Sem.run_bind, run_sizeOf ht, Result.andThen_ok, Sem.run_pure, ih r' hr]
    · cases h

def buildA (P : Program) (t : TypeId) (parts : List (Nat × PV)) : Option (List PV) :=
  match P.underlying t, zeroA P t with
  | some (.struct fs), some z => match placesA P fs.toList with
    | some pl => fillPV (fun i => pl[i]?) z parts
    | none => none
  | some (.array _ e), some z => match tyA P e with
    | some (_, sz) => fillPV (fun i => some (i * sz, sz)) z parts
    | none => none
  | _, _ => none

theorem buildA_run {P : Program} {g : Gh} {w : World} {t : TypeId} {parts : List (Nat × PV)} {vparts : Array (Nat × Value)} {cs : List PV} (h1 : vparts.toList.map (·.1) = parts.map (·.1))
    (h2 : RelL g w (parts.map (·.2)) (vparts.toList.map (·.2))) (h : buildA P t parts = some cs) : ∃ r, (Instr.build t vparts).run P w = .ok r w ∧ Rel g w (.agg cs) r := by
  unfold buildA at h
  unfold Instr.build
  split at h
  · rename_i fs z hu hz
    obtain ⟨zv, hzr, hzl⟩ := zeroA_spec hz
    split at h
    · rename_i pl hpl
      obtain ⟨C', h3, h4⟩ := fill_spec (fun i => pl[i]?) parts vparts.toList z zv.cells cs (hzl g w) h1 h2 h
      refine ⟨.agg C', ?_, Rel.agg_iff.2 ⟨_, rfl, h4⟩⟩
      rw [Sem.run_bind, hzr]
      simp only [Result.andThen_ok, Sem.run_bind, run_under hu]
      rw [Array.mapM_eq_mapM_toList, Sem.run_map, placesA_run fs.toList pl hpl]
      simp only [Result.andThen_ok]
      have : (fun (i : Nat) => (pl.toArray)[i]?) = fun (i : Nat) => pl[i]? := by funext i; simp
      rw [this, h3]
      rfl
    · cases h
  · rename_i n e z hu hz
    obtain ⟨zv, hzr, hzl⟩ := zeroA_spec hz
    split at h
    · rename_i b sz ht
      obtain ⟨C', h3, h4⟩ := fill_spec (fun i => some (i * sz, sz)) parts vparts.toList z zv.cells cs (hzl g w) h1 h2 h
      refine ⟨.agg C', ?_, Rel.agg_iff.2 ⟨_, rfl, h4⟩⟩
      rw [Sem.run_bind, hzr]
      simp only [Result.andThen_ok, Sem.run_bind, run_under hu, run_sizeOf ht, h3]
      rfl
    · cases h
  · cases h

end Go.AM
