/-
  An abstract machine over values without memory, proved against the model; part 2. A tool for the proofs of this claim; it states nothing of the program.
-/
import Derived.Test.YthabdpaipgclpaaA1
import Derived.Laws.Append
import Derived.Laws.AppendOwn
/-! AM, part 6: operations, continued. -/
namespace Go.AM
open Go

/-- what a two-sided operation on whole numbers comes to -/
def intK (op : BinOp) (k : IntKind) (a : Int) (k' : IntKind) (b : Int) (K : PV → Prop) : Prop :=
  match op with
  | .add => k = k' ∧ K (.int k (k.wrap (a + b)))
  | .sub => k = k' ∧ K (.int k (k.wrap (a - b)))
  | .mul => k = k' ∧ K (.int k (k.wrap (a * b)))
  | .quo => k = k' ∧ b ≠ 0 ∧ K (.int k (k.wrap (a.tdiv b)))
  | .rem => k = k' ∧ b ≠ 0 ∧ K (.int k (a.tmod b))
  | .and => k = k' ∧ K (.int k (k.wrap (BitVec.ofInt k.bits a &&& BitVec.ofInt k.bits b).toNat))
  | .or => k = k' ∧ K (.int k (k.wrap (BitVec.ofInt k.bits a ||| BitVec.ofInt k.bits b).toNat))
  | .xor => k = k' ∧ K (.int k (k.wrap (BitVec.ofInt k.bits a ^^^ BitVec.ofInt k.bits b).toNat))
  | .andNot => k = k' ∧ K (.int k (k.wrap (BitVec.ofInt k.bits a &&& ~~~ BitVec.ofInt k.bits b).toNat))
  | .shl => 0 ≤ b ∧ K (.int k (k.wrap (a * 2 ^ (min b.toNat k.bits))))
  | .shr => 0 ≤ b ∧ K (.int k (a.fdiv (2 ^ (min b.toNat k.bits))))
  | .eql => k = k' ∧ K (.bool (a == b))
  | .neq => k = k' ∧ K (.bool (a != b))
  | .lss => k = k' ∧ K (.bool (decide (a < b)))
  | .leq => k = k' ∧ K (.bool (decide (a ≤ b)))
  | .gtr => k = k' ∧ K (.bool (decide (a > b)))
  | .geq => k = k' ∧ K (.bool (decide (a ≥ b)))

theorem intK_run {P : Program} {g : Gh} {w : World} {op : BinOp} {k k' : IntKind} {a b : Int} {K : PV → Prop} (h : intK op k a k' b K) (t : TypeId) :
    ∃ v z, (binOp op t (.int k a) (.int k' b)).run P w = .ok v w ∧ Rel g w z v ∧ K z := by
  cases op <;> simp only [intK] at h
  case shl =>
    refine ⟨_, _, ?_, .int _ _, h.2⟩
    simp only [binOp, Op.shift]
    rw [if_neg (by omega)]; rfl
  case shr =>
    refine ⟨_, _, ?_, .int _ _, h.2⟩
    simp only [binOp, Op.shift]
    rw [if_neg (by omega)]; rfl
  case quo =>
    obtain ⟨rfl, hb, hk⟩ := h
    refine ⟨_, _, ?_, .int _ _, hk⟩
    simp [binOp, Op.intDiv, hb]
  case rem =>
    obtain ⟨rfl, hb, hk⟩ := h
    refine ⟨_, _, ?_, .int _ _, hk⟩
    simp [binOp, Op.intDiv, hb]
  all_goals
    obtain ⟨rfl, hk⟩ := h
    first
    | exact ⟨_, _, by simp [binOp, Op.intArith, Op.intBits], Rel.int _ _, hk⟩
    | exact ⟨_, _, by simp [binOp, Op.intCmp], Rel.bool _, hk⟩

theorem equal_ptr {P : Program} {w : World} {t e : TypeId} (ht : P.underlying t = some (.pointer e)) (a : Option Addr) : (Op.equal t (.pointer a) (.pointer none)).run P w = .ok a.isNone w := by
  have h : ∀ d, (Op.equalIn (d + 1) t (.pointer a) (.pointer none)).run P w = .ok a.isNone w := by
    intro d
    unfold Op.equalIn
    rw [Sem.run_bind, run_under ht]
    cases a <;> rfl
  exact h 9999

theorem equal_slice {P : Program} {w : World} {t e : TypeId} (ht : P.underlying t = some (.slice e)) (a : Option Addr) (n c : Nat) : (Op.equal t (.slice a n c) (.slice none 0 0)).run P w = .ok a.isNone w := by
  have h : ∀ d, (Op.equalIn (d + 1) t (.slice a n c) (.slice none 0 0)).run P w = .ok a.isNone w := by
    intro d
    unfold Op.equalIn
    rw [Sem.run_bind, run_under ht]
    cases a <;> rfl
  exact h 9999

/-- two-sided operations -/
def binK (P : Program) (op : BinOp) (t : TypeId) (x y : PV) (K : PV → Prop) : Prop :=
  match x, y with
  | .int k a, .int k' b => intK op k a k' b K
  | .str a, .str b => match op with
    | .eql => K (.bool (a == b))
    | .neq => K (.bool (a != b))
    | _ => False
  | .bool a, .bool b => P.underlying t = some .bool ∧ match op with
    | .eql => K (.bool (a == b))
    | .neq => K (.bool (a != b))
    | _ => False
  | .nilptr, .nilptr => (∃ e, P.underlying t = some (.pointer e)) ∧ match op with
    | .eql => K (.bool true)
    | .neq => K (.bool false)
    | _ => False
  | .ptr _ _, .nilptr => (∃ e, P.underlying t = some (.pointer e)) ∧ match op with
    | .eql => K (.bool false)
    | .neq => K (.bool true)
    | _ => False
  | .iptr _, .nilptr => (∃ e, P.underlying t = some (.pointer e)) ∧ match op with
    | .eql => K (.bool false)
    | .neq => K (.bool true)
    | _ => False
  | .agg xs, .agg ys => P.eqGuardType P.depth t = false ∧ flatT P 20 t = some xs.length ∧ tyA P t = some (true, xs.length) ∧ fitT P 20 t xs = true ∧
    match eqCells xs ys with
    | some r => (match op with
      | .eql => K (.bool r)
      | .neq => K (.bool (!r))
      | _ => False)
    | none => False
  | _, _ => False

def isNilSlice : Operand → Bool
  | .const (.slice none 0 0) => true
  | _ => false

theorem binK_run {P : Program} {g : Gh} {w : World} {op : BinOp} {t : TypeId} {x y : PV} {v u : Value} (hx : Rel g w x v) (hy : Rel g w y u) (X Y : Operand) {K : PV → Prop} (h : binK P op t x y K) :
    ∃ r z, (do eqGuard op t X Y v u; binOp op t v u : Sem Value).run P w = .ok r w ∧ Rel g w z r ∧ K z := by
  unfold binK at h
  split at h
  · rename_i k a k' b
    cases hx; cases hy
    obtain ⟨v, z, h1, h2, h3⟩ := intK_run (P := P) (g := g) (w := w) h t
    refine ⟨v, z, ?_, h2, h3⟩
    rw [Sem.run_bind]
    have : (eqGuard op t X Y (.int k a) (.int k' b)).run P w = .ok () w := by cases op <;> simp [eqGuard]
    rw [this]; exact h1
  · rename_i a b
    cases hx; cases hy
    have hg : (eqGuard op t X Y (.string a) (.string b)).run P w = .ok () w := by cases op <;> simp [eqGuard]
    split at h
    · refine ⟨_, _, ?_, .bool _, h⟩
      rw [Sem.run_bind, hg]
      simp [binOp, Op.stringOp, beq_toListBytes]
    · refine ⟨_, _, ?_, .bool _, h⟩
      rw [Sem.run_bind, hg]
      simp [binOp, Op.stringOp, bne, beq_toListBytes]
    · exact h.elim
  · rename_i a b
    cases hx; cases hy
    obtain ⟨ht, h⟩ := h
    have hg : (eqGuard op t X Y (.bool a) (.bool b)).run P w = .ok () w := by cases op <;> simp [eqGuard]
    split at h
    · refine ⟨_, _, ?_, .bool _, h⟩
      rw [Sem.run_bind, hg]
      simp only [Result.andThen_ok, binOp, Sem.run_bind, Op.equal, Op.maxDepth]
      rw [run_equalIn_bool' w 9999 t a b ht]; rfl
    · refine ⟨_, _, ?_, .bool _, h⟩
      rw [Sem.run_bind, hg]
      simp only [Result.andThen_ok, binOp, Sem.run_bind, Op.equal, Op.maxDepth]
      rw [run_equalIn_bool' w 9999 t a b ht]; rfl
    · exact h.elim
  · cases hx; cases hy
    obtain ⟨⟨e, ht⟩, h⟩ := h
    have hg : (eqGuard op t X Y (.pointer none) (.pointer none)).run P w = .ok () w := by cases op <;> simp [eqGuard]
    split at h
    · refine ⟨_, _, ?_, .bool _, h⟩
      rw [Sem.run_bind, hg]
      simp only [Result.andThen_ok, binOp, Sem.run_bind, equal_ptr ht]; rfl
    · refine ⟨_, _, ?_, .bool _, h⟩
      rw [Sem.run_bind, hg]
      simp only [Result.andThen_ok, binOp, Sem.run_bind, equal_ptr ht]; rfl
    · exact h.elim
  · rename_i o off
    cases hx; cases hy
    obtain ⟨⟨e, ht⟩, h⟩ := h
    have hg : ∀ A, (eqGuard op t X Y (.pointer (some A)) (.pointer none)).run P w = .ok () w := by intro A; cases op <;> simp [eqGuard]
    split at h
    · refine ⟨_, _, ?_, .bool _, h⟩
      rw [Sem.run_bind, hg]
      simp only [Result.andThen_ok, binOp, Sem.run_bind, equal_ptr ht]; rfl
    · refine ⟨_, _, ?_, .bool _, h⟩
      rw [Sem.run_bind, hg]
      simp only [Result.andThen_ok, binOp, Sem.run_bind, equal_ptr ht]; rfl
    · exact h.elim
  · rename_i cs
    cases hx; cases hy
    obtain ⟨⟨e, ht⟩, h⟩ := h
    have hg : ∀ A, (eqGuard op t X Y (.pointer (some A)) (.pointer none)).run P w = .ok () w := by intro A; cases op <;> simp [eqGuard]
    split at h
    · refine ⟨_, _, ?_, .bool _, h⟩
      rw [Sem.run_bind, hg]
      simp only [Result.andThen_ok, binOp, Sem.run_bind, equal_ptr ht]; rfl
    · refine ⟨_, _, ?_, .bool _, h⟩
      rw [Sem.run_bind, hg]
      simp only [Result.andThen_ok, binOp, Sem.run_bind, equal_ptr ht]; rfl
    · exact h.elim
  · rename_i xs ys
    obtain ⟨vs, rfl, hvs⟩ := Rel.agg_iff.1 hx
    obtain ⟨us, rfl, hus⟩ := Rel.agg_iff.1 hy
    obtain ⟨hgd, hfl, hty, hfit, h⟩ := h
    have hg : (eqGuard op t X Y (.agg vs) (.agg us)).run P w = .ok () w := run_eqGuard_agg w op t X Y vs us hgd
    split at h
    · rename_i r he
      have heq := eq_flat (P := P) (g := g) (w := w) 20 10000 (by omega) t _ true _ hfl hty rfl xs ys vs.toList us.toList r hvs hus rfl hfit he
      simp only [valOf, if_true, Array.toArray_toList] at heq
      split at h
      · refine ⟨_, _, ?_, .bool _, h⟩
        rw [Sem.run_bind, hg]
        simp only [Result.andThen_ok]
        rw [run_eql_struct, heq]; rfl
      · refine ⟨_, _, ?_, .bool _, h⟩
        rw [Sem.run_bind, hg]
        simp only [Result.andThen_ok]
        rw [run_neq_struct, heq]; rfl
      · exact h.elim
    · exact h.elim
  · exact h.elim

/-- a slice held against nil -/
def nilK (P : Program) (op : BinOp) (t : TypeId) (x : PV) (K : PV → Prop) : Prop :=
  (∃ e, P.underlying t = some (.slice e)) ∧ match x with
  | .list es _ => (match op with
    | .eql => ∀ b : Bool, (es.flatten ≠ [] → b = false) → K (.bool b)
    | .neq => ∀ b : Bool, (es.flatten ≠ [] → b = true) → K (.bool b)
    | _ => False)
  | .arr _ _ _ _ => (match op with
    | .eql => K (.bool false)
    | .neq => K (.bool true)
    | _ => False)
  | _ => False

theorem nilK_run {P : Program} {g : Gh} {w : World} {op : BinOp} {t : TypeId} {x : PV} {v : Value} (hx : Rel g w x v) (X Y : Operand) {K : PV → Prop} (h : nilK P op t x K) :
    ∃ r z, (do eqGuard op t X Y v (.slice none 0 0); binOp op t v (.slice none 0 0) : Sem Value).run P w = .ok r w ∧ Rel g w z r ∧ K z := by
  obtain ⟨⟨e, ht⟩, h⟩ := h
  have hg : ∀ a n c, (eqGuard op t X Y (.slice a n c) (.slice none 0 0)).run P w = .ok () w := by intro a n c; cases op <;> simp [eqGuard]
  have heq : ∀ (a : Option Addr) n c, (Op.equal t (.slice a n c) (.slice none 0 0)).run P w = .ok a.isNone w := by
    exact fun a n c => equal_slice ht a n c
  split at h
  · rename_i es tl
    obtain ⟨a, cap, rfl, _, _, _, hc⟩ := Rel.list_iff.1 hx
    have hne : es.flatten ≠ [] → a.isNone = false := by
      intro hf
      rcases hc with h0 | ⟨A, rfl, _⟩
      · exact absurd h0 hf
      · rfl
    split at h
    · refine ⟨.bool a.isNone, .bool a.isNone, ?_, .bool _, h a.isNone hne⟩
      rw [Sem.run_bind, hg]
      simp only [Result.andThen_ok, binOp, Sem.run_bind, heq]; rfl
    · refine ⟨.bool !a.isNone, .bool !a.isNone, ?_, .bool _, h (!a.isNone) (fun hf => by rw [hne hf]; rfl)⟩
      rw [Sem.run_bind, hg]
      simp only [Result.andThen_ok, binOp, Sem.run_bind, heq]; rfl
    · exact h.elim
  · cases hx
    split at h
    · refine ⟨_, _, ?_, .bool _, h⟩
      rw [Sem.run_bind, hg]
      simp only [Result.andThen_ok, binOp, Sem.run_bind, heq]; rfl
    · refine ⟨_, _, ?_, .bool _, h⟩
      rw [Sem.run_bind, hg]
      simp only [Result.andThen_ok, binOp, Sem.run_bind, heq]; rfl
    · exact h.elim
  · exact h.elim

/-- one-sided operations -/
def unA (op : UnOp) (x : PV) : Option PV :=
  match op, x with
  | .not, .bool b => some (.bool !b)
  | .neg, .int k n => some (.int k (k.wrap (0 - n)))
  | _, _ => none

theorem unA_run {P : Program} {g : Gh} {w : World} {op : UnOp} {x y : PV} {v : Value} (hx : Rel g w x v) (h : unA op x = some y) : ∃ r, (Op.unary op v).run P w = .ok r w ∧ Rel g w y r := by
  unfold unA at h
  split at h
  · cases h; cases hx; exact ⟨_, rfl, .bool _⟩
  · cases h; cases hx; exact ⟨_, rfl, .int _ _⟩
  · cases h

/-- the text of a row of bytes -/
def strA (acc : ByteArray) : List (List PV) → Option ByteArray
  | [] => some acc
  | [.int .u8 n] :: es => strA (acc.push (UInt8.ofNat n.toNat)) es
  | _ => none
theorem bytes_loop {P : Program} {g : Gh} {w : World} : ∀ (es : List (List PV)) (vs : List Value) (s r : ByteArray), RelL g w es.flatten vs → strA s es = some r → vs.length = es.length ∧
    Sem.run P (forIn vs.toArray s fun c __s => match c with
      | Value.int IntKind.u8 n => (pure (ForInStep.yield (__s.push (UInt8.ofNat n.toNat))) : Sem (ForInStep ByteArray))
      | _ => do
        stuck "bytesToString: byte expected"
        pure (ForInStep.yield __s)) w = .ok r w
  | [], vs, s, r, hr, h => by
    simp only [strA, Option.some.injEq] at h
    subst h
    have : vs = [] := List.eq_nil_of_length_eq_zero (by have := hr.1; simpa using this.symm)
    subst this
    simp
  | [] :: es, vs, s, r, hr, h => by simp [strA] at h
  | [x] :: es, vs, s, r, hr, h => by
    cases x <;> try (simp [strA] at h; done)
    rename_i k n
    cases k <;> try (simp [strA] at h; done)
    simp only [strA] at h
    cases vs with
    | nil => have := hr.1; simp at this
    | cons v vs =>
      have h1 : Rel g w (.int .u8 n) v := hr.2 0 _ v rfl rfl
      cases h1
      have h2 : RelL g w es.flatten vs := ⟨by have := hr.1; simpa using this, fun q x u h3 h4 => hr.2 (q + 1) x u (by simpa using h3) (by simpa using h4)⟩
      obtain ⟨h5, h6⟩ := bytes_loop es vs _ r h2 h
      refine ⟨by simp [h5], ?_⟩
      simp only [List.forIn_toArray, List.forIn_cons, Sem.run_bind] at h6 ⊢
      simpa using h6
  | (x :: y :: z) :: es, vs, s, r, hr, h => by simp [strA] at h
theorem bytes_run {P : Program} {g : Gh} {w : World} {es : List (List PV)} {t : Tail} {v : Value} {r : ByteArray} (hx : Rel g w (.list es t) v) (h : strA .empty es = some r) : (Conv.bytesToString v).run P w = .ok (.string r) w := by
  obtain ⟨a, cap, rfl, hu, hc, ht, hrow⟩ := Rel.list_iff.1 hx
  unfold Conv.bytesToString
  have hnil : es.flatten = [] → es = [] ∧ r = .empty := by
    intro h0
    match es, h with
    | [], h => exact ⟨rfl, by simp only [strA, Option.some.injEq] at h; exact h.symm⟩
    | [] :: _, h => simp [strA] at h
    | (x :: y) :: _, _ => simp at h0
  cases a with
  | none =>
    rcases hrow with h0 | ⟨A, h0, _⟩
    · obtain ⟨_, rfl⟩ := hnil h0
      rfl
    · cases h0
  | some A =>
    simp only [Sem.run_bind]
    rcases hrow with h0 | ⟨A', h0, hr⟩
    · obtain ⟨rfl, rfl⟩ := hnil h0
      simp [loadCells, loadCellsFrom]
    · cases h0
      obtain ⟨vs, h1, h2, h3⟩ := hr.row.vals es.flatten.length (Nat.le_refl _)
      rw [List.take_length] at h2
      obtain ⟨h4, h5⟩ := bytes_loop (P := P) es vs _ r h2 h
      have h6 := run_loadCells P w A hr.1 vs h3
      rw [h4] at h6
      rw [h6]
      simp only [Result.andThen_ok]
      exact (congrArg (fun z => Result.andThen z fun a w' => Sem.run P (pure (Value.string a)) w') h5).trans rfl

/-- conversions -/
def convA (P : Program) (src dst : TypeId) (x : PV) : Option PV :=
  match P.underlying src, P.underlying dst, x with
  | some (.int _), some (.int k), .int _ n => some (.int k (k.wrap n))
  | some .string, some .string, .str s => some (.str s)
  | some (.slice e), some .string, .list es _ => match P.underlying e, strA .empty es with
    | some (.int .u8), some s => some (.str s)
    | _, _ => none
  | _, _, _ => none

theorem convA_run {P : Program} {g : Gh} {w : World} {src dst : TypeId} {x y : PV} {v : Value} (hx : Rel g w x v) (h : convA P src dst x = some y) : ∃ r, (convert src dst v).run P w = .ok r w ∧ Rel g w y r := by
  unfold convA at h
  split at h
  · rename_i k0 k k' n h1 h2
    cases h; cases hx
    refine ⟨_, ?_, .int _ _⟩
    unfold convert
    simp only [Sem.run_bind, run_under h1, run_under h2, Result.andThen_ok, Conv.intToInt, Sem.run_pure]
  · rename_i s h1 h2
    cases h; cases hx
    refine ⟨_, ?_, .str _⟩
    unfold convert
    simp only [Sem.run_bind, run_under h1, run_under h2, Result.andThen_ok, Sem.run_pure]
  · rename_i e es tl h1 h2
    split at h
    · rename_i s h3 h4
      cases h
      refine ⟨_, ?_, .str _⟩
      have hb := bytes_run (P := P) hx h4
      obtain ⟨a, cap, rfl, _⟩ := Rel.list_iff.1 hx
      unfold convert
      simp only [Sem.run_bind, run_under h1, run_under h2, run_under h3, Result.andThen_ok]
      exact hb
    · cases h
  · cases h

/-- a length -/
def lenA (P : Program) (t : TypeId) (x : PV) : Option Int :=
  match P.underlying t, x with
  | some (.slice _), .list es _ => some es.length
  | some (.slice _), .arr _ _ n _ => some n
  | some .string, .str s => some s.size
  | some (.array n _), _ => some n
  | _, _ => none

theorem lenA_run {P : Program} {g : Gh} {w : World} {t : TypeId} {ts : Array TypeId} {x : PV} {v : Value} {n : Int} (hx : Rel g w x v) (ht : ts[0]? = some t) (h : lenA P t x = some n) (ty : TypeId) :
    (Builtin.len_ ts ty #[v]).run P w = .ok (goInt n) w := by
  unfold Builtin.len_
  simp only [ht]
  unfold lenA at h
  split at h
  · rename_i es tl hu
    cases h
    obtain ⟨a, cap, rfl, _⟩ := Rel.list_iff.1 hx
    simp [run_under hu]
  · rename_i hu
    cases h; cases hx
    simp [run_under hu]
  · rename_i hu
    cases h; cases hx
    simp [run_under hu]
  · rename_i hu
    cases h
    simp [run_under hu]
  · cases h

theorem capA_run {P : Program} {g : Gh} {w : World} {t e : TypeId} {ts : Array TypeId} {o off len cap : Nat} {v : Value} (hx : Rel g w (.arr o off len cap) v) (ht : ts[0]? = some t) (hu : P.underlying t = some (.slice e)) (ty : TypeId) :
    (Builtin.cap_ ts ty #[v]).run P w = .ok (goInt cap) w := by
  cases hx
  unfold Builtin.cap_
  simp [ht, run_under hu]

/-- the least, the greatest of whole numbers -/
def foldMM (f : Int → Int → Int) : List PV → Option PV
  | .int k x :: ys => go k x ys
  | _ => none
  where go (k : IntKind) (x : Int) : List PV → Option PV
  | [] => some (.int k x)
  | .int _ y :: ys => go k (f x y) ys
  | _ => none

def mnI (x y : Int) : Int := if y < x then y else x
def mxI (x y : Int) : Int := if y > x then y else x

theorem min_go {P : Program} {g : Gh} {w : World} (k : IntKind) : ∀ (ys : List PV) (us : List Value) (x : Int) (z : PV), RelL g w ys us → foldMM.go mnI k x ys = some z →
    ∃ r, (us.foldlM Builtin.min2 (.int k x)).run P w = .ok r w ∧ Rel g w z r := by
  intro ys
  induction ys with
  | nil =>
    intro us x z h hz
    have : us = [] := by have := h.1; simp at this; exact List.length_eq_zero_iff.1 this.symm
    subst this
    simp only [foldMM.go, Option.some.injEq] at hz
    subst hz
    exact ⟨_, rfl, .int _ _⟩
  | cons y ys ih =>
    intro us x z h hz
    cases us with
    | nil => have := h.1; simp at this
    | cons u us =>
      have hy := h.2 0 y u rfl rfl
      cases hy <;> simp only [foldMM.go, reduceCtorEq] at hz
      obtain ⟨r, h1, h2⟩ := ih us _ z ⟨by have := h.1; simpa using this, fun q a b ha hb => h.2 (q + 1) a b (by simpa using ha) (by simpa using hb)⟩ hz
      refine ⟨r, ?_, h2⟩
      rw [List.foldlM_cons, Sem.run_bind]
      simp only [Builtin.min2, Sem.run_pure, Result.andThen_ok]
      exact h1

theorem max_go {P : Program} {g : Gh} {w : World} (k : IntKind) : ∀ (ys : List PV) (us : List Value) (x : Int) (z : PV), RelL g w ys us → foldMM.go mxI k x ys = some z →
    ∃ r, (us.foldlM Builtin.max2 (.int k x)).run P w = .ok r w ∧ Rel g w z r := by
  intro ys
  induction ys with
  | nil =>
    intro us x z h hz
    have : us = [] := by have := h.1; simp at this; exact List.length_eq_zero_iff.1 this.symm
    subst this
    simp only [foldMM.go, Option.some.injEq] at hz
    subst hz
    exact ⟨_, rfl, .int _ _⟩
  | cons y ys ih =>
    intro us x z h hz
    cases us with
    | nil => have := h.1; simp at this
    | cons u us =>
      have hy := h.2 0 y u rfl rfl
      cases hy <;> simp only [foldMM.go, reduceCtorEq] at hz
      obtain ⟨r, h1, h2⟩ := ih us _ z ⟨by have := h.1; simpa using this, fun q a b ha hb => h.2 (q + 1) a b (by simpa using ha) (by simpa using hb)⟩ hz
      refine ⟨r, ?_, h2⟩
      rw [List.foldlM_cons, Sem.run_bind]
      simp only [Builtin.max2, Sem.run_pure, Result.andThen_ok]
      exact h1

theorem minA_run {P : Program} {g : Gh} {w : World} {xs : List PV} {vs : Array Value} {z : PV} (h : RelL g w xs vs.toList) (hz : foldMM mnI xs = some z) (ts : Array TypeId) (ty : TypeId) :
    ∃ r, (Builtin.min_ ts ty vs).run P w = .ok r w ∧ Rel g w z r := by
  unfold foldMM at hz
  split at hz
  · rename_i k x ys
    unfold Builtin.min_
    generalize vs.toList = us at h
    cases us with
    | nil => have := h.1; simp at this
    | cons u us =>
      have hy := h.2 0 _ u rfl rfl
      cases hy
      exact min_go k ys us x z ⟨by have := h.1; simpa using this, fun q a b ha hb => h.2 (q + 1) a b (by simpa using ha) (by simpa using hb)⟩ hz
  · cases hz

theorem maxA_run {P : Program} {g : Gh} {w : World} {xs : List PV} {vs : Array Value} {z : PV} (h : RelL g w xs vs.toList) (hz : foldMM mxI xs = some z) (ts : Array TypeId) (ty : TypeId) :
    ∃ r, (Builtin.max_ ts ty vs).run P w = .ok r w ∧ Rel g w z r := by
  unfold foldMM at hz
  split at hz
  · rename_i k x ys
    unfold Builtin.max_
    generalize vs.toList = us at h
    cases us with
    | nil => have := h.1; simp at this
    | cons u us =>
      have hy := h.2 0 _ u rfl rfl
      cases hy
      exact max_go k ys us x z ⟨by have := h.1; simpa using this, fun q a b ha hb => h.2 (q + 1) a b (by simpa using ha) (by simpa using hb)⟩ hz
  · cases hz

/-- a struct or an array put together -/
def fillPV (place : Nat → Option (Nat × Nat)) (cells : List PV) : List (Nat × PV) → Option (List PV)
  | [] => some cells
  | (i, x) :: rest => match place i, x.cells with
    | some (off, size), some xs => if xs.length = size ∧ off + xs.length ≤ cells.length then fillPV place (over cells off xs) rest else none
    | _, _ => none

theorem foldl_over (vs : List Value) : ∀ (off j : Nat) (C : Array Value), off + j + vs.length ≤ C.size →
    ((vs.zipIdx j).foldl (fun cs (x : Value × Nat) => cs.setIfInBounds (off + x.2) x.1) C).toList = over C.toList (off + j) vs := by
  induction vs with
  | nil => intro off j C _; simp [over_nil]
  | cons v vs ih =>
    intro off j C h
    simp only [List.length_cons] at h
    simp only [List.zipIdx_cons, List.foldl_cons]
    rw [ih off (j + 1) _ (by simp; omega), Array.toList_setIfInBounds, ← Nat.add_assoc, over_cons _ _ _ _ (by simp; omega)]

theorem fill_spec {g : Gh} {w : World} (place : Nat → Option (Nat × Nat)) : ∀ (parts : List (Nat × PV)) (vparts : List (Nat × Value)) (cells : List PV) (C : Array Value) (cs : List PV),
    RelL g w cells C.toList → vparts.map (·.1) = parts.map (·.1) → RelL g w (parts.map (·.2)) (vparts.map (·.2)) → fillPV place cells parts = some cs →
    ∃ C', Instr.fill place C vparts = some C' ∧ RelL g w cs C'.toList := by
  intro parts
  induction parts with
  | nil =>
    intro vparts cells C cs h h1 _ hf
    have : vparts = [] := by simpa using h1
    subst this
    cases hf
    exact ⟨C, rfl, h⟩
  | cons p parts ih =>
    intro vparts cells C cs h h1 h2 hf
    obtain ⟨i, x⟩ := p
    cases vparts with
    | nil => simp at h1
    | cons q vparts =>
      obtain ⟨i', v⟩ := q
      simp only [List.map_cons, List.cons.injEq] at h1 h2
      obtain ⟨rfl, h1⟩ := h1
      have hx : Rel g w x v := h2.2 0 x v rfl rfl
      have h2' : RelL g w (parts.map (·.2)) (vparts.map (·.2)) := ⟨by have := h2.1; simpa using this, fun q a b ha hb => h2.2 (q + 1) a b (by simpa using ha) (by simpa using hb)⟩
      simp only [fillPV] at hf
      split at hf
      · rename_i off size xs hp hc
        split at hf
        · rename_i hfit
          have hr := hx.cells_of hc
          have hvs : v.cells.size = size := by have := hr.1; simp at this; omega
          have hCs : C.size = cells.length := by have := h.1; simp at this; omega
          obtain ⟨C', h3, h4⟩ := ih vparts (over cells off xs) ⟨over C.toList off v.cells.toList⟩ cs (by simpa using h.over hr off) h1 h2' hf
          refine ⟨C', ?_, h4⟩
          simp only [Instr.fill, hp]
          rw [if_neg (by simp [hvs]; omega)]
          rw [← h3]
          congr 1
          apply Array.ext'
          have := foldl_over v.cells.toList off 0 C (by simp; omega)
          simp only [Nat.add_zero] at this
          rw [← this, ← Array.foldl_toList]
          simp
        · cases hf
      · cases hf

def placesA (P : Program) : List Field → Option (List (Nat × Nat))
  | [] => some []
  | f :: fs => match tyA P f.type, placesA P fs with
    | some (_, sz), some r => some ((f.offset, sz) :: r)
    | _, _ => none

theorem placesA_run {P : Program} {w : World} : ∀ (fs : List Field) (r : List (Nat × Nat)), placesA P fs = some r → (fs.mapM (fun f => do pure (f.offset, ← sizeOf f.type) : Field → Sem (Nat × Nat))).run P w = .ok r w := by
  intro fs
  induction fs with
  | nil => intro r h; cases h; rfl
  | cons f fs ih =>
    intro r h
    simp only [placesA] at h
    split at h
    · rename_i b sz r' ht hr
      cases h
      simp only [List.mapM_cons, Sem.run_bind, run_sizeOf ht, Result.andThen_ok, Sem.run_pure, ih r' hr]
    · cases h

def buildA (P : Program) (t : TypeId) (parts : List (Nat × PV)) : Option (List PV) :=
  match P.underlying t, zeroA P t with
  | some (.struct fs), some z => match placesA P fs.toList with
    | some pl => fillPV (fun i => pl[i]?) z parts
    | none => none
  | some (.array _ e), some z => match tyA P e with
    | some (_, sz) => fillPV (fun i => some (i * sz, sz)) z parts
    | none => none
  | _, _ => none

theorem buildA_run {P : Program} {g : Gh} {w : World} {t : TypeId} {parts : List (Nat × PV)} {vparts : Array (Nat × Value)} {cs : List PV} (h1 : vparts.toList.map (·.1) = parts.map (·.1))
    (h2 : RelL g w (parts.map (·.2)) (vparts.toList.map (·.2))) (h : buildA P t parts = some cs) : ∃ r, (Instr.build t vparts).run P w = .ok r w ∧ Rel g w (.agg cs) r := by
  unfold buildA at h
  unfold Instr.build
  split at h
  · rename_i fs z hu hz
    obtain ⟨zv, hzr, hzl⟩ := zeroA_spec hz
    split at h
    · rename_i pl hpl
      obtain ⟨C', h3, h4⟩ := fill_spec (fun i => pl[i]?) parts vparts.toList z zv.cells cs (hzl g w) h1 h2 h
      refine ⟨.agg C', ?_, Rel.agg_iff.2 ⟨_, rfl, h4⟩⟩
      rw [Sem.run_bind, hzr]
      simp only [Result.andThen_ok, Sem.run_bind, run_under hu]
      rw [Array.mapM_eq_mapM_toList, Sem.run_map, placesA_run fs.toList pl hpl]
      simp only [Result.andThen_ok]
      have : (fun (i : Nat) => (pl.toArray)[i]?) = fun (i : Nat) => pl[i]? := by funext i; simp
      rw [this, h3]
      rfl
    · cases h
  · rename_i n e z hu hz
    obtain ⟨zv, hzr, hzl⟩ := zeroA_spec hz
    split at h
    · rename_i b sz ht
      obtain ⟨C', h3, h4⟩ := fill_spec (fun i => some (i * sz, sz)) parts vparts.toList z zv.cells cs (hzl g w) h1 h2 h
      refine ⟨.agg C', ?_, Rel.agg_iff.2 ⟨_, rfl, h4⟩⟩
      rw [Sem.run_bind, hzr]
      simp only [Result.andThen_ok, Sem.run_bind, run_under hu, run_sizeOf ht, h3]
      rfl
    · cases h
  · cases h

end Go.AM

/-! AM, part 7: slices made, cut, appended to, copied. -/
namespace Go.AM
open Go

theorem range_map_zero (zero : Array Value) (n : Nat) (h : zero.size ≠ 0 ∨ n = 0) : ((Array.range (n * zero.size)).map (fun i => zero[i % zero.size]!)).toList = (List.replicate n zero.toList).flatten := by
  rcases h with h | h
  · induction n with
    | zero => simp
    | succ n ih =>
      rw [List.replicate_succ', List.flatten_append, ← ih]
      simp only [Array.toList_map, Array.toList_range, List.flatten_cons, List.flatten_nil, List.append_nil]
      rw [Nat.succ_mul, List.range_add, List.map_append, List.map_map]
      congr 1
      apply List.ext_getElem?
      intro q
      by_cases hq : q < zero.size
      · rw [List.getElem?_map, List.getElem?_range hq]
        simp only [Option.map_some, Function.comp]
        rw [Nat.mul_add_mod_of_lt hq, Array.getElem?_toList]
        simp [hq]
      · rw [List.getElem?_eq_none (by simp; omega), List.getElem?_eq_none (by simp; omega)]
  · subst h; simp

theorem relL_flat {g : Gh} {w : World} {cs : List PV} {vs : List Value} (h : RelL g w cs vs) (n : Nat) : RelL g w (List.replicate n cs).flatten (List.replicate n vs).flatten := by
  induction n with
  | zero => exact .nil
  | succ n ih => simp only [List.replicate_succ, List.flatten_cons]; exact h.append ih

def uni (s : Nat) (es : List (List PV)) : Prop := ∀ e ∈ es, e.length = s

theorem uni_flat {s : Nat} {es : List (List PV)} (h : uni s es) : es.flatten.length = es.length * s := by
  have := flat_take h es.length (Nat.le_refl _)
  rwa [List.take_length] at this

theorem uni_eq {s : Nat} {es : List (List PV)} (h : uni s es) : ∀ e ∈ es, ∀ e' ∈ es, e.length = e'.length := fun e he e' he' => (h e he).trans (h e' he').symm

theorem flatten_set {s : Nat} {es : List (List PV)} (h : uni s es) {i : Nat} (hi : i < es.length) {xs : List PV} (hx : xs.length = s) : (es.set i xs).flatten = over es.flatten (i * s) xs := by
  have h1 : (es.flatten).take (i * s) = (es.take i).flatten := by
    conv => lhs; rw [← List.take_append_drop i es, List.flatten_append]
    rw [List.take_append_of_le_length (by rw [flat_take h i (Nat.le_of_lt hi)]; omega), List.take_of_length_le (by rw [flat_take h i (Nat.le_of_lt hi)]; omega)]
  have h2 : (es.flatten).drop (i * s + xs.length) = (es.drop (i + 1)).flatten := by
    rw [hx, ← Nat.succ_mul, flat_drop h (i + 1) hi]
  unfold over
  rw [h1, h2, List.set_eq_take_append_cons_drop, if_pos hi]
  simp

/-- a slice written out, as a list -/
def esFill (s : Nat) (es : List (List PV)) : List (Nat × PV) → Option (List (List PV))
  | [] => some es
  | (i, x) :: rest => match x.cells with
    | some xs => if xs.length = s ∧ i < es.length then esFill s (es.set i xs) rest else none
    | none => none

theorem esFill_flat {s : Nat} : ∀ (parts : List (Nat × PV)) (es es' : List (List PV)), uni s es → esFill s es parts = some es' →
    uni s es' ∧ es'.length = es.length ∧ fillPV (fun i => some (i * s, s)) es.flatten parts = some es'.flatten := by
  intro parts
  induction parts with
  | nil => intro es es' h1 h; cases h; exact ⟨h1, rfl, rfl⟩
  | cons p parts ih =>
    intro es es' h1 h
    obtain ⟨i, x⟩ := p
    simp only [esFill] at h
    split at h
    · rename_i xs hx
      split at h
      · rename_i hc
        have hu : uni s (es.set i xs) := by
          intro e he
          rcases List.mem_or_eq_of_mem_set he with he | rfl
          · exact h1 e he
          · exact hc.1
        obtain ⟨h2, h3, h4⟩ := ih _ es' hu h
        refine ⟨h2, by simpa using h3, ?_⟩
        simp only [fillPV, hx]
        rw [if_pos ⟨hc.1, by rw [hc.1, uni_flat h1, ← Nat.succ_mul]; exact Nat.mul_le_mul_right _ hc.2⟩, ← flatten_set h1 hc.2 hc.1]
        exact h4
      · cases h
    · cases h

theorem vok_buildSlice {P : Program} {g : Gh} {H : Heap} {w : World} {K : PV → Heap → Prop} (h : Sim g H w) {t : TypeId} {b : Bool} {sz by_ : Nat} {et : TypeId} (hel : elA P t = some (none, b, sz, by_, et))
    {len : Nat} {parts : List (Nat × PV)} {vparts : Array (Nat × Value)} {z : List PV} {es : List (List PV)} (hz : zeroA P et = some z) (hzs : z.length = sz) (hs0 : sz ≠ 0) (hn : len * sz ≤ 16777216)
    (h1 : vparts.toList.map (·.1) = parts.map (·.1)) (h2 : RelL g w (parts.map (·.2)) (vparts.toList.map (·.2))) (he : esFill sz (List.replicate len z) parts = some es)
    (hk : K (.list es .exact) H) : VOk P (Instr.buildSlice t len vparts) g H w K := by
  obtain ⟨hu, ht, _⟩ := elA_slice hel
  obtain ⟨zv, hzr, hzl⟩ := zeroA_spec hz
  have hzc : zv.cells.size = sz := by have := (hzl g w).1; simp at this; omega
  have huni : uni sz (List.replicate len z) := fun e he => by rw [List.eq_of_mem_replicate he, hzs]
  obtain ⟨h3, h4, h5⟩ := esFill_flat parts _ es huni he
  have hlen : es.length = len := by simpa using h4
  -- the zero cells
  have hC : ∃ zero : Array Value, (if len * sz = 0 then pure #[] else do pure (← zeroValue et).cells : Sem (Array Value)).run P w = .ok zero w ∧
      ((Array.range (len * sz)).map (fun i => zero[i % zero.size]!)).toList = (List.replicate len zv.cells.toList).flatten := by
    by_cases h0 : len * sz = 0
    · have hl0 : len = 0 := by
        rcases Nat.mul_eq_zero.1 h0 with h | h
        · exact h
        · exact absurd h hs0
      subst hl0
      exact ⟨#[], by simp, by simp⟩
    · refine ⟨zv.cells, ?_, ?_⟩
      · rw [if_neg h0, Sem.run_bind, hzr]; rfl
      · have := range_map_zero zv.cells len (.inl (by omega))
        rwa [hzc] at this ⊢
  obtain ⟨zero, hC2, hC1⟩ := hC
  obtain ⟨C, hCdef⟩ : ∃ C : Array Value, (Array.range (len * sz)).map (fun i => zero[i % zero.size]!) = C := ⟨_, rfl⟩
  rw [hCdef] at hC1
  have hrel : RelL g w (List.replicate len z).flatten C.toList := by rw [hC1]; exact relL_flat (hzl g w) len
  obtain ⟨C', h6, h7⟩ := fill_spec (fun i => some (i * sz, sz)) parts vparts.toList _ C _ hrel h1 h2 h5
  obtain ⟨k1, k2, k3⟩ := h.newRow et h7
  refine ⟨.slice (some ⟨w.heap.size, 0, none⟩) len len, _, _, H, _, ?_, k1, k2, ?_, hk⟩
  · unfold Instr.buildSlice
    rw [Sem.run_bind, run_under hu]
    simp only [Result.andThen_ok, Sem.run_bind, run_sizeOf ht]
    rw [if_neg (by omega)]
    by_cases h0 : len * sz = 0
    · rw [if_pos h0] at hC2 ⊢
      simp only [Sem.run_pure, Result.ok.injEq, and_true] at hC2
      subst hC2
      simp only [Sem.run_bind, Sem.run_pure, Result.andThen_ok]
      rw [hCdef, h6]
      simp only [newRow, Sem.run_bind, run_newObj, Result.andThen_ok, Sem.run_pure]
      rfl
    · rw [if_neg h0] at hC2 ⊢
      simp only [Sem.run_bind, hzr, Sem.run_pure, Result.andThen_ok, Result.ok.injEq, and_true] at hC2 ⊢
      subst hC2
      rw [hCdef, h6]
      simp only [newRow, Sem.run_bind, run_newObj, Result.andThen_ok, Sem.run_pure]
      rfl
  · refine Rel.list_iff.2 ⟨some ⟨w.heap.size, 0, none⟩, len, by rw [hlen], uni_eq h3, by omega, by simp [TailOk, hlen], ?_⟩
    by_cases hf : es.flatten = []
    · exact .inl hf
    · exact .inr ⟨_, rfl, k3⟩

/-- bounds of a cut -/
def bnd (d : Int) : Option PV → Option Int
  | none => some d
  | some (.int _ n) => some n
  | some _ => none

def cutTail (tl : Tail) (lo hi mx : Option PV) (h m : Int) : Tail :=
  match mx with
  | some _ => if h = m then .exact else .no
  | none => match hi with
    | some _ => .no
    | none => match lo, tl with
      | none, tl => tl
      | some _, .exact => .exact
      | some _, _ => .no

theorem run_bound {P : Program} {w : World} {k : IntKind} {i : Int} {y : Nat} (h0 : 0 ≤ i) (h1 : i ≤ y) (code : BoundsCode) : (Instr.sliceBound (.int k i) y code).run P w = .ok i.toNat w := by
  unfold Instr.sliceBound
  simp only [asIntOf, Sem.run_bind, Sem.run_pure, Result.andThen_ok]
  rw [if_pos ⟨h0, h1⟩]
  rfl

inductive OptRel (g : Gh) (w : World) : Option PV → Option Value → Prop where
  | none : OptRel g w none none
  | some {x : PV} {v : Value} (h : Rel g w x v) : OptRel g w (some x) (some v)

theorem run_bounds {P : Program} {g : Gh} {w : World} {lo hi mx : Option PV} {vl vh vm : Option Value} (hl : OptRel g w lo vl) (hh : OptRel g w hi vh) (hm : OptRel g w mx vm) {len cap : Nat} {l h m : Int}
    (el : bnd 0 lo = some l) (eh : bnd len hi = some h) (em : bnd cap mx = some m) (h0 : 0 ≤ l) (h1 : l ≤ h) (h2 : h ≤ m) (h3 : m ≤ cap) (hx : hi = none → mx = none) :
    (Instr.sliceBounds true len cap vl vh vm).run P w = .ok (l.toNat, h.toNat, m.toNat) w := by
  have m1 : ∀ (k : IntKind) (f : BoundsCode), (Instr.sliceBound (.int k m) cap f).run P w = .ok m.toNat w := fun k f => run_bound (by omega) h3 f
  have h4 : ∀ (k : IntKind) (f : BoundsCode), (Instr.sliceBound (.int k h) m.toNat f).run P w = .ok h.toNat w := fun k f => run_bound (by omega) (by omega) f
  have l1 : ∀ (k : IntKind) (f : BoundsCode), (Instr.sliceBound (.int k l) h.toNat f).run P w = .ok l.toNat w := fun k f => run_bound (by omega) (by omega) f
  unfold Instr.sliceBounds
  cases hm with
  | none =>
    simp only [bnd, Option.some.injEq] at em
    subst em
    simp only [Int.toNat_natCast] at *
    cases hh with
    | none =>
      simp only [bnd, Option.some.injEq] at eh
      subst eh
      simp only [Int.toNat_natCast] at *
      cases hl with
      | none => simp only [bnd, Option.some.injEq] at el; subst el; simp
      | some hr =>
        cases hr <;> simp only [bnd, reduceCtorEq, Option.some.injEq] at el
        subst el
        simp [l1]
    | some hr =>
      cases hr <;> simp only [bnd, reduceCtorEq, Option.some.injEq] at eh
      subst eh
      cases hl with
      | none => simp only [bnd, Option.some.injEq] at el; subst el; simp [h4]
      | some hr =>
        cases hr <;> simp only [bnd, reduceCtorEq, Option.some.injEq] at el
        subst el
        simp [h4, l1]
  | some hr =>
    cases hr <;> simp only [bnd, reduceCtorEq, Option.some.injEq] at em
    subst em
    cases hh with
    | none => exact absurd (hx rfl) (by simp)
    | some hr =>
      cases hr <;> simp only [bnd, reduceCtorEq, Option.some.injEq] at eh
      subst eh
      cases hl with
      | none => simp only [bnd, Option.some.injEq] at el; subst el; simp [m1, h4]
      | some hr =>
        cases hr <;> simp only [bnd, reduceCtorEq, Option.some.injEq] at el
        subst el
        simp [m1, h4, l1]

theorem uni_take {s : Nat} {es : List (List PV)} (h : uni s es) (n : Nat) : uni s (es.take n) := fun e he => h e (List.mem_of_mem_take he)
theorem uni_drop {s : Nat} {es : List (List PV)} (h : uni s es) (n : Nat) : uni s (es.drop n) := fun e he => h e (List.mem_of_mem_drop he)

theorem vok_slice_list {P : Program} {g : Gh} {H : Heap} {w : World} {K : PV → Heap → Prop} (hS : Sim g H w) {t : TypeId} {b : Bool} {sz by_ : Nat} {et : TypeId} (hel : elA P t = some (none, b, sz, by_, et))
    {es : List (List PV)} {tl : Tail} {v : Value} (hx : Rel g w (.list es tl) v) {lo hi mx : Option PV} {vl vh vm : Option Value} (hl : OptRel g w lo vl) (hh : OptRel g w hi vh) (hm : OptRel g w mx vm)
    {l h m : Int} (el : bnd 0 lo = some l) (eh : bnd es.length hi = some h) (em : bnd es.length mx = some m) (h0 : 0 ≤ l) (h1 : l ≤ h) (h2 : h ≤ m) (h3 : m ≤ es.length) (hmx : hi = none → mx = none)
    (hu : uni sz es) (hk : K (.list ((es.take h.toNat).drop l.toNat) (cutTail tl lo hi mx h m)) H) : VOk P (Instr.sliceAt t v vl vh vm) g H w K := by
  obtain ⟨a, cap, rfl, _, hcap, htl, hc⟩ := Rel.list_iff.1 hx
  obtain ⟨hut, ht, _⟩ := elA_slice hel
  -- the true bound behind
  obtain ⟨m', em', hm1, hm2, hm3⟩ : ∃ m', bnd cap mx = some m' ∧ h ≤ m' ∧ m' ≤ cap ∧ (mx ≠ none → m' = m) := by
    cases mx with
    | none => exact ⟨cap, rfl, by omega, by omega, fun h => absurd rfl h⟩
    | some y =>
      refine ⟨m, ?_, h2, by omega, fun _ => rfl⟩
      cases y <;> simp only [bnd, reduceCtorEq] at em ⊢
      exact em
  have hrun := run_bounds (P := P) hl hh hm (len := es.length) (cap := cap) el eh em' h0 h1 hm1 hm2 hmx
  have hlen : ((es.take h.toNat).drop l.toNat).length = h.toNat - l.toNat := by simp; omega
  refine VOk.same hS (v := .slice (if m'.toNat = l.toNat then a else a.map (·.add (l.toNat * sz))) (h.toNat - l.toNat) (m'.toNat - l.toNat)) ?_ ?_ hk
  · unfold Instr.sliceAt
    simp only [Sem.run_bind, run_under hut, Result.andThen_ok]
    unfold Instr.slice
    simp only [Sem.run_bind, run_under hut, Result.andThen_ok, hrun, run_sizeOf ht, Sem.run_pure]
  · refine Rel.list_iff.2 ⟨_, _, by rw [hlen], uni_eq (uni_drop (uni_take hu _) _), by rw [hlen]; omega, ?_, ?_⟩
    · cases mx with
      | some y =>
        have hme : m' = m := hm3 (by simp)
        simp only [cutTail]
        by_cases hh' : h = m
        · rw [if_pos hh']
          simp only [TailOk]
          rw [hlen, hme]; omega
        · rw [if_neg hh']; trivial
      | none =>
        have hme : m' = cap := by simp only [bnd, Option.some.injEq] at em'; omega
        cases hi with
        | some y => trivial
        | none =>
          have hhe : h = es.length := by simp only [bnd, Option.some.injEq] at eh; omega
          cases lo with
          | none =>
            have hle : l = 0 := by simp only [bnd, Option.some.injEq] at el; omega
            subst hle; subst hhe; subst hme
            have e1 : List.drop (Int.toNat 0) (List.take (Int.toNat ↑es.length) es) = es := by simp
            rw [e1]
            simp only [cutTail, Int.toNat_zero, Nat.sub_zero, Nat.zero_mul, Int.toNat_natCast]
            have : (if cap = 0 then a else a.map fun x => x.add 0) = a := by
              split
              · rfl
              · cases a <;> simp [Addr.add]
            rw [this]; exact htl
          | some y =>
            cases tl with
            | exact =>
              simp only [TailOk, cutTail] at htl ⊢
              rw [hlen, hme]; omega
            | no => trivial
            | tok o => trivial
    · by_cases hf : ((es.take h.toNat).drop l.toNat).flatten = []
      · exact .inl hf
      · refine .inr ?_
        have hne : (es.take h.toNat).drop l.toNat ≠ [] := fun e => hf (by rw [e]; rfl)
        have hlt : l < h := by
          rcases Int.lt_or_le l h with h | h
          · exact h
          · exact absurd (List.eq_nil_of_length_eq_zero (by rw [hlen]; omega)) hne
        rw [if_neg (by omega)]
        have hfe : es.flatten ≠ [] := by
          intro e
          apply hf
          have : ∀ e' ∈ es, e' = [] := by simpa using e
          simp only [List.flatten_eq_nil_iff]
          intro e' he'
          exact this e' (List.mem_of_mem_take (List.mem_of_mem_drop he'))
        rcases hc with h' | ⟨A, rfl, hr⟩
        · exact absurd h' hfe
        · refine ⟨At A (l.toNat * sz), by simp [addr_add hr.1], ?_⟩
          have h4 := hr.drop (l.toNat * sz)
          rw [flat_drop hu l.toNat (by omega)] at h4
          have h5 : (es.drop l.toNat).flatten = ((es.take h.toNat).drop l.toNat).flatten ++ (es.drop h.toNat).flatten := by
            rw [← List.flatten_append]
            congr 1
            rw [← List.take_append_drop (h.toNat - l.toNat) (es.drop l.toNat), List.drop_drop, List.drop_take]
            congr 2
            omega
          rw [h5] at h4
          exact h4.front

theorem vok_slice_arr {P : Program} {g : Gh} {H : Heap} {w : World} {K : PV → Heap → Prop} (hS : Sim g H w) {t : TypeId} {b : Bool} {sz by_ : Nat} {et : TypeId} (hel : elA P t = some (none, b, sz, by_, et))
    {o off len cap : Nat} {v : Value} (hx : Rel g w (.arr o off len cap) v) {lo hi mx : Option PV} {vl vh vm : Option Value} (hl : OptRel g w lo vl) (hh : OptRel g w hi vh) (hm : OptRel g w mx vm)
    {l h m : Int} (el : bnd 0 lo = some l) (eh : bnd len hi = some h) (em : bnd cap mx = some m) (h0 : 0 ≤ l) (h1 : l ≤ h) (h2 : h ≤ m) (h3 : m ≤ cap) (hmx : hi = none → mx = none)
    (hk : K (.arr o (if m.toNat = l.toNat then off else off + l.toNat * sz) (h.toNat - l.toNat) (m.toNat - l.toNat)) H) : VOk P (Instr.sliceAt t v vl vh vm) g H w K := by
  cases hx with
  | arr _ _ _ _ ho =>
  obtain ⟨hut, ht, _⟩ := elA_slice hel
  have hrun := run_bounds (P := P) hl hh hm (len := len) (cap := cap) el eh em h0 h1 h2 h3 hmx
  refine VOk.same hS (v := .slice (if m.toNat = l.toNat then some ⟨g.bk o, off, none⟩ else (some ⟨g.bk o, off, none⟩ : Option Addr).map (·.add (l.toNat * sz))) (h.toNat - l.toNat) (m.toNat - l.toNat)) ?_ ?_ hk
  · unfold Instr.sliceAt
    simp only [Sem.run_bind, run_under hut, Result.andThen_ok]
    unfold Instr.slice
    simp only [Sem.run_bind, run_under hut, Result.andThen_ok, hrun, run_sizeOf ht, Sem.run_pure]
  · split
    · exact .arr o off _ _ ho
    · simp only [Option.map_some]
      rw [addr_add rfl]
      exact .arr o (off + l.toNat * sz) _ _ ho

end Go.AM

/-! AM, part 8: append, copy, clear, make. -/
namespace Go.AM
open Go

/-- a new block, the first k cells of which never change -/
theorem Sim.newRowK {g : Gh} {H : Heap} {w : World} (h : Sim g H w) {cs : List PV} {C : Array Value} (ty : TypeId) (hr : RelL g w cs (C.toList.take cs.length)) :
    Sim (g.row w.heap.size cs.length) H (w.alloc (.cells C ty)) ∧ Ext g H w (g.row w.heap.size cs.length) H (w.alloc (.cells C ty)) ∧
      ImmRow (g.row w.heap.size cs.length) (w.alloc (.cells C ty)) ⟨w.heap.size, 0, none⟩ cs := by
  have hgx : Gext g w (g.row w.heap.size cs.length) (w.alloc (.cells C ty)) :=
    ⟨Nat.le_refl _, fun _ _ => rfl, fun _ _ => rfl, fun _ _ => rfl, fun _ _ h => .inl h, fun b q hq => alloc_cell_old w _ b q (h.imm b q hq)⟩
  have hold : ∀ o ob b, H[o]? = some ob → ob.alive = true → blk g ob o b → b < w.heap.size := fun o ob b h1 h2 h3 => own_lt h ⟨o, ob, h1, h2, h3⟩
  refine ⟨⟨h.n, fun o o' ob ob' b h1 h2 h3 h4 h5 h6 => h.inj o o' ob ob' b h1 h2 h3 h4 ((blk_of rfl (fun _ => Iff.rfl) _ _).1 h5) ((blk_of rfl (fun _ => Iff.rfl) _ _).1 h6), ?_, ?_, ?_, ?_⟩,
    ⟨hgx, by simp, fun b _ ⟨o, ob, h1, h2, h3⟩ => ⟨o, ob, h1, h2, (blk_of rfl (fun _ => Iff.rfl) _ _).1 h3⟩, ?_, rfl, rfl, rfl, fun _ _ hb h => h.imp id fun k => absurd hb (by rw [k.1]; exact Nat.lt_irrefl _)⟩, rfl, ?_⟩
  · intro o cs' h1
    obtain ⟨⟨C', ty', h2, h3⟩, h4⟩ := h.cells o cs' h1
    have hlt := hold o _ _ h1 rfl rfl
    refine ⟨⟨C', ty', ?_, h3.mono hgx⟩, ?_⟩
    · show (w.alloc _).heap[g.bk o]? = _
      rw [alloc_get, if_neg (Nat.ne_of_lt hlt)]; exact h2
    · rintro q (hq | ⟨hq, _⟩)
      · exact h4 q hq
      · exact absurd hq (Nat.ne_of_lt hlt)
  · intro o h1
    obtain ⟨⟨C', ty', h2, h2'⟩, h4⟩ := h.tok o h1
    have hlt := hold o _ _ h1 rfl rfl
    refine ⟨⟨C', ty', ?_, h2'⟩, ?_⟩
    · show (w.alloc _).heap[g.bk o]? = _
      rw [alloc_get, if_neg (Nat.ne_of_lt hlt)]; exact h2
    · rintro q hq (hi | ⟨hi, _⟩)
      · exact h4 q hq hi
      · exact absurd hi (Nat.ne_of_lt hlt)
  · rintro b q (hq | ⟨rfl, _⟩)
    · have := h.imm b q hq; simp; omega
    · simp
  · intro o r h1
    have h2 := (h.abs o r h1).2.2
    refine h.absKeep h1 hgx rfl (fun _ => Iff.rfl) (fun b hb => by rw [alloc_get, if_neg (Nat.ne_of_lt (h2 b hb).1)]) ?_ (by simp) ?_
    · rintro b q hb (hq | ⟨rfl, _⟩)
      · exact (h2 b hb).2 q hq
      · exact Nat.lt_irrefl _ (h2 _ hb).1
    · rintro b q (hq | ⟨rfl, _⟩)
      · have := h.imm b q hq; simp; omega
      · simp
  · intro b hb _
    rw [alloc_get, if_neg (by omega)]
  · intro q x hx
    have hq : q < cs.length := (List.getElem?_eq_some_iff.1 hx).1
    obtain ⟨v, hv, hrel⟩ := hr.get hx
    rw [List.getElem?_take, if_pos hq, Array.getElem?_toList] at hv
    refine ⟨.inr ⟨rfl, by simpa using hq⟩, v, ?_, hrel.mono hgx⟩
    simp only [At, Nat.zero_add]
    rw [World.cell?_alloc_new]; exact hv

/-- an object's block: cells [lo, hi) are made fast, and a mark of the spare room behind is laid -/
def Gh.fast (g : Gh) (b lo hi sz : Nat) : Gh :=
  { n := g.n + 1, bk := fun o => if o = g.n then b else g.bk o, en := fun o => if o = g.n then hi else g.en o, sz := fun o => if o = g.n then sz else g.sz o, imm := fun b' q => g.imm b' q ∨ (b' = b ∧ lo ≤ q ∧ q < hi), fp := g.fp }

/-- a new block, the first k cells of which never change, the others spare -/
theorem Sim.newTok {g : Gh} {H : Heap} {w : World} (h : Sim g H w) {cs : List PV} {C : Array Value} (ty : TypeId) (hr : RelL g w cs (C.toList.take cs.length)) :
    Sim (g.fast w.heap.size 0 cs.length C.size) (H ++ [.tok]) (w.alloc (.cells C ty)) ∧ Ext g H w (g.fast w.heap.size 0 cs.length C.size) (H ++ [.tok]) (w.alloc (.cells C ty)) ∧
      ImmRow (g.fast w.heap.size 0 cs.length C.size) (w.alloc (.cells C ty)) ⟨w.heap.size, 0, none⟩ cs := by
  have hgx : Gext g w (g.fast w.heap.size 0 cs.length C.size) (w.alloc (.cells C ty)) :=
    ⟨by simp [Gh.fast], fun o ho => by simp [Gh.fast]; omega, fun o ho => by simp [Gh.fast]; omega, fun o ho => by simp [Gh.fast]; omega, fun _ _ h => .inl h, fun b q hq => alloc_cell_old w _ b q (h.imm b q hq)⟩
  have hold : ∀ o ob b, H[o]? = some ob → ob.alive = true → blk g ob o b → b < w.heap.size := fun o ob b h1 h2 h3 => own_lt h ⟨o, ob, h1, h2, h3⟩
  have hbk : ∀ o, o < H.length → (g.fast w.heap.size 0 cs.length C.size).bk o = g.bk o := fun o ho => hgx.bk o (by rw [h.n]; exact ho)
  have hbn : (g.fast w.heap.size 0 cs.length C.size).bk H.length = w.heap.size := by simp [Gh.fast, h.n]
  have hen : (g.fast w.heap.size 0 cs.length C.size).en H.length = cs.length := by simp [Gh.fast, h.n]
  have hszn : (g.fast w.heap.size 0 cs.length C.size).sz H.length = C.size := by simp [Gh.fast, h.n]
  have hblk : ∀ o ob b, o < H.length → (blk (g.fast w.heap.size 0 cs.length C.size) ob o b ↔ blk g ob o b) := fun o ob b ho => blk_of (hbk o ho) (fun _ => Iff.rfl) ob b
  refine ⟨⟨by simp [Gh.fast, h.n], ?_, ?_, ?_, ?_, ?_⟩, ⟨hgx, by simp, ?_, ?_, rfl, rfl, rfl, fun _ _ hb h => h.imp id fun k => absurd hb (by rw [k.1]; exact Nat.lt_irrefl _)⟩, rfl, ?_⟩
  · intro o o' ob ob' b h1 h2 h3 h4 h5 h6
    rcases getElem?_snoc _ _ _ _ h1 with ⟨h1, ho⟩ | ⟨rfl, rfl⟩ <;> rcases getElem?_snoc _ _ _ _ h2 with ⟨h2, ho'⟩ | ⟨rfl, rfl⟩
    · exact h.inj o o' ob ob' b h1 h2 h3 h4 ((hblk _ _ _ ho).1 h5) ((hblk _ _ _ ho').1 h6)
    · have h6 : _ = b := h6
      rw [hbn] at h6; have := hold o ob b h1 h3 ((hblk _ _ _ ho).1 h5); omega
    · have h5 : _ = b := h5
      rw [hbn] at h5; have := hold o' ob' b h2 h4 ((hblk _ _ _ ho').1 h6); omega
    · rfl
  · intro o cs' h1
    rcases getElem?_snoc _ _ _ _ h1 with ⟨h1, ho⟩ | ⟨rfl, e⟩
    · obtain ⟨⟨C', ty', h2, h3⟩, h4⟩ := h.cells o cs' h1
      have hlt := hold o _ _ h1 rfl rfl
      rw [hbk o ho]
      refine ⟨⟨C', ty', ?_, h3.mono hgx⟩, ?_⟩
      · rw [alloc_get, if_neg (Nat.ne_of_lt hlt)]; exact h2
      · rintro q (hq | ⟨hq, _⟩)
        · exact h4 q hq
        · exact absurd hq (Nat.ne_of_lt hlt)
    · cases e
  · intro o h1
    rcases getElem?_snoc _ _ _ _ h1 with ⟨h1, ho⟩ | ⟨rfl, e⟩
    · obtain ⟨⟨C', ty', h2, h2'⟩, h4⟩ := h.tok o h1
      have hlt := hold o _ _ h1 rfl rfl
      rw [hbk o ho, hgx.en o (by rw [h.n]; exact ho), hgx.sz o (by rw [h.n]; exact ho)]
      refine ⟨⟨C', ty', ?_, h2'⟩, ?_⟩
      · rw [alloc_get, if_neg (Nat.ne_of_lt hlt)]; exact h2
      · rintro q hq (hi | ⟨hi, _⟩)
        · exact h4 q hq hi
        · exact absurd hi (Nat.ne_of_lt hlt)
    · rw [hbn, hen, hszn]
      refine ⟨⟨C, ty, by rw [alloc_get, if_pos rfl], rfl⟩, ?_⟩
      rintro q hq (hi | ⟨_, _, hi⟩)
      · exact Nat.lt_irrefl _ (h.imm _ _ hi)
      · omega
  · rintro b q (hq | ⟨rfl, _⟩)
    · have := h.imm b q hq; simp; omega
    · simp
  · intro o r h1
    rcases getElem?_snoc _ _ _ _ h1 with ⟨h1, ho⟩ | ⟨rfl, e⟩
    · have h2 := (h.abs o r h1).2.2
      refine h.absKeep h1 hgx (hbk o ho) (fun _ => Iff.rfl) (fun b hb => by rw [alloc_get, if_neg (Nat.ne_of_lt (h2 b hb).1)]) ?_ (by simp) ?_
      · rintro b q hb (hq | ⟨rfl, _⟩)
        · exact (h2 b hb).2 q hq
        · exact Nat.lt_irrefl _ (h2 _ hb).1
      · rintro b q (hq | ⟨rfl, _⟩)
        · have := h.imm b q hq; simp; omega
        · simp
    · cases e
  · rintro b hb ⟨o, ob, h1, h2, h3⟩
    rcases getElem?_snoc _ _ _ _ h1 with ⟨h1, ho⟩ | ⟨rfl, rfl⟩
    · exact ⟨o, ob, h1, h2, (hblk _ _ _ ho).1 h3⟩
    · have h3 : _ = b := h3
      rw [hbn] at h3; omega
  · intro b hb _
    rw [alloc_get, if_neg (by omega)]
  · intro q x hx
    have hq : q < cs.length := (List.getElem?_eq_some_iff.1 hx).1
    obtain ⟨v, hv, hrel⟩ := hr.get hx
    rw [List.getElem?_take, if_pos hq, Array.getElem?_toList] at hv
    refine ⟨.inr ⟨rfl, Nat.zero_le _, by simpa using hq⟩, v, ?_, hrel.mono hgx⟩
    simp only [At, Nat.zero_add]
    rw [World.cell?_alloc_new]; exact hv

/-- an object is let go, its cells as they are, seen by nobody -/
theorem Sim.kill {g : Gh} {H : Heap} {w : World} (h : Sim g H w) (o : Nat) : Sim g (H.set o .dead) w ∧ Ext g H w g (H.set o .dead) w := by
  have hset : ∀ (o' : Nat) (ob : Ob), (H.set o .dead)[o']? = some ob → ob.alive = true → H[o']? = some ob := by
    intro o' ob h1 h2
    rw [List.getElem?_set] at h1
    (repeat' split at h1) <;> first | exact h1 | (cases h1; cases h2; done) | (cases h1; done)
  refine ⟨⟨by simp; exact h.n, ?_, fun o1 cs1 h1 => h.cells o1 cs1 (hset _ _ h1 rfl), fun o1 h1 => h.tok o1 (hset _ _ h1 rfl), h.imm, fun o1 r h1 => h.abs o1 r (hset _ _ h1 rfl)⟩,
    ⟨.refl g w, Nat.le_refl _, ?_, fun _ _ _ => rfl, rfl, rfl, rfl, fun _ _ _ h => .inl h⟩⟩
  · intro o1 o2 ob1 ob2 b h1 h2 h3 h4 h5 h6
    exact h.inj o1 o2 ob1 ob2 b (hset _ _ h1 h3) (hset _ _ h2 h4) h3 h4 h5 h6
  · rintro b _ ⟨o1, ob1, h1, h2, h3⟩
    exact ⟨o1, ob1, hset _ _ h1 h2, h2, h3⟩

/-- cells are written into the spare room behind a list -/
theorem Sim.useTok {g : Gh} {H : Heap} {w : World} (h : Sim g H w) {o : Nat} (ho : H[o]? = some .tok) {C : Array Value} {ty : TypeId} (hC : w.heap[g.bk o]? = some (.cells C ty (0, 0)))
    {ys : List PV} {vs : List Value} (hr : RelL g w ys vs) (hn : g.en o + vs.length ≤ C.size) :
    let w' := wput w (g.bk o) (.cells (over C.toList (g.en o) vs).toArray ty (0, 0))
    let g' := g.fast (g.bk o) (g.en o) (g.en o + ys.length) C.size
    Sim g' (H.set o .dead ++ [.tok]) w' ∧ Ext g H w g' (H.set o .dead ++ [.tok]) w' ∧ ImmRow g' w' ⟨g.bk o, g.en o, none⟩ ys := by
  intro w' g'
  have hlt : g.bk o < w.heap.size := own_lt h ⟨o, _, ho, rfl, rfl⟩
  have hol : o < H.length := (List.getElem?_eq_some_iff.1 ho).1
  obtain ⟨_, himm⟩ := h.tok o ho
  have hbl : w'.heap[g.bk o]? = some (.cells (over C.toList (g.en o) vs).toArray ty (0, 0)) := by
    show (wput w _ _).heap[g.bk o]? = _
    rw [wput_get, if_pos rfl, if_pos hlt]
  have hcell : ∀ b q, g.imm b q → w'.cell? ⟨b, q, none⟩ = w.cell? ⟨b, q, none⟩ := by
    intro b q hq
    by_cases hb : g.bk o = b
    · subst hb
      have hqe : q < g.en o := by
        rcases Nat.lt_or_ge q (g.en o) with h | h
        · exact h
        · exact absurd hq (himm q h)
      rw [cell_of_block hbl, cell_of_block hC]
      simp only [List.getElem?_toArray, over, List.append_assoc]
      rw [List.getElem?_append_left (by simp; omega), List.getElem?_take, if_pos hqe, Array.getElem?_toList]
    · exact cell_put_ne w _ b q _ hb
  have hgx : Gext g w g' w' :=
    ⟨by simp [g', Gh.fast], fun o ho => by simp [g', Gh.fast]; omega, fun o ho => by simp [g', Gh.fast]; omega, fun o ho => by simp [g', Gh.fast]; omega, fun _ _ h => .inl h, hcell⟩
  have hset : ∀ (o' : Nat) (ob : Ob), (H.set o .dead)[o']? = some ob → ob.alive = true → H[o']? = some ob ∧ o ≠ o' := by
    intro o' ob h1 h2
    rw [List.getElem?_set] at h1
    by_cases e : o = o'
    · rw [if_pos e] at h1
      (repeat' split at h1) <;> (cases h1; cases h2)
    · rw [if_neg e] at h1; exact ⟨h1, e⟩
  have hlen : (H.set o .dead).length = H.length := by simp
  have hbk : ∀ k, k < H.length → g'.bk k = g.bk k := fun k hk => hgx.bk k (by rw [h.n]; exact hk)
  have hbn : g'.bk H.length = g.bk o := by simp [g', Gh.fast, h.n]
  have hen : g'.en H.length = g.en o + ys.length := by simp [g', Gh.fast, h.n]
  have hszn : g'.sz H.length = C.size := by simp [g', Gh.fast, h.n]
  have hne : ∀ o1 ob1, H[o1]? = some ob1 → ob1.alive = true → o ≠ o1 → ¬ blk g ob1 o1 (g.bk o) := fun o1 ob1 h1 h2 h3 h4 => h3 (h.inj o o1 _ ob1 _ ho h1 rfl h2 rfl h4)
  have hblk : ∀ o ob b, o < H.length → (blk g' ob o b ↔ blk g ob o b) := fun o ob b ho => blk_of (hbk o ho) (fun _ => Iff.rfl) ob b
  refine ⟨⟨by simp [g', Gh.fast, h.n], ?_, ?_, ?_, ?_, ?_⟩, ⟨hgx, by simp [w', wput_size], ?_, ?_, rfl, rfl, rfl, fun _ _ _ h => h.imp id fun k => ⟨o, _, ho, rfl, k.1.symm⟩⟩, rfl, ?_⟩
  · intro o1 o2 ob1 ob2 b h1 h2 h3 h4 h5 h6
    rcases getElem?_snoc _ _ _ _ h1 with ⟨h1, ho1⟩ | ⟨rfl, rfl⟩ <;> rcases getElem?_snoc _ _ _ _ h2 with ⟨h2, ho2⟩ | ⟨rfl, rfl⟩
    · rw [hlen] at ho1 ho2
      exact h.inj o1 o2 ob1 ob2 b (hset _ _ h1 h3).1 (hset _ _ h2 h4).1 h3 h4 ((hblk _ _ _ ho1).1 h5) ((hblk _ _ _ ho2).1 h6)
    · rw [hlen] at ho1 h6
      have h6 : _ = b := h6
      rw [hbn] at h6
      have h5 := (hblk _ _ _ ho1).1 h5
      rw [← h6] at h5
      exact absurd h5 (hne o1 ob1 (hset _ _ h1 h3).1 h3 (hset _ _ h1 h3).2)
    · rw [hlen] at ho2 h5
      have h5 : _ = b := h5
      rw [hbn] at h5
      have h6 := (hblk _ _ _ ho2).1 h6
      rw [← h5] at h6
      exact absurd h6 (hne o2 ob2 (hset _ _ h2 h4).1 h4 (hset _ _ h2 h4).2)
    · rfl
  · intro o1 cs1 h1
    rcases getElem?_snoc _ _ _ _ h1 with ⟨h1, ho1⟩ | ⟨rfl, e⟩
    · obtain ⟨h1, hno⟩ := hset _ _ h1 rfl
      rw [hlen] at ho1
      obtain ⟨⟨C1, ty1, h2, h3⟩, h4⟩ := h.cells o1 cs1 h1
      rw [hbk o1 ho1]
      refine ⟨⟨C1, ty1, ?_, h3.mono hgx⟩, ?_⟩
      · show (wput w _ _).heap[_]? = _
        rw [wput_get, if_neg (fun e => hne o1 _ h1 rfl hno e.symm)]; exact h2
      · rintro q (hq | ⟨hq, _⟩)
        · exact h4 q hq
        · exact absurd hq (hne o1 _ h1 rfl hno)
    · cases e
  · intro o1 h1
    rcases getElem?_snoc _ _ _ _ h1 with ⟨h1, ho1⟩ | ⟨rfl, e⟩
    · obtain ⟨h1, hno⟩ := hset _ _ h1 rfl
      rw [hlen] at ho1
      obtain ⟨⟨C1, ty1, h2, h2'⟩, h4⟩ := h.tok o1 h1
      rw [hbk o1 ho1, hgx.en o1 (by rw [h.n]; exact ho1), hgx.sz o1 (by rw [h.n]; exact ho1)]
      refine ⟨⟨C1, ty1, ?_, h2'⟩, ?_⟩
      · show (wput w _ _).heap[_]? = _
        rw [wput_get, if_neg (fun e => hne o1 _ h1 rfl hno e.symm)]; exact h2
      · rintro q hq (hi | ⟨hi, _⟩)
        · exact h4 q hq hi
        · exact absurd hi (hne o1 _ h1 rfl hno)
    · rw [hlen, hbn, hen, hszn]
      refine ⟨⟨_, _, hbl, by simp only [List.size_toArray]; rw [over_length (by simpa using hn)]; simp⟩, ?_⟩
      rintro q hq (hi | ⟨_, _, hi⟩)
      · exact himm q (by omega) hi
      · omega
  · rintro b q (hq | ⟨rfl, _⟩)
    · show b < (wput w _ _).heap.size
      rw [wput_size]; exact h.imm b q hq
    · show g.bk o < (wput w _ _).heap.size
      rw [wput_size]; exact hlt
  · intro o1 r h1
    rcases getElem?_snoc _ _ _ _ h1 with ⟨h1, ho1⟩ | ⟨rfl, e⟩
    · obtain ⟨h1, hno⟩ := hset _ _ h1 rfl
      rw [hlen] at ho1
      have h2 := (h.abs o1 r h1).2.2
      refine h.absKeep h1 hgx (hbk o1 ho1) (fun _ => Iff.rfl) (fun b hb => ?_) ?_ (by simp [w', wput_size]) ?_
      · show (wput w _ _).heap[_]? = _
        rw [wput_get, if_neg (fun e => hne o1 _ h1 rfl hno (by rw [e]; exact hb))]
      · rintro b q hb (hq | ⟨rfl, _⟩)
        · exact (h2 b hb).2 q hq
        · exact hne o1 _ h1 rfl hno hb
      · rintro b q (hq | ⟨rfl, _⟩)
        · show b < (wput w _ _).heap.size
          rw [wput_size]; exact h.imm b q hq
        · show g.bk o < (wput w _ _).heap.size
          rw [wput_size]; exact hlt
    · cases e
  · rintro b hb ⟨o1, ob1, h1, h2, h3⟩
    rcases getElem?_snoc _ _ _ _ h1 with ⟨h1, ho1⟩ | ⟨rfl, rfl⟩
    · rw [hlen] at ho1
      exact ⟨o1, ob1, (hset _ _ h1 h2).1, h2, (hblk _ _ _ ho1).1 h3⟩
    · have h3 : _ = b := h3
      rw [hlen, hbn] at h3
      exact ⟨o, _, ho, rfl, h3⟩
  · intro b _ hb
    show (wput w _ _).heap[b]? = _
    rw [wput_get, if_neg]
    intro e; exact hb ⟨o, _, ho, rfl, e⟩
  · intro q x hx
    have hq : q < ys.length := (List.getElem?_eq_some_iff.1 hx).1
    obtain ⟨v, hv, hrel⟩ := hr.get hx
    refine ⟨.inr ⟨rfl, by simp, by simpa using hq⟩, v, ?_, hrel.mono hgx⟩
    simp only [At]
    rw [cell_of_block hbl]
    have hvl : q < vs.length := by rw [← hr.1]; exact hq
    simp only [List.getElem?_toArray, over, List.append_assoc]
    rw [List.getElem?_append_right (by simp; omega)]
    have : g.en o + q - (List.take (g.en o) C.toList).length = q := by simp; omega
    rw [this, List.getElem?_append_left hvl]; exact hv

end Go.AM

/-! AM, part 9: append, copy, clear, make as operations. -/
namespace Go.AM
open Go

/-- what is appended or copied: its elements' cells, how many elements -/
def srcA (H : Heap) (sz : Nat) : PV → Option (List PV × Nat)
  | .list ys _ => some (ys.flatten, ys.length)
  | .arr o off len _ => match H[o]? with
    | some (.cells cs) => if off + len * sz ≤ cs.length then some ((cs.drop off).take (len * sz), len) else none
    | _ => none
  | _ => none

/-- a source as the machine has it -/
structure Src (P : Program) (g : Gh) (w : World) (v : Value) (sz n : Nat) (ys : List PV) (vs : List Value) : Prop where
  len : (Builtin.lenOf v).run P w = .ok n w
  cells : ∀ m, m ≤ n → ∀ w' : World, w'.heap = w.heap → (Builtin.firstCells sz m v).run P w' = .ok (vs.take (m * sz)).toArray w'
  rel : RelL g w ys vs
  size : ys.length = n * sz

theorem cell_heap {w w' : World} (h : w'.heap = w.heap) (a : Addr) : w'.cell? a = w.cell? a := by
  unfold World.cell?; rw [h]

theorem src_row {P : Program} {g : Gh} {w : World} {A : Addr} {cs : List PV} (h : RowAt g w A cs) {n sz cap : Nat} (hn : cs.length = n * sz) :
    ∃ vs, Src P g w (.slice (some A) n cap) sz n cs vs := by
  obtain ⟨vs, h1, h2, h3⟩ := h.vals cs.length (Nat.le_refl _)
  rw [List.take_length] at h2
  refine ⟨vs, rfl, fun m hm w' hw => ?_, h2, hn⟩
  simp only [Builtin.firstCells]
  have hl : (vs.take (m * sz)).length = m * sz := by
    rw [List.length_take, h1, hn]; exact Nat.min_eq_left (Nat.mul_le_mul_right _ hm)
  have := run_loadCells P w' A h.1 (vs.take (m * sz)) (fun q v hv => by
    rw [List.getElem?_take] at hv
    split at hv
    · rw [cell_heap hw]; exact h3 q v hv
    · cases hv)
  rwa [hl] at this

theorem src_spec {P : Program} {g : Gh} {H : Heap} {w : World} (h : Sim g H w) {x : PV} {v : Value} (hx : Rel g w x v) {sz n : Nat} {ys : List PV} (hs : srcA H sz x = some (ys, n)) (hu : ys.length = n * sz) :
    ∃ vs, Src P g w v sz n ys vs := by
  cases hx <;> simp only [srcA, reduceCtorEq, Option.some.injEq, Prod.mk.injEq] at hs
  · rename_i es t a cap cv h1 h2 h3 h4 h5
    obtain ⟨rfl, rfl⟩ := hs
    obtain ⟨a', cap', e, _, _, _, hc⟩ := Rel.list_iff.1 (Rel.list es t a cap cv h1 h2 h3 h4 h5)
    cases e
    rcases hc with hf | ⟨A, rfl, hr⟩
    · refine ⟨[], rfl, fun m hm w' hw => ?_, by rw [hf]; exact .nil, hu⟩
      rw [hf] at hu
      simp only [List.length_nil] at hu
      have hm0 : m * sz = 0 := by
        rcases Nat.mul_eq_zero.1 hu.symm with h0 | h0
        · have : m = 0 := by omega
          rw [this, Nat.zero_mul]
        · rw [h0, Nat.mul_zero]
      cases a with
      | none => simp [Builtin.firstCells]
      | some A =>
        simp only [Builtin.firstCells, hm0]
        simp [loadCells, loadCellsFrom]
    · exact src_row hr.row hu
  · rename_i o off len cap ho
    split at hs
    · rename_i cs hcs
      split at hs
      · rename_i hfit
        simp only [Option.some.injEq, Prod.mk.injEq] at hs
        obtain ⟨rfl, rfl⟩ := hs
        have hr := h.rowAt hcs off
        have hr' : RowAt g w ⟨g.bk o, off, none⟩ ((cs.drop off).take (len * sz)) := ⟨rfl, fun q x hq => hr.2 q x (by
          rw [List.getElem?_take] at hq
          split at hq
          · exact hq
          · cases hq)⟩
        exact src_row hr' hu
      · cases hs
    · cases hs

/-- the type facts of an append -/
structure AppT (P : Program) (ts : Array TypeId) (t e : TypeId) (i : TypeInfo) (z : Value) : Prop where
  t0 : ts[0]? = some t
  t1 : ∃ u d, ts[1]? = some u ∧ P.underlying u = some (.slice d)
  ht : P.underlying t = some (.slice e)
  hi : P.info? e = some i
  hz : i.zero = some z
  hb : i.bytes ≠ 0

theorem run_append_fit {P : Program} {g : Gh} {w : World} {ts : Array TypeId} {t e : TypeId} {i : TypeInfo} {z : Value} (h : AppT P ts t e i z) {base : Option Addr} {sLen sCap n : Nat} {x : Value} {ys : List PV} {vs : List Value}
    (hs : Src P g w x i.size n ys vs) (hfit : sLen + n ≤ sCap) (ty : TypeId) :
    (Builtin.append_ ts ty #[.slice base sLen sCap, x]).run P w =
      (match base with
        | some a => (storeCells (a.add (sLen * i.size)) vs).run P w
        | none => .ok () w).andThen fun _ w' => .ok (.slice base (sLen + n) sCap) w' := by
  have hv : vs.take (n * i.size) = vs := List.take_of_length_le (by have := hs.rel.1; have := hs.size; omega)
  have hc := hs.cells n (Nat.le_refl _) w rfl
  rw [hv] at hc
  obtain ⟨u, d, h1, h2⟩ := h.t1
  cases base with
  | none => simp [Builtin.append_, h.t0, h1, run_under h.ht, run_under h2, sizeOf, run_info h.hi, hs.len, hfit, hc]
  | some a => simp [Builtin.append_, h.t0, h1, run_under h.ht, run_under h2, sizeOf, run_info h.hi, hs.len, hfit, hc]

theorem run_append_grow' {P : Program} {g : Gh} {w : World} {ts : Array TypeId} {t e : TypeId} {i : TypeInfo} {z : Value} (h : AppT P ts t e i z) {base : Option Addr} {sLen sCap n : Nat} {x : Value} {xs ys : List PV} {us vs : List Value}
    (ho : Src P g w (.slice base sLen sCap) i.size sLen xs us) (hs : Src P g w x i.size n ys vs) (hfit : ¬ sLen + n ≤ sCap) (hb : (sLen + n) * i.bytes ≤ 140737488355328) (ty : TypeId) :
    (Builtin.append_ ts ty #[.slice base sLen sCap, x]).run P w =
      .ok (.slice (some ⟨w.heap.size, 0, none⟩) (sLen + n) (grownCap w (sLen + n) sCap e))
        (w.drew.alloc (.cells (us.toArray ++ vs.toArray ++ Builtin.zeroCells z.cells (grownCap w (sLen + n) sCap e - (sLen + n))) e)) := by
  have hv : vs.take (n * i.size) = vs := List.take_of_length_le (by have := hs.rel.1; have := hs.size; omega)
  have huu : us.take (sLen * i.size) = us := List.take_of_length_le (by have := ho.rel.1; have := ho.size; omega)
  have hc := hs.cells n (Nat.le_refl _) w.drew rfl
  have hc' := ho.cells sLen (Nat.le_refl _) w.drew rfl
  rw [hv] at hc
  rw [huu] at hc'
  obtain ⟨u, d, h1, h2⟩ := h.t1
  have h48 : ¬ (281474976710656 < Builtin.nextslicecap (sLen + n) sCap * i.bytes) := by
    have := growslice_fits (need := sLen + n) (old := sCap) (bytes := i.bytes) (by omega) hb
    omega
  have hzv : ∀ w : World, (zeroValue e).run P w = .ok z w := by
    intro w
    unfold zeroValue
    rw [Sem.run_bind, run_info h.hi]
    simp [h.hz]
  simp [Builtin.append_, h.t0, h1, run_under h.ht, run_under h2, sizeOf, run_info h.hi, hs.len, hfit, h.hb, h48, run_choose, Question.forced, hc, hc', hzv, newRow, grownCap]
  congr 2
  apply Array.ext'
  simp [List.append_assoc]

theorem appT_of {P : Program} {ts : Array TypeId} {t u e : TypeId} {b : Bool} {sz by_ : Nat} {z : List PV} (h0 : ts[0]? = some t) (h1 : ts[1]? = some u) (hu : ∃ d, P.underlying u = some (.slice d)) (hel : elA P t = some (none, b, sz, by_, e))
    (hz : zeroA P e = some z) (hb : by_ ≠ 0) : ∃ i zv, AppT P ts t e i zv ∧ i.size = sz ∧ i.bytes = by_ ∧ ∀ g w, RelL g w z zv.cells.toList := by
  obtain ⟨hut, ht, i, hi, rfl⟩ := elA_slice hel
  obtain ⟨d, i', _, hi', hsz, _⟩ := tyA_spec ht
  rw [hi] at hi'; cases hi'
  unfold zeroA at hz
  rw [hi] at hz
  cases hzz : i.zero with
  | none => simp [hzz] at hz
  | some zv =>
    simp [hzz] at hz
    obtain ⟨du, hdu⟩ := hu
    exact ⟨i, zv, ⟨h0, ⟨u, _, h1, hdu⟩, hut, hi, hzz, hb⟩, hsz, rfl, fun g w => by rw [← hz]; exact relL_pv1 g w _⟩

/-- the type facts of an append, as they are reckoned -/
def appA (P : Program) (ts : Array TypeId) : Option (Nat × Nat × List PV) :=
  match ts[0]?, ts[1]? with
  | some t, some u => match elA P t, P.underlying u with
    | some (none, _, sz, by_, e), some (.slice _) => match zeroA P e with
      | some z => if by_ = 0 ∨ sz = 0 ∨ z.length ≠ sz then none else some (sz, by_, z)
      | none => none
    | _, _ => none
  | _, _ => none

theorem appA_spec {P : Program} {ts : Array TypeId} {sz by_ : Nat} {z : List PV} (h : appA P ts = some (sz, by_, z)) :
    ∃ t e i zv, AppT P ts t e i zv ∧ i.size = sz ∧ i.bytes = by_ ∧ (∀ g w, RelL g w z zv.cells.toList) ∧ sz ≠ 0 ∧ by_ ≠ 0 ∧ z.length = sz := by
  unfold appA at h
  split at h
  · rename_i t u h0 h1
    split at h
    · rename_i b sz' by' e d hel hu
      split at h
      · rename_i z' hz
        split at h
        · cases h
        · rename_i hc
          simp only [Option.some.injEq, Prod.mk.injEq] at h
          obtain ⟨rfl, rfl, rfl⟩ := h
          have c1 : by' ≠ 0 := fun e => hc (.inl e)
          have c2 : sz' ≠ 0 := fun e => hc (.inr (.inl e))
          have c3 : z'.length = sz' := by
            rcases Decidable.em (z'.length = sz') with e | e
            · exact e
            · exact absurd (.inr (.inr e)) hc
          obtain ⟨i, zv, k1, k2, k3, k4⟩ := appT_of h0 h1 ⟨d, hu⟩ hel hz c1
          exact ⟨t, e, i, zv, k1, k2, k3, k4, c2, c1, c3⟩
      · cases h
    · cases h
  · cases h

/-- a list's own cells, as a source -/
theorem src_self {P : Program} {g : Gh} {H : Heap} {w : World} (h : Sim g H w) {es : List (List PV)} {t : Tail} {v : Value} (hx : Rel g w (.list es t) v) {sz : Nat} (hu : uni sz es) :
    ∃ vs, Src P g w v sz es.length es.flatten vs := src_spec h hx rfl (uni_flat hu)

theorem any_rel (g : Gh) (w : World) (vs : List Value) : RelL g w (List.replicate vs.length .any) vs :=
  ⟨by simp, fun q x v h1 h2 => by
    have : x = .any := by
      have hm := List.mem_of_getElem? h1
      exact List.eq_of_mem_replicate hm
    subst this; exact .any v⟩

theorem take_two (us vs : List Value) (Z : Array Value) (n : Nat) (hn : n = us.length + vs.length) : (us.toArray ++ vs.toArray ++ Z).toList.take n = us ++ vs := by
  have : (us.toArray ++ vs.toArray ++ Z).toList = (us ++ vs) ++ Z.toList := by simp
  rw [this, List.take_left' (by simp [hn])]

/-- append, where the list is full: a new block; its spare room is never used -/
theorem vok_append_full {P : Program} {g : Gh} {H : Heap} {w : World} {K : PV → Heap → Prop} (h : Sim g H w) {ts : Array TypeId} {sz by_ : Nat} {z : List PV} (ha : appA P ts = some (sz, by_, z)) (ty : TypeId)
    {es ys : List (List PV)} {y : PV} {v u : Value} (hx : Rel g w (.list es .exact) v) (hy : Rel g w y u) (hs : srcA H sz y = some (ys.flatten, ys.length)) (hue : uni sz es) (huy : uni sz ys)
    (hb : (es.length + ys.length) * by_ ≤ 140737488355328) (hk : K (.list (es ++ ys) .no) H) : VOk P (Builtin.append_ ts ty #[v, u]) g H w K := by
  obtain ⟨t, e, i, zv, hT, rfl, rfl, hzl, hs0, hb0, hzs⟩ := appA_spec ha
  obtain ⟨a, cap, hv, _, _, htl, hc⟩ := Rel.list_iff.1 hx
  subst hv
  obtain ⟨us, ho⟩ := src_self (P := P) h hx hue
  obtain ⟨vs, hS⟩ := src_spec (P := P) h hy hs (uni_flat huy)
  have hcap : cap = es.length := htl
  subst hcap
  have hu' : uni i.size (es ++ ys) := by
    intro e he
    rcases List.mem_append.1 he with he | he
    · exact hue e he
    · exact huy e he
  by_cases h0 : ys.length = 0
  · -- nothing is appended
    have hy0 : ys = [] := List.length_eq_zero_iff.1 h0
    subst hy0
    have hvs : vs = [] := by have := hS.rel.1; simp at this; exact List.length_eq_zero_iff.1 this.symm
    subst hvs
    refine VOk.same h (v := .slice a es.length es.length) ?_ ?_ hk
    · rw [run_append_fit hT hS (by simp) ty]
      cases a with
      | none => simp
      | some A => simp [storeCells]
    · rw [List.append_nil]
      exact Rel.list_iff.2 ⟨a, _, rfl, uni_eq hue, Nat.le_refl _, trivial, hc⟩
  · have hfl : (es ++ ys).flatten.length = us.length + vs.length := by
      rw [List.flatten_append, List.length_append, ho.rel.1, hS.rel.1]
    have hcells : RelL g w.drew (es ++ ys).flatten ((us.toArray ++ vs.toArray ++ Builtin.zeroCells zv.cells (grownCap w (es.length + ys.length) es.length e - (es.length + ys.length))).toList.take (es ++ ys).flatten.length) := by
      rw [take_two _ _ _ _ hfl, List.flatten_append]
      exact (ho.rel.append hS.rel).mono (Gext.drew g w)
    obtain ⟨k1, k2, k3⟩ := h.drew.newRowK e hcells
    refine ⟨.slice (some ⟨w.heap.size, 0, none⟩) (es.length + ys.length) (grownCap w (es.length + ys.length) es.length e), _, _, H, _, run_append_grow' hT ho hS (by omega) hb ty, k1, (Ext.drew g H w).trans k2, ?_, hk⟩
    refine Rel.list_iff.2 ⟨some ⟨w.heap.size, 0, none⟩, grownCap w (es.length + ys.length) es.length e, by rw [List.length_append], uni_eq hu', ?_, trivial, .inr ⟨_, rfl, k3⟩⟩
    rw [List.length_append]; exact grownCap_ge _ _ _ _

/-- append of nothing: what is there, as it stands -/
theorem vok_append_none {P : Program} {g : Gh} {H : Heap} {w : World} {K : PV → Heap → Prop} (h : Sim g H w) {ts : Array TypeId} {sz by_ : Nat} {z : List PV} (ha : appA P ts = some (sz, by_, z)) (ty : TypeId)
    {es : List (List PV)} {tl tly : Tail} {v u : Value} (hx : Rel g w (.list es tl) v) (hy : Rel g w (.list [] tly) u) (hue : uni sz es) (hk : K (.list es tl) H) : VOk P (Builtin.append_ ts ty #[v, u]) g H w K := by
  obtain ⟨t, e, i, zv, hT, rfl, rfl, hzl, hs0, hb0, hzs⟩ := appA_spec ha
  obtain ⟨a, cap, hv, h1, h2, htl, hc⟩ := Rel.list_iff.1 hx
  subst hv
  obtain ⟨vs, hS⟩ := src_spec (P := P) (sz := i.size) (ys := []) (n := 0) h hy rfl (by simp)
  have hvs : vs = [] := by have := hS.rel.1; simp at this; exact List.length_eq_zero_iff.1 this.symm
  subst hvs
  refine VOk.same h (v := .slice a es.length cap) ?_ (Rel.list_iff.2 ⟨a, cap, rfl, h1, h2, htl, hc⟩) hk
  rw [run_append_fit hT hS (by simpa using h2) ty]
  cases a with
  | none => simp
  | some A => simp [storeCells]

theorem set_snoc_len (H : Heap) (o : Nat) (x : Ob) : (H.set o x).length = H.length := by simp

/-- append behind a list whose spare room is the call's own, or that is full: the spare room behind is the call's own again -/
theorem vok_append_tok {P : Program} {g : Gh} {H : Heap} {w : World} {K : PV → Heap → Prop} (h : Sim g H w) {ts : Array TypeId} {sz by_ : Nat} {z : List PV} (ha : appA P ts = some (sz, by_, z)) (ty : TypeId)
    {es ys : List (List PV)} {tl : Tail} {y : PV} {v u : Value} (hx : Rel g w (.list es tl) v) (hy : Rel g w y u) (hs : srcA H sz y = some (ys.flatten, ys.length)) (hue : uni sz es) (huy : uni sz ys)
    (hy1 : ys.flatten.all PV.one = true) (hne : ys ≠ []) (hb : (es.length + ys.length) * by_ ≤ 140737488355328)
    (htl : match (generalizing := false) tl with | .exact => K (.list (es ++ ys) (.tok H.length)) (H ++ [.tok]) | .tok o => H[o]? = some .tok ∧ K (.list (es ++ ys) (.tok H.length)) (H.set o .dead ++ [.tok]) | .no => False) :
    VOk P (Builtin.append_ ts ty #[v, u]) g H w K := by
  obtain ⟨t, e, i, zv, hT, rfl, rfl, hzl, hs0, hb0, hzs⟩ := appA_spec ha
  obtain ⟨a, cap, hv, _, hlc, htok, hc⟩ := Rel.list_iff.1 hx
  subst hv
  obtain ⟨us, ho⟩ := src_self (P := P) h hx hue
  obtain ⟨vs, hS⟩ := src_spec (P := P) h hy hs (uni_flat huy)
  have hyl : 0 < ys.length := List.length_pos_iff.2 hne
  have hu' : uni i.size (es ++ ys) := by
    intro e he
    rcases List.mem_append.1 he with he | he
    · exact hue e he
    · exact huy e he
  have hfl : (es ++ ys).flatten.length = us.length + vs.length := by
    rw [List.flatten_append, List.length_append, ho.rel.1, hS.rel.1]
  -- the way by a new block
  have grow : ∀ (g1 : Gh) (H1 : Heap), Sim g1 H1 w → Ext g H w g1 H1 w → H1.length = H.length → ¬ es.length + ys.length ≤ cap → K (.list (es ++ ys) (.tok H.length)) (H1 ++ [.tok]) →
      VOk P (Builtin.append_ ts ty #[.slice a es.length cap, u]) g H w K := by
    intro g1 H1 hS1 hE1 hl1 hfit hk
    have hcells : RelL g1 w.drew (es ++ ys).flatten ((us.toArray ++ vs.toArray ++ Builtin.zeroCells zv.cells (grownCap w (es.length + ys.length) cap e - (es.length + ys.length))).toList.take (es ++ ys).flatten.length) := by
      rw [take_two _ _ _ _ hfl, List.flatten_append]
      exact ((ho.rel.append hS.rel).mono hE1.gx).mono (Gext.drew g1 w)
    obtain ⟨k1, k2, k3⟩ := hS1.drew.newTok e hcells
    refine ⟨.slice (some ⟨w.heap.size, 0, none⟩) (es.length + ys.length) (grownCap w (es.length + ys.length) cap e), _, _, _, _, run_append_grow' hT ho hS hfit hb ty, k1, (hE1.trans (Ext.drew g1 H1 w)).trans k2, ?_, hk⟩
    refine Rel.list_iff.2 ⟨some ⟨w.heap.size, 0, none⟩, grownCap w (es.length + ys.length) cap e, by rw [List.length_append], uni_eq hu', ?_, ?_, .inr ⟨_, rfl, k3⟩⟩
    · rw [List.length_append]; exact grownCap_ge _ _ _ _
    · have hn1 : g1.n = H.length := by rw [hS1.n, hl1]
      refine ⟨by simp [Gh.fast, hn1], _, i.size, rfl, rfl, ?_, ?_, ?_, uni_flat hu', ?_⟩
      · simp [Gh.fast, hn1]
      · simp [Gh.fast, hn1]
      · simp; omega
      · have hzc : zv.cells.size = i.size := by have := (hzl g w).1; simp at this; omega
        have h1 := grownCap_ge w (es.length + ys.length) cap e
        have h2 : us.length = es.length * i.size := by rw [← ho.rel.1]; exact ho.size
        have h3 : vs.length = ys.length * i.size := by rw [← hS.rel.1]; exact hS.size
        simp [Gh.fast, hn1, size_zeroCells, hzc, h2, h3]
        rw [← Nat.add_mul, ← Nat.add_mul]
        exact Nat.mul_le_mul_right _ (by omega)
  cases tl with
  | no => exact htl.elim
  | exact =>
    have hcap : cap = es.length := htok
    exact grow g H h (.refl g H w) rfl (by omega) htl
  | tok o =>
    obtain ⟨hot, hk⟩ := htl
    obtain ⟨hog, A, s, rfl, hsp, hblk, hend, hl0, hfs, hroom⟩ := htok
    by_cases hfit : es.length + ys.length ≤ cap
    · have hss : s = i.size := by
        have := uni_flat hue
        rw [this] at hfs
        exact (Nat.eq_of_mul_eq_mul_left hl0 hfs).symm
      subst hss
      obtain ⟨⟨C, ty', hC, hCs⟩, _⟩ := h.tok o hot
      have h3 : vs.length = ys.length * i.size := by rw [← hS.rel.1]; exact hS.size
      have hfe : es.flatten.length = es.length * i.size := uni_flat hue
      have hn : g.en o + vs.length ≤ C.size := by
        rw [← hend, hCs, hfe, h3, Nat.add_assoc, ← Nat.add_mul]
        exact Nat.le_trans (Nat.add_le_add_left (Nat.mul_le_mul_right _ hfit) _) hroom
      obtain ⟨k1, k2, k3⟩ := h.useTok hot hC hS.rel hn
      refine ⟨.slice (some A) (es.length + ys.length) cap, _, _, _, _, ?_, k1, k2, ?_, hk⟩
      · rw [run_append_fit hT hS hfit ty]
        simp only
        have hst := run_storeCells P (b := g.bk o) (ty := ty') vs w C (A.add (es.length * i.size)) 0 (by rw [addr_add hsp]; exact hblk) (by rw [addr_add hsp]; rfl) hC
          (one_of_cells hS.rel hy1) (by rw [addr_add hsp]; simp only [At]; omega)
        rw [hst]
        simp only [Result.andThen_ok]
        rw [addr_add hsp]
        simp only [At, Nat.add_zero]
        rw [← hfe, hend]
      · have hrow : ImmRow (g.fast (g.bk o) (g.en o) (g.en o + ys.flatten.length) C.size) (wput w (g.bk o) (.cells (over C.toList (g.en o) vs).toArray ty' (0, 0))) A es.flatten := by
          rcases hc with hf | ⟨A', e', hr⟩
          · exact ⟨hsp, fun q x hq => by rw [hf] at hq; simp at hq⟩
          · cases e'; exact hr.mono k2.gx
        refine Rel.list_iff.2 ⟨some A, cap, by rw [List.length_append], uni_eq hu', by rw [List.length_append]; exact hfit, ?_, .inr ⟨A, rfl, hsp, ?_⟩⟩
        · refine ⟨by simp [Gh.fast, h.n], A, i.size, rfl, hsp, by simp [Gh.fast, h.n, hblk], ?_, by simp; omega, uni_flat hu', ?_⟩
          · simp [Gh.fast, h.n]
            simp at hend
            omega
          · simp [Gh.fast, h.n, hCs]; exact hroom
        · intro q x hq
          rw [List.flatten_append] at hq
          by_cases hql : q < es.flatten.length
          · rw [List.getElem?_append_left hql] at hq
            exact hrow.2 q x hq
          · rw [List.getElem?_append_right (by omega)] at hq
            obtain ⟨j1, c, j2, j3⟩ := k3.2 _ x hq
            have e1 : g.en o + (q - es.flatten.length) = A.off + q := by omega
            simp only [At] at j1 j2 ⊢
            rw [e1] at j1 j2
            rw [hblk]
            exact ⟨j1, c, j2, j3⟩
    · obtain ⟨k1, k2⟩ := h.kill o
      exact grow g _ k1 k2 (by simp) hfit hk

end Go.AM

