/-
  An abstract machine over values without memory, proved against the model; part 21. A tool for the proofs of this claim; it states nothing of the program.
-/
import Derived.Test.YtmcincfonnfblaaA20
/-! AM, part 21: operations that come out by computing, continued. -/
namespace Go.AM
open Go

def isBoolT (P : Program) (t : TypeId) : Bool := match P.underlying t with | some .bool => true | _ => false
def isPtrT (P : Program) (t : TypeId) : Bool := match P.underlying t with | some (.pointer _) => true | _ => false
def isSlT (P : Program) (t : TypeId) : Bool := match P.underlying t with | some (.slice _) => true | _ => false
theorem isBoolT_of {P : Program} {t : TypeId} (h : isBoolT P t = true) : P.underlying t = some .bool := by
  unfold isBoolT at h; split at h
  · assumption
  · cases h
theorem isPtrT_of {P : Program} {t : TypeId} (h : isPtrT P t = true) : ∃ e, P.underlying t = some (.pointer e) := by
  unfold isPtrT at h; split at h
  · rename_i e he; exact ⟨e, he⟩
  · cases h
theorem isSlT_of {P : Program} {t : TypeId} (h : isSlT P t = true) : ∃ e, P.underlying t = some (.slice e) := by
  unfold isSlT at h; split at h
  · rename_i e he; exact ⟨e, he⟩
  · cases h

/-- structs that '==' looks at cell by cell -/
def eqOkT (P : Program) (t : TypeId) (xs : List PV) : Bool :=
  !P.eqGuardType P.depth t && (flatT P 20 t == some xs.length) && (match tyA P t with | some (true, n) => n == xs.length | _ => false) && fitT P 20 t xs

section
variable (B : Bool → Prop → Prop → Prop)

def intc (op : BinOp) (k : IntKind) (a : Int) (k' : IntKind) (b : Int) (K : PV → Prop) : Prop :=
  match op with
  | .add => B (k == k') (K (.int k (k.wrap (a + b)))) False
  | .sub => B (k == k') (K (.int k (k.wrap (a - b)))) False
  | .mul => B (k == k') (K (.int k (k.wrap (a * b)))) False
  | .quo => B (k == k') (B (b != 0) (K (.int k (k.wrap (a.tdiv b)))) False) False
  | .rem => B (k == k') (B (b != 0) (K (.int k (a.tmod b))) False) False
  | .and => B (k == k') (K (.int k (k.wrap (BitVec.ofInt k.bits a &&& BitVec.ofInt k.bits b).toNat))) False
  | .or => B (k == k') (K (.int k (k.wrap (BitVec.ofInt k.bits a ||| BitVec.ofInt k.bits b).toNat))) False
  | .xor => B (k == k') (K (.int k (k.wrap (BitVec.ofInt k.bits a ^^^ BitVec.ofInt k.bits b).toNat))) False
  | .andNot => B (k == k') (K (.int k (k.wrap (BitVec.ofInt k.bits a &&& ~~~ BitVec.ofInt k.bits b).toNat))) False
  | .shl => B (decide (0 ≤ b)) (K (.int k (k.wrap (a * 2 ^ (min b.toNat k.bits))))) False
  | .shr => B (decide (0 ≤ b)) (K (.int k (a.fdiv (2 ^ (min b.toNat k.bits))))) False
  | .eql => B (k == k') (K (.bool (a == b))) False
  | .neq => B (k == k') (K (.bool (a != b))) False
  | .lss => B (k == k') (K (.bool (decide (a < b)))) False
  | .leq => B (k == k') (K (.bool (decide (a ≤ b)))) False
  | .gtr => B (k == k') (K (.bool (decide (a > b)))) False
  | .geq => B (k == k') (K (.bool (decide (a ≥ b)))) False

def binc (P : Program) (op : BinOp) (t : TypeId) (x y : PV) (K : PV → Prop) : Prop :=
  match x, y with
  | .int k a, .int k' b => intc B op k a k' b K
  | .str a, .str b => match op with
    | .eql => K (.bool (a == b))
    | .neq => K (.bool (a != b))
    | _ => False
  | .bool a, .bool b => B (isBoolT P t) (match op with
    | .eql => K (.bool (a == b))
    | .neq => K (.bool (a != b))
    | _ => False) False
  | .nilptr, .nilptr => B (isPtrT P t) (match op with
    | .eql => K (.bool true)
    | .neq => K (.bool false)
    | _ => False) False
  | .ptr _ _, .nilptr => B (isPtrT P t) (match op with
    | .eql => K (.bool false)
    | .neq => K (.bool true)
    | _ => False) False
  | .iptr _, .nilptr => B (isPtrT P t) (match op with
    | .eql => K (.bool false)
    | .neq => K (.bool true)
    | _ => False) False
  | .agg xs, .agg ys => B (eqOkT P t xs) (match eqCells xs ys with
    | some r => (match op with
      | .eql => K (.bool r)
      | .neq => K (.bool (!r))
      | _ => False)
    | none => False) False
  | _, _ => False

def nilc (P : Program) (op : BinOp) (t : TypeId) (x : PV) (K : PV → Prop) : Prop :=
  B (isSlT P t) (match x with
  | .list es _ => (match op with
    | .eql => ∀ b : Bool, (es.flatten ≠ [] → b = false) → K (.bool b)
    | .neq => ∀ b : Bool, (es.flatten ≠ [] → b = true) → K (.bool b)
    | _ => False)
  | .arr _ _ _ _ => (match op with
    | .eql => K (.bool false)
    | .neq => K (.bool true)
    | _ => False)
  | _ => False) False
end

theorem intc_sound {op : BinOp} {k k' : IntKind} {a b : Int} {K : PV → Prop} (h : intc br op k a k' b K) : intK op k a k' b K := by
  cases op <;> simp only [intc] at h <;> simp only [intK]
  case quo =>
    obtain ⟨h1, h2⟩ := br_false h
    obtain ⟨h2, h3⟩ := br_false h2
    exact ⟨by simpa using h1, by simpa using h2, h3⟩
  case rem =>
    obtain ⟨h1, h2⟩ := br_false h
    obtain ⟨h2, h3⟩ := br_false h2
    exact ⟨by simpa using h1, by simpa using h2, h3⟩
  all_goals
    obtain ⟨h1, h2⟩ := br_false h
    exact ⟨by simpa using h1, h2⟩

theorem binc_sound {P : Program} {op : BinOp} {t : TypeId} {x y : PV} {K : PV → Prop} (h : binc br P op t x y K) : binK P op t x y K := by
  unfold binc at h
  split at h
  · exact intc_sound h
  · exact h
  · obtain ⟨h1, h2⟩ := br_false h; exact ⟨isBoolT_of h1, h2⟩
  · obtain ⟨h1, h2⟩ := br_false h; exact ⟨isPtrT_of h1, h2⟩
  · obtain ⟨h1, h2⟩ := br_false h; exact ⟨isPtrT_of h1, h2⟩
  · obtain ⟨h1, h2⟩ := br_false h; exact ⟨isPtrT_of h1, h2⟩
  · rename_i xs ys
    obtain ⟨h1, h2⟩ := br_false h
    simp only [eqOkT, Bool.and_eq_true, beq_iff_eq, Bool.not_eq_true'] at h1
    obtain ⟨⟨⟨e1, e2⟩, e3⟩, e4⟩ := h1
    refine ⟨e1, e2, ?_, e4, h2⟩
    split at e3
    · rename_i n hn; rw [hn]; simp only [beq_iff_eq] at e3; rw [e3]
    · cases e3
  · exact h.elim

theorem nilc_sound {P : Program} {op : BinOp} {t : TypeId} {x : PV} {K : PV → Prop} (h : nilc br P op t x K) : nilK P op t x K := by
  obtain ⟨h1, h2⟩ := br_false h
  exact ⟨isSlT_of h1, h2⟩

/-- an index into a list: what is asked -/
def InL (es : List (List PV)) (sz : Nat) (n : Int) : Prop := 0 ≤ n ∧ n.toNat < es.length ∧ uni sz es ∧ sz ≠ 0

theorem InL.get {es : List (List PV)} {sz : Nat} {n : Int} (h : InL es sz n) : es[n.toNat]? = some (es.getD n.toNat []) ∧ (es.getD n.toNat []).length = sz := by
  have h1 := List.getElem?_eq_getElem h.2.1
  have h2 : es.getD n.toNat [] = es[n.toNat]'h.2.1 := by rw [List.getD_eq_getElem?_getD, h1]; rfl
  rw [h2]
  exact ⟨h1, h.2.2.1 _ (List.getElem_mem _)⟩

/-- a type's size -/
def szT (P : Program) (t : TypeId) : Nat := match tyA P t with
  | some (_, sz) => sz
  | none => 0

/-- one operation, no call -/
def opc (B : Bool → Prop → Prop → Prop) (P : Program) (op : Op) (m : Nat) (ρ : Operand → PV) (H : Heap) (K : PV → Heap → Prop) : Prop :=
  match op with
  | .move x => K (ρ x) H
  | .assign x => K (ρ x) H
  | .pick c a b => match ρ c with
    | .bool t => B t (K (ρ a) H) (K (ρ b) H)
    | _ => False
  | .alloc t => match zeroA P t with
    | some cs => K (.ptr H.length 0) (H ++ [.cells cs])
    | none => False
  | .box _ x => match (ρ x).cells with
    | some cs => K (.ptr H.length 0) (H ++ [.cells cs])
    | none => False
  | .build t parts => match buildA P t (parts.toList.map fun p => (p.1, ρ p.2)) with
    | some cs => K (.agg cs) H
    | none => False
  | .buildSlice t len parts => match elA P t with
    | some (none, _, sz, _, et) => match zeroA P et with
      | some z => B (z.length == sz && sz != 0 && decide (len * sz ≤ 16777216)) (match esFill sz (List.replicate len z) (parts.toList.map fun p => (p.1, ρ p.2)) with
        | some es => K (.list es .exact) H
        | none => False) False
      | none => False
    | _ => False
  | .load t a => match behind H (ρ a) with
    | some cs => loadc B P t (match m with | 900 => 0 | m => m) cs fun y => match m with
      | 0 => K y H
      | _ => B (hintL m (ρ a) (szT P t)) (K y H) False
    | none => False
  | .store t a x => match ρ a, tyA P t, (ρ x).cells with
    | .ptr o off, some (_, sz), some xs => match H[o]? with
      | some (.cells cs) => B (xs.length == sz && xs.all PV.one && decide (off + sz ≤ cs.length) && hintOk m o off sz) (K (.tup []) (H.set o (.cells (over cs off xs)))) False
      | _ => False
    | _, _, _ => False
  | .nilCheck x => match ρ x with
    | .ptr o off => K (.ptr o off) H
    | .iptr cs => K (.iptr cs) H
    | .fn f caps => K (.fn f caps) H
    | _ => False
  | .binOp op t x y _ => match isNilSlice y with
    | true => nilc B P op t (ρ x) (fun z => K z H)
    | false => binc B P op t (ρ x) (ρ y) (fun z => K z H)
  | .unOp op _ x => match unA op (ρ x) with
    | some y => K y H
    | none => False
  | .convert s d x => match convA P s d (ρ x) with
    | some y => K y H
    | none => False
  | .makeFunc fn first caps => match fn with
    | .func f => match first.toList with
      | [] => K (.fn f (caps.toList.map ρ)) H
      | _ => False
    | _ => False
  | .makeSlice t l c => match elA P t, ρ l, ρ c with
    | some (none, _, sz, by_, et), .int _ l, .int _ c => match zeroA P et with
      | some z => B (z.length == sz && sz != 0) (0 ≤ l ∧ l ≤ c ∧ c ≤ 140737488355328 ∧ c * by_ ≤ 140737488355328 ∧ K (.arr H.length 0 l.toNat c.toNat) (H ++ [.cells (List.replicate c.toNat z).flatten])) False
      | none => False
    | _, _, _ => False
  | .slice t x lo hi mx => match elA P t, ρ x with
    | some (none, _, sz, _, _), .list es tl => match bnd 0 (lo.map ρ), bnd es.length (hi.map ρ), bnd es.length (mx.map ρ) with
      | some l, some h, some m => (0 ≤ l ∧ l ≤ h ∧ h ≤ m ∧ m ≤ es.length ∧ uni sz es) ∧ B (hi.isSome || mx.isNone) (K (.list ((es.take h.toNat).drop l.toNat) (cutTail tl (lo.map ρ) (hi.map ρ) (mx.map ρ) h m)) H) False
      | _, _, _ => False
    | some (none, _, sz, _, _), .arr o off len cap => match bnd 0 (lo.map ρ), bnd len (hi.map ρ), bnd cap (mx.map ρ) with
      | some l, some h, some m => (0 ≤ l ∧ l ≤ h ∧ h ≤ m ∧ m ≤ cap) ∧ B (hi.isSome || mx.isNone) (K (.arr o (if m.toNat = l.toNat then off else off + l.toNat * sz) (h.toNat - l.toNat) (m.toNat - l.toNat)) H) False
      | _, _, _ => False
    | _, _ => False
  | .fieldAddr s x f => match fldA P s f with
    | some (off, _, _) => match shiftP off (ρ x) with
      | some y => K y H
      | none => False
    | none => False
  | .field s x f => match fldA P s f, ρ x with
    | some (off, b, sz), .agg cs => match partA b off sz cs with
      | some y => K y H
      | none => False
    | _, _ => False
  | .indexAddr t x i => match elA P t, ρ i with
    | some (none, _, sz, _, _), .int _ n => match ρ x with
      | .list es _ => InL es sz n ∧ K (.iptr (es.getD n.toNat [])) H
      | .arr o off len _ => (0 ≤ n ∧ n < len) ∧ K (.ptr o (off + n.toNat * sz)) H
      | _ => False
    | some (some m, _, sz, _, _), .int _ n => B (decide (0 ≤ n) && decide (n < m)) (match shiftP (n.toNat * sz) (ρ x) with
      | some y => K y H
      | none => False) False
    | _, _ => False
  | .index t x i => match elA P t, ρ x, ρ i with
    | some (some m, b, sz, _, _), .agg cs, .int _ n => B (decide (0 ≤ n) && decide (n < m)) (match partA b (n.toNat * sz) sz cs with
      | some y => K y H
      | none => False) False
    | _, _, _ => False
  | .extract t i => match ρ t with
    | .tup vs => match vs[i]? with
      | some y => K y H
      | none => False
    | _ => False
  | _ => False

theorem opc_sound {P : Program} {gl : Glob} {op : Op} {m : Nat} {ρ : Operand → PV} {H : Heap} {K : PV → Heap → Prop} (h : opc br P op m ρ H K) : opw P gl op m ρ H K ∧ opwD P gl op m ρ H K := by
  have main : ∀ {op : Op}, opc br P op m ρ H K → opw P gl op m ρ H K := by
    intro op h
    cases op <;> try exact h
    case pick c a b =>
      simp only [opc] at h
      simp only [opw]
      split at h
      · rename_i t ht; rw [ht]; simp only
        cases t
        · exact h
        · exact h
      · exact h.elim
    case buildSlice t len parts =>
      simp only [opc] at h
      simp only [opw]
      split at h
      · rename_i he; rw [he]; simp only
        split at h
        · rename_i hz; rw [hz]; simp only
          obtain ⟨h1, h2⟩ := br_false h
          simp only [Bool.and_eq_true, beq_iff_eq, bne_iff_ne, decide_eq_true_eq] at h1
          exact ⟨h1.1.1, h1.1.2, h1.2, h2⟩
        · exact h.elim
      · exact h.elim
    case load t a =>
      simp only [opc] at h
      simp only [opw]
      split at h
      · rename_i cs hb
        obtain ⟨b, sz, y, h1, h2, h3⟩ := loadc_sound h
        have e : szT P t = sz := by unfold szT; rw [h1]
        rw [hb, h1]; simp only [h2]
        split at h3
        · exact ⟨rfl, h3⟩
        · obtain ⟨h4, h5⟩ := br_false h3
          rw [e] at h4
          exact ⟨h4, h5⟩
      · exact h.elim
    case store t a x =>
      simp only [opc] at h
      simp only [opw]
      split at h
      · rename_i h1 h2 h3; rw [h1, h2, h3]; simp only
        split at h
        · rename_i h4; rw [h4]; simp only
          obtain ⟨h5, h6⟩ := br_false h
          simp only [Bool.and_eq_true, beq_iff_eq, decide_eq_true_eq] at h5
          exact ⟨h5.1.1.1, h5.1.1.2, ⟨h5.1.2, h5.2⟩, h6⟩
        · exact h.elim
      · exact h.elim
    case binOp op t x y yt =>
      simp only [opc] at h
      simp only [opw]
      split at h
      · rename_i hn; rw [if_pos hn]; exact nilc_sound h
      · rename_i hn; rw [if_neg (by rw [hn]; exact Bool.false_ne_true)]; exact binc_sound h
    case makeFunc fn first caps =>
      simp only [opc] at h
      simp only [opw]
      split at h
      · split at h
        · rename_i hf; exact ⟨by cases first; simp_all, h⟩
        · exact h.elim
      · exact h.elim
    case makeSlice t l c =>
      simp only [opc] at h
      simp only [opw]
      split at h
      · rename_i h1 h2 h3; rw [h1, h2, h3]; simp only
        split at h
        · rename_i hz; rw [hz]; simp only
          obtain ⟨h5, h6⟩ := br_false h
          simp only [Bool.and_eq_true, beq_iff_eq, bne_iff_ne] at h5
          exact ⟨h5.1, h5.2, h6⟩
        · exact h.elim
      · exact h.elim
    case slice t x lo hi mx =>
      simp only [opc] at h
      simp only [opw]
      have hh : ∀ {X : Prop}, br (hi.isSome || mx.isNone) X False → (hi = none → mx = none) ∧ X := by
        intro X hX
        obtain ⟨h1, h2⟩ := br_false hX
        refine ⟨fun e => ?_, h2⟩
        subst e; simpa using h1
      split at h
      · rename_i h1 h2; rw [h1, h2]; simp only
        split at h
        · rename_i h3 h4 h5; rw [h3, h4, h5]; simp only
          obtain ⟨⟨a1, a2, a3, a4, a5⟩, h7⟩ := h
          obtain ⟨h8, h9⟩ := hh h7
          exact ⟨a1, a2, a3, a4, h8, a5, h9⟩
        · exact h.elim
      · rename_i h1 h2; rw [h1, h2]; simp only
        split at h
        · rename_i h3 h4 h5; rw [h3, h4, h5]; simp only
          obtain ⟨⟨a1, a2, a3, a4⟩, h7⟩ := h
          obtain ⟨h8, h9⟩ := hh h7
          exact ⟨a1, a2, a3, a4, h8, h9⟩
        · exact h.elim
      · exact h.elim
    case indexAddr t x i =>
      simp only [opc] at h
      simp only [opw]
      split at h
      · rename_i h1 h2; rw [h1, h2]; simp only
        split at h
        · rename_i h3; rw [h3]; simp only
          obtain ⟨h4, h5⟩ := h
          obtain ⟨h6, h7⟩ := h4.get
          rw [h6]
          exact ⟨h4.1, h7, h4.2.2.2, h5⟩
        · rename_i h3; rw [h3]; simp only
          exact ⟨h.1.1, h.1.2, h.2⟩
        · exact h.elim
      · rename_i h1 h2; rw [h1, h2]; simp only
        obtain ⟨h5, h6⟩ := br_false h
        simp only [Bool.and_eq_true, decide_eq_true_eq] at h5
        exact ⟨h5.1, h5.2, h6⟩
      · exact h.elim
    case index t x i =>
      simp only [opc] at h
      simp only [opw]
      split at h
      · rename_i h1 h2 h3; rw [h1, h2, h3]; simp only
        obtain ⟨h5, h6⟩ := br_false h
        simp only [Bool.and_eq_true, decide_eq_true_eq] at h5
        exact ⟨h5.1, h5.2, h6⟩
      · exact h.elim
    all_goals exact h.elim
  refine ⟨main h, ?_⟩
  cases op <;> first | exact main h | exact h.elim

end Go.AM
