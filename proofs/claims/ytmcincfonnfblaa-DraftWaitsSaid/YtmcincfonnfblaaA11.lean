/-
  An abstract machine over values without memory, proved against the model; part 11. A tool for the proofs of this claim; it states nothing of the program.
-/
import Derived.Test.YtmcincfonnfblaaA10
import Derived.Deep.LoopGhost
/-! AM, part 11: each operation by one word. -/
namespace Go.AM
open Go

/-- A call of a function, on pure values. -/
def ACalls (P : Program) (gl : Glob) (f : FuncId) (args : List PV) (H : Heap) (K : PV → Heap → Prop) : Prop :=
  ∀ g w (vs : Array Value), Sim g H w → GlobOk g w gl → RelL g w args vs.toList →
    Calls P f vs w fun e w' => ∃ v g' H' x, e = .returned v ∧ Sim g' H' w' ∧ Ext g H w g' H' w' ∧ Rel g' w' x v ∧ K x H'

theorem ACalls.mono {P : Program} {gl : Glob} {f : FuncId} {args : List PV} {H : Heap} {K K' : PV → Heap → Prop} (h : ACalls P gl f args H K) (hk : ∀ x H', K x H' → K' x H') : ACalls P gl f args H K' :=
  fun g w vs h1 h2 h3 => (h g w vs h1 h2 h3).mono fun _ _ ⟨v, g', H', x, a, b, c, d, k⟩ => ⟨v, g', H', x, a, b, c, d, hk x H' k⟩

/-- may be called: it has a body, and is no door -/
def callable (P : Program) (f : FuncId) : Bool :=
  match P.funcs[f]? with
  | some fn => fn.name != "runtime.NumGoroutine" && fn.body.isSome
  | none => false

def builtinK (P : Program) (b : Builtin) (ts : Array TypeId) (args : List PV) (m : Nat) (H : Heap) (K : PV → Heap → Prop) : Prop :=
  match b with
  | .len => match ts[0]?, args with
    | some t, [x] => match lenA P t x with
      | some n => K (.int .i64 n) H
      | none => False
    | _, _ => False
  | .cap => match ts[0]?, args with
    | some t, [.arr _ _ _ cap] => (∃ e, P.underlying t = some (.slice e)) ∧ K (.int .i64 cap) H
    | _, _ => False
  | .min => match foldMM mnI args with
    | some z => K z H
    | none => False
  | .max => match foldMM mxI args with
    | some z => K z H
    | none => False
  | .append => match appA P ts, args with
    | some (sz, by_, z), [.list es tl, y] => match m with
      | 2 => es = [] ∧ tl = .exact ∧ match srcA H sz y with
        | some (ys, n) => ys.length = n * sz ∧ n * by_ ≤ 140737488355328 ∧ 0 < n ∧ ∀ c, n ≤ c → K (.arr H.length 0 n c) (H ++ [.cells (ys ++ (List.replicate (c - n) z).flatten)])
        | none => False
      | m => match y with
        | .list ys _ => uni sz es ∧ uni sz ys ∧ (es.length + ys.length) * by_ ≤ 140737488355328 ∧ match m with
          | 1 => ys.flatten.all PV.one = true ∧ ys ≠ [] ∧ match tl with
            | .exact => K (.list (es ++ ys) (.tok H.length)) (H ++ [.tok])
            | .tok o => H[o]? = some .tok ∧ K (.list (es ++ ys) (.tok H.length)) (H.set o .dead ++ [.tok])
            | .no => False
          | 4 => ys.flatten.all PV.one = true ∧ (ys = [] → K (.list es tl) H) ∧ (ys ≠ [] → match tl with
            | .exact => K (.list (es ++ ys) (.tok H.length)) (H ++ [.tok])
            | .tok o => H[o]? = some .tok ∧ K (.list (es ++ ys) (.tok H.length)) (H.set o .dead ++ [.tok])
            | .no => False)
          | _ => tl = .exact ∧ K (.list (es ++ ys) .no) H
        | _ => False
    | some (sz, by_, z), [.arr o off len cap, y] => match H[o]?, srcA H sz y with
      | some (.cells cs), some (ys, n) => len ≤ cap ∧ off + cap * sz ≤ cs.length ∧ ys.length = n * sz ∧ ys.all PV.one = true ∧ (len + n) * by_ ≤ 140737488355328 ∧
        match m with
        | 3 => len + n ≤ cap ∧ K (.arr o off (len + n) cap) (H.set o (.cells (over cs (off + len * sz) ys)))
        | _ => (len + n ≤ cap → K (.arr o off (len + n) cap) (H.set o (.cells (over cs (off + len * sz) ys)))) ∧
          (cap < len + n → ∀ c, len + n ≤ c → K (.arr H.length 0 (len + n) c) (H ++ [.cells (((cs.drop off).take (len * sz)) ++ ys ++ (List.replicate (c - (len + n)) z).flatten)]))
      | _, _ => False
    | none, [.arr o off len cap, .int _ n] => match appZ P ts, H[o]? with
      | some (sz, by_, z), some (.cells cs) => len ≤ cap ∧ off + cap * sz ≤ cs.length ∧ 0 ≤ n ∧ cap < len + n.toNat ∧ (len + n.toNat) * by_ ≤ 140737488355328 ∧ m = 0 ∧
        ∀ c, len + n.toNat ≤ c → K (.arr H.length 0 (len + n.toNat) c) (H ++ [.cells (((cs.drop off).take (len * sz)) ++ (List.replicate (c - len) z).flatten)])
      | _, _ => False
    | _, _ => False
  | .copy => match ts[0]?, args with
    | some t, [.arr o off len _, y] => match elA P t with
      | some (none, _, sz, _, _) => match H[o]?, srcA H sz y with
        | some (.cells cs), some (ys, n) => off + len * sz ≤ cs.length ∧ ys.length = n * sz ∧ ys.all PV.one = true ∧ K (.int .i64 (min n len : Nat)) (H.set o (.cells (over cs off (ys.take (min n len * sz)))))
        | _, _ => False
      | _ => False
    | _, _ => False
  | .clear => match ts[0]?, args with
    | some t, [.arr o off len _] => match elA P t with
      | some (none, _, sz, _, et) => match H[o]?, zeroA P et with
        | some (.cells cs), some z => z.length = sz ∧ z.all PV.one = true ∧ off + len * sz ≤ cs.length ∧ K (.tup []) (H.set o (.cells (over cs off (List.replicate len z).flatten)))
        | _, _ => False
      | _ => False
    | _, _ => False
  | _ => False

/-- a function without a body that answers at once and leaves all as it is -/
def ECalls (P : Program) (f : FuncId) (args : List PV) (H : Heap) (K : PV → Heap → Prop) : Prop :=
  ∀ g w (vs : Array Value), Sim g H w → RelL g w args vs.toList → ∃ v x, (callFunc f vs).run P w = .ok (.value v) w ∧ Rel g w x v ∧ K x H

def callK (P : Program) (gl : Glob) (c : Call) (m : Nat) (ρ : Operand → PV) (H : Heap) (K : PV → Heap → Prop) : Prop :=
  match c.callee with
  | .value f => match ρ f with
    | .fn k caps => (callable P k = true ∧ ACalls P gl k (c.args.toList.map ρ ++ caps) H K) ∨ ECalls P k (c.args.toList.map ρ ++ caps) H K
    | _ => False
  | .builtin b => builtinK P b c.argTypes (c.args.toList.map ρ) m H K
  | _ => False

/-- a store's hint (1000 and more): which cells it writes -/
def hintOk (m o off sz : Nat) : Bool := Nat.blt m 1000 || ((m == 1000 + ((o * 1000 + off) * 100 + sz)) && Nat.blt off 1000 && Nat.blt sz 100)

/-- a load's hint: 900: what never changes; 1000 and more: which cells it reads -/
def hintL (m : Nat) (x : PV) (sz : Nat) : Bool := match m == 900 with
  | true => match x with
    | .iptr _ => true
    | _ => false
  | false => Nat.blt m 1000 || match x with
    | .ptr o off => hintOk m o off sz && Nat.blt 0 sz
    | _ => false

/-- one operation: what it asks, and what is handed on -/
def opw (P : Program) (gl : Glob) (op : Op) (m : Nat) (ρ : Operand → PV) (H : Heap) (K : PV → Heap → Prop) : Prop :=
  match op with
  | .move x => K (ρ x) H
  | .assign x => K (ρ x) H
  | .pick c a b => match ρ c with
    | .bool t => K (if t = true then ρ a else ρ b) H
    | _ => False
  | .alloc t => match zeroA P t with
    | some cs => K (.ptr H.length 0) (H ++ [.cells cs])
    | none => False
  | .box _ x => match (ρ x).cells with
    | some cs => K (.ptr H.length 0) (H ++ [.cells cs])
    | none => False
  | .build t parts => match buildA P t (parts.toList.map fun p => (p.1, ρ p.2)) with
    | some cs => K (.agg cs) H
    | none => False
  | .buildSlice t len parts => match elA P t with
    | some (none, _, sz, _, et) => match zeroA P et with
      | some z => z.length = sz ∧ sz ≠ 0 ∧ len * sz ≤ 16777216 ∧ match esFill sz (List.replicate len z) (parts.toList.map fun p => (p.1, ρ p.2)) with
        | some es => K (.list es .exact) H
        | none => False
      | none => False
    | _ => False
  | .load t a => match behind H (ρ a), tyA P t with
    | some cs, some (b, sz) => match loadPV b sz cs with
      | some y => hintL m (ρ a) sz = true ∧ K y H
      | none => False
    | _, _ => False
  | .store t a x => match ρ a, tyA P t, (ρ x).cells with
    | .ptr o off, some (_, sz), some xs => match H[o]? with
      | some (.cells cs) => xs.length = sz ∧ xs.all PV.one = true ∧ (off + sz ≤ cs.length ∧ hintOk m o off sz = true) ∧ K (.tup []) (H.set o (.cells (over cs off xs)))
      | _ => False
    | _, _, _ => False
  | .nilCheck x => match ρ x with
    | .ptr o off => K (.ptr o off) H
    | .iptr cs => K (.iptr cs) H
    | .fn f caps => K (.fn f caps) H
    | _ => False
  | .binOp op t x y _ => if isNilSlice y = true then nilK P op t (ρ x) (fun z => K z H) else binK P op t (ρ x) (ρ y) (fun z => K z H)
  | .unOp op _ x => match unA op (ρ x) with
    | some y => K y H
    | none => False
  | .convert s d x => match convA P s d (ρ x) with
    | some y => K y H
    | none => False
  | .makeFunc fn first caps => match fn with
    | .func f => first = #[] ∧ K (.fn f (caps.toList.map ρ)) H
    | _ => False
  | .makeSlice t l c => match elA P t, ρ l, ρ c with
    | some (none, _, sz, by_, et), .int _ l, .int _ c => match zeroA P et with
      | some z => z.length = sz ∧ sz ≠ 0 ∧ 0 ≤ l ∧ l ≤ c ∧ c ≤ 140737488355328 ∧ c * by_ ≤ 140737488355328 ∧ K (.arr H.length 0 l.toNat c.toNat) (H ++ [.cells (List.replicate c.toNat z).flatten])
      | none => False
    | _, _, _ => False
  | .slice t x lo hi mx => match elA P t, ρ x with
    | some (none, _, sz, _, _), .list es tl => match bnd 0 (lo.map ρ), bnd es.length (hi.map ρ), bnd es.length (mx.map ρ) with
      | some l, some h, some m => 0 ≤ l ∧ l ≤ h ∧ h ≤ m ∧ m ≤ es.length ∧ (hi = none → mx = none) ∧ uni sz es ∧ K (.list ((es.take h.toNat).drop l.toNat) (cutTail tl (lo.map ρ) (hi.map ρ) (mx.map ρ) h m)) H
      | _, _, _ => False
    | some (none, _, sz, _, _), .arr o off len cap => match bnd 0 (lo.map ρ), bnd len (hi.map ρ), bnd cap (mx.map ρ) with
      | some l, some h, some m => 0 ≤ l ∧ l ≤ h ∧ h ≤ m ∧ m ≤ cap ∧ (hi = none → mx = none) ∧ K (.arr o (if m.toNat = l.toNat then off else off + l.toNat * sz) (h.toNat - l.toNat) (m.toNat - l.toNat)) H
      | _, _, _ => False
    | _, _ => False
  | .fieldAddr s x f => match fldA P s f with
    | some (off, _, _) => match shiftP off (ρ x) with
      | some y => K y H
      | none => False
    | none => False
  | .field s x f => match fldA P s f, ρ x with
    | some (off, b, sz), .agg cs => match partA b off sz cs with
      | some y => K y H
      | none => False
    | _, _ => False
  | .indexAddr t x i => match elA P t, ρ i with
    | some (none, _, sz, _, _), .int _ n => match ρ x with
      | .list es _ => 0 ≤ n ∧ match es[n.toNat]? with
        | some e => e.length = sz ∧ sz ≠ 0 ∧ K (.iptr e) H
        | none => False
      | .arr o off len _ => 0 ≤ n ∧ n < len ∧ K (.ptr o (off + n.toNat * sz)) H
      | _ => False
    | some (some m, _, sz, _, _), .int _ n => 0 ≤ n ∧ n < m ∧ match shiftP (n.toNat * sz) (ρ x) with
      | some y => K y H
      | none => False
    | _, _ => False
  | .index t x i => match elA P t, ρ x, ρ i with
    | some (some m, b, sz, _, _), .agg cs, .int _ n => 0 ≤ n ∧ n < m ∧ match partA b (n.toNat * sz) sz cs with
      | some y => K y H
      | none => False
    | _, _, _ => False
  | .extract t i => match ρ t with
    | .tup vs => match vs[i]? with
      | some y => K y H
      | none => False
    | _ => False
  | .call c => callK P gl c m ρ H K
  | _ => False

/-- what an operation comes to in the machine -/
def NOk (P : Program) (s : Sem Next) (g : Gh) (H : Heap) (w : World) (K : PV → Heap → Prop) : Prop :=
  (∃ v w' g' H' x, s.run P w = .ok (.value v) w' ∧ Sim g' H' w' ∧ Ext g H w g' H' w' ∧ Rel g' w' x v ∧ K x H') ∨
  (∃ w' g' H' , s.run P w = .ok .skip w' ∧ Sim g' H' w' ∧ Ext g H w g' H' w' ∧ K (.tup []) H') ∨
  (∃ f vs, s.run P w = .ok (.enter f vs) w ∧ Calls P f vs w fun e w' => ∃ v g' H' x, e = .returned v ∧ Sim g' H' w' ∧ Ext g H w g' H' w' ∧ Rel g' w' x v ∧ K x H')

theorem VOk.next {P : Program} {s : Sem Value} {g : Gh} {H : Heap} {w : World} {K : PV → Heap → Prop} (h : VOk P s g H w K) : NOk P (do pure (.value (← s))) g H w K := by
  obtain ⟨v, w', g', H', x, h1, h2⟩ := h
  exact .inl ⟨v, w', g', H', x, by simp [h1], h2⟩

theorem relL_map {g : Gh} {w : World} {ρ : Operand → PV} {α : Operand → Value} (hρ : ∀ x, Rel g w (ρ x) (α x)) (xs : List Operand) : RelL g w (xs.map ρ) (xs.map α) := by
  induction xs with
  | nil => exact .nil
  | cons x xs ih => exact .cons (hρ x) ih

theorem opt_map {g : Gh} {w : World} {ρ : Operand → PV} {α : Operand → Value} (hρ : ∀ x, Rel g w (ρ x) (α x)) (x : Option Operand) : OptRel g w (x.map ρ) (x.map α) := by
  cases x with
  | none => exact .none
  | some x => exact .some (hρ x)

theorem run_callFunc {P : Program} {f : FuncId} (h : callable P f = true) (vs : Array Value) (w : World) : (callFunc f vs).run P w = .ok (.enter f vs) w := by
  unfold callable at h
  split at h
  · rename_i fn hf
    simp only [Bool.and_eq_true, bne_iff_ne, ne_eq] at h
    unfold callFunc
    rw [Sem.run_bind, run_program]
    simp only [Result.andThen_ok, hf]
    have h1 : (fn.name == "runtime.NumGoroutine") = false := by simpa using h.1
    have h2 : fn.body.isNone = false := by
      cases hb : fn.body with
      | none => rw [hb] at h; simp at h
      | some c => rfl
    simp [h1, h2]
  · cases h

end Go.AM
