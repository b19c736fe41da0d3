/-
  An abstract machine over values without memory, proved against the model; part 22. A tool for the proofs of this claim; it states nothing of the program.
-/
import Derived.Test.YtmcincfonnfblaaA21
/-! AM, part 22: calls, regions and code that come out by computing. -/
namespace Go.AM
open Go

/-- what is known of a function -/
inductive Sp where
  | pure (s : List PV → (PV → Prop) → Prop)
  | read (s : List PV → Heap → (PV → Prop) → Prop)
  | heap (s : List PV → Heap → (PV → Heap → Prop) → Prop)
  | ext (s : List PV → Heap → (PV → Prop) → Prop)
  | mk (s : List PV → (List (List PV) → Prop) → Prop)
  | chg (s : List PV → Heap → (PV → Heap → Prop) → Prop)

def SpOk (P : Program) (gl : Glob) (f : Nat) : Sp → Prop
  | .pure s => ∀ args K, s args K → ∃ r, PCall P gl f args r ∧ K r
  | .read s => ∀ args H K, s args H K → ∃ r, ACalls P gl f args H (fun x H' => x = r ∧ H' = H) ∧ K r
  | .heap s => ∀ args H K, s args H K → ACalls P gl f args H K
  | .ext s => ∀ args H K, s args H K → ECalls P f args H (fun x _ => K x)
  | .mk s => ∀ args K, s args K → ∃ es, K es ∧ ∀ H, ACalls P gl f args H (fun x H' => (es = [] → x = .list [] .exact ∧ H' = H) ∧ (es ≠ [] → x = .list es (.tok H.length) ∧ H' = H ++ [.tok]))
  | .chg s => ∀ args H K, s args H K → ∃ r H', ACalls P gl f args H (fun x H1 => x = r ∧ H1 = H') ∧ K r H'

abbrev Tab := List (Nat × Sp)
def lookT (f : Nat) : Tab → Option Sp
  | [] => none
  | (g, s) :: T => match g == f with
    | true => some s
    | false => lookT f T

def TabOk (P : Program) (gl : Glob) (T : Tab) : Prop := ∀ f s, lookT f T = some s → SpOk P gl f s
theorem TabOk.nil (P : Program) (gl : Glob) : TabOk P gl [] := fun f s h => by simp [lookT] at h
theorem TabOk.cons {P : Program} {gl : Glob} {f : Nat} {s : Sp} {T : Tab} (h : SpOk P gl f s) (hT : TabOk P gl T) : TabOk P gl ((f, s) :: T) := by
  intro g s' hl
  simp only [lookT] at hl
  split at hl
  · rename_i he
    have : f = g := by simpa using he
    subst this; cases hl; exact h
  · exact hT g s' hl

def AppL (es ys : List (List PV)) (sz by_ : Nat) : Prop := uni sz es ∧ uni sz ys ∧ (es.length + ys.length) * by_ ≤ 140737488355328

def builtc (B : Bool → Prop → Prop → Prop) (P : Program) (b : Builtin) (ts : Array TypeId) (args : List PV) (m : Nat) (dr : Bool) (H : Heap) (K : PV → Heap → Prop) : Prop :=
  match b with
  | .len => match ts[0]?, args with
    | some t, [x] => match lenA P t x with
      | some n => K (.int .i64 n) H
      | none => False
    | _, _ => False
  | .cap => match ts[0]?, args with
    | some t, [.arr _ _ _ cap] => B (isSlT P t) (K (.int .i64 cap) H) False
    | _, _ => False
  | .min => match foldMM mnI args with
    | some z => K z H
    | none => False
  | .max => match foldMM mxI args with
    | some z => K z H
    | none => False
  | .append => match appA P ts, args with
    | some (sz, by_, z), [.list es tl, y] => match m with
      | 2 => match es, tl, srcA H sz y with
        | [], .exact, some (ys, n) => ys.length = n * sz ∧ n * by_ ≤ 140737488355328 ∧ 0 < n ∧ ∀ c, n ≤ c → K (.arr H.length 0 n c) (H ++ [.cells (ys ++ (List.replicate (c - n) z).flatten)])
        | _, _, _ => False
      | 1 => match y with
        | .list ys _ => AppL es ys sz by_ ∧ (ys.flatten.all PV.one = true ∧ ys ≠ []) ∧ match tl with
          | .exact => K (.list (es ++ ys) (.tok H.length)) (H ++ [.tok])
          | .tok o => match H[o]? with
            | some .tok => K (.list (es ++ ys) (.tok H.length)) (H.set o .dead ++ [.tok])
            | _ => False
          | .no => False
        | _ => False
      | 4 => match y with
        | .list ys _ => AppL es ys sz by_ ∧ ys.flatten.all PV.one = true ∧ (ys = [] → K (.list es tl) H) ∧ (ys ≠ [] → match tl with
          | .exact => K (.list (es ++ ys) (.tok H.length)) (H ++ [.tok])
          | .tok o => match H[o]? with
            | some .tok => K (.list (es ++ ys) (.tok H.length)) (H.set o .dead ++ [.tok])
            | _ => False
          | .no => False)
        | _ => False
      | 0 => match y, tl with
        | .list ys _, .exact => AppL es ys sz by_ ∧ K (.list (es ++ ys) .no) H
        | _, _ => False
      | _ => False
    | some (sz, by_, z), [.arr o off len cap, y] => match H[o]?, srcA H sz y with
      | some (.cells cs), some (ys, n) => (len ≤ cap ∧ off + cap * sz ≤ cs.length ∧ ys.length = n * sz ∧ ys.all PV.one = true ∧ (len + n) * by_ ≤ 140737488355328) ∧
        match m with
        | 3 => len + n ≤ cap ∧ K (.arr o off (len + n) cap) (H.set o (.cells (over cs (off + len * sz) ys)))
        | _ => match dr with
          | true => False
          | false => (len + n ≤ cap → K (.arr o off (len + n) cap) (H.set o (.cells (over cs (off + len * sz) ys)))) ∧
            (cap < len + n → ∀ c, len + n ≤ c → K (.arr H.length 0 (len + n) c) (H ++ [.cells (((cs.drop off).take (len * sz)) ++ ys ++ (List.replicate (c - (len + n)) z).flatten)]))
      | _, _ => False
    | none, [.arr o off len cap, .int _ n] => match dr, m, appZ P ts, H[o]? with
      | false, 0, some (sz, by_, z), some (.cells cs) => (len ≤ cap ∧ off + cap * sz ≤ cs.length ∧ 0 ≤ n ∧ cap < len + n.toNat ∧ (len + n.toNat) * by_ ≤ 140737488355328) ∧
        ∀ c, len + n.toNat ≤ c → K (.arr H.length 0 (len + n.toNat) c) (H ++ [.cells (((cs.drop off).take (len * sz)) ++ (List.replicate (c - len) z).flatten)])
      | _, _, _, _ => False
    | _, _ => False
  | .copy => match ts[0]?, args with
    | some t, [.arr o off len _, y] => match elA P t with
      | some (none, _, sz, _, _) => match H[o]?, srcA H sz y with
        | some (.cells cs), some (ys, n) => (off + len * sz ≤ cs.length ∧ ys.length = n * sz ∧ ys.all PV.one = true) ∧ K (.int .i64 (min n len : Nat)) (H.set o (.cells (over cs off (ys.take (min n len * sz)))))
        | _, _ => False
      | _ => False
    | _, _ => False
  | .clear => match ts[0]?, args with
    | some t, [.arr o off len _] => match elA P t with
      | some (none, _, sz, _, et) => match H[o]?, zeroA P et with
        | some (.cells cs), some z => B (z.length == sz && z.all PV.one) (off + len * sz ≤ cs.length ∧ K (.tup []) (H.set o (.cells (over cs off (List.replicate len z).flatten)))) False
        | _, _ => False
      | _ => False
    | _, _ => False
  | _ => False

theorem builtc_sound {P : Program} {b : Builtin} {ts : Array TypeId} {args : List PV} {m : Nat} {dr : Bool} {H : Heap} {K : PV → Heap → Prop} (h : builtc br P b ts args m dr H K) :
    builtinK P b ts args m H K ∧ (dr = true → b ≠ .append ∨ listFirst args = true ∨ m = 3) := by
  cases b <;> try exact h.elim
  case len => exact ⟨h, fun _ => .inl (fun e => by cases e)⟩
  case min => exact ⟨h, fun _ => .inl (fun e => by cases e)⟩
  case max => exact ⟨h, fun _ => .inl (fun e => by cases e)⟩
  case cap =>
    refine ⟨?_, fun _ => .inl (fun e => by cases e)⟩
    simp only [builtc] at h
    simp only [builtinK]
    split at h
    · rename_i h1; rw [h1]; simp only
      obtain ⟨h2, h3⟩ := br_false h
      exact ⟨isSlT_of h2, h3⟩
    · exact h.elim
  case copy =>
    refine ⟨?_, fun _ => .inl (fun e => by cases e)⟩
    simp only [builtc] at h
    simp only [builtinK]
    split at h
    · rename_i h1; rw [h1]; simp only
      split at h
      · rename_i h2; rw [h2]; simp only
        split at h
        · rename_i h3 h4; rw [h3, h4]; simp only
          exact ⟨h.1.1, h.1.2.1, h.1.2.2, h.2⟩
        · exact h.elim
      · exact h.elim
    · exact h.elim
  case clear =>
    refine ⟨?_, fun _ => .inl (fun e => by cases e)⟩
    simp only [builtc] at h
    simp only [builtinK]
    split at h
    · rename_i h1; rw [h1]; simp only
      split at h
      · rename_i h2; rw [h2]; simp only
        split at h
        · rename_i h3 h4; rw [h3, h4]; simp only
          obtain ⟨h5, h6⟩ := br_false h
          simp only [Bool.and_eq_true, beq_iff_eq] at h5
          exact ⟨h5.1, h5.2, h6⟩
        · exact h.elim
      · exact h.elim
    · exact h.elim
  case append =>
    simp only [builtc] at h
    simp only [builtinK]
    split at h
    · rename_i h1; rw [h1]; simp only
      refine ⟨?_, fun _ => .inr (.inl rfl)⟩
      split at h
      · split at h
        · rename_i h2; simp only
          refine ⟨trivial, trivial, ?_⟩
          rw [h2]; exact h
        · exact h.elim
      · split at h
        · obtain ⟨⟨a1, a2, a3⟩, ⟨b1, b2⟩, h⟩ := h
          refine ⟨a1, a2, a3, b1, b2, ?_⟩
          split at h
          · exact h
          · split at h
            · rename_i ho; exact ⟨ho, h⟩
            · exact h.elim
          · exact h.elim
        · exact h.elim
      · split at h
        · obtain ⟨⟨a1, a2, a3⟩, b1, b2, h⟩ := h
          refine ⟨a1, a2, a3, b1, b2, fun k => ?_⟩
          have h := h k
          split at h
          · exact h
          · split at h
            · rename_i ho; exact ⟨ho, h⟩
            · exact h.elim
          · exact h.elim
        · exact h.elim
      · split at h
        · obtain ⟨⟨a1, a2, a3⟩, h⟩ := h
          exact ⟨a1, a2, a3, rfl, h⟩
        · exact h.elim
      · exact h.elim
    · rename_i h1; rw [h1]; simp only
      split at h
      · rename_i h3 h4; rw [h3, h4]; simp only
        obtain ⟨ha, h⟩ := h
        split at h
        · exact ⟨⟨ha.1, ha.2.1, ha.2.2.1, ha.2.2.2.1, ha.2.2.2.2, h⟩, fun _ => .inr (.inr rfl)⟩
        · rename_i hm
          split at h
          · exact h.elim
          · refine ⟨⟨ha.1, ha.2.1, ha.2.2.1, ha.2.2.2.1, ha.2.2.2.2, ?_⟩, fun e => by cases e⟩
            split
            · exact absurd rfl hm
            · exact h
      · exact h.elim
    · rename_i h1; rw [h1]; simp only
      split at h
      · rename_i h2 h3; rw [h2, h3]; simp only
        exact ⟨⟨h.1.1, h.1.2.1, h.1.2.2.1, h.1.2.2.2.1, h.1.2.2.2.2, trivial, h.2⟩, fun e => by cases e⟩
      · exact h.elim
    · exact h.elim

def callc (B : Bool → Prop → Prop → Prop) (P : Program) (T : Tab) (c : Call) (m : Nat) (dr : Bool) (ρ : Operand → PV) (H : Heap) (K : PV → Heap → Prop) : Prop :=
  match c.callee with
  | .value f => match ρ f with
    | .fn k caps => match lookT k T with
      | some (.pure s) => B (callable P k) (s (c.args.toList.map ρ ++ caps) (fun x => K x H)) False
      | some (.read s) => B (callable P k) (match dr, m with
        | false, _ => s (c.args.toList.map ρ ++ caps) H (fun x => K x H)
        | true, 5 => s (c.args.toList.map ρ ++ caps) H (fun x => K x H)
        | true, _ => False) False
      | some (.heap s) => B (callable P k) (match dr with
        | false => s (c.args.toList.map ρ ++ caps) H K
        | true => False) False
      | some (.ext s) => match dr with
        | false => s (c.args.toList.map ρ ++ caps) H (fun x => K x H)
        | true => False
      | some (.mk s) => B (callable P k) (match dr, m with
        | false, _ => s (c.args.toList.map ρ ++ caps) (fun es => (es = [] → K (.list [] .exact) H) ∧ (es ≠ [] → K (.list es (.tok H.length)) (H ++ [.tok])))
        | true, 6 => s (c.args.toList.map ρ ++ caps) (fun es => (es = [] → K (.list [] .exact) H) ∧ (es ≠ [] → K (.list es (.tok H.length)) (H ++ [.tok])))
        | true, _ => False) False
      | some (.chg s) => B (callable P k) (match dr, m with
        | false, _ => s (c.args.toList.map ρ ++ caps) H K
        | true, 7 => s (c.args.toList.map ρ ++ caps) H K
        | true, _ => False) False
      | none => False
    | _ => False
  | .builtin b => builtc B P b c.argTypes (c.args.toList.map ρ) m dr H K
  | _ => False

theorem callc_sound {P : Program} {gl : Glob} {T : Tab} (hT : TabOk P gl T) {c : Call} {m : Nat} {dr : Bool} {ρ : Operand → PV} {H : Heap} {K : PV → Heap → Prop} (h : callc br P T c m dr ρ H K) :
    (dr = false → opw P gl (.call c) m ρ H K) ∧ (dr = true → opwD P gl (.call c) m ρ H K) := by
  unfold callc at h
  have hop : opw P gl (.call c) m ρ H K = callK P gl c m ρ H K := rfl
  rw [hop]
  unfold callK
  simp only [opwD]
  split at h
  · rename_i f hf
    rw [hf]; simp only
    split at h
    · rename_i k caps hk
      rw [hk]; simp only
      split at h
      · rename_i s hs
        obtain ⟨h1, h2⟩ := br_false h
        obtain ⟨r, k1, k2⟩ := hT k _ hs _ _ h2
        refine ⟨fun _ => .inl ⟨h1, (k1 H).mono fun x H' e => by rw [e.1, e.2]; exact k2⟩, fun _ => ⟨h1, ?_⟩⟩
        unfold PCallK
        by_cases h6 : m = 6
        · rw [if_pos h6]; exact ⟨r, H, k1 H, fun _ _ k => k, k2⟩
        rw [if_neg h6]
        by_cases h7 : m = 7
        · rw [if_pos h7]; exact ⟨r, H, k1 H, k2⟩
        rw [if_neg h7]
        refine ⟨r, ?_, k2⟩
        split
        · exact k1 H
        · exact k1
      · rename_i s hs
        obtain ⟨h1, h2⟩ := br_false h
        split at h2
        · obtain ⟨r, k1, k2⟩ := hT k _ hs _ _ _ h2
          exact ⟨fun _ => .inl ⟨h1, k1.mono fun x H' e => by rw [e.1, e.2]; exact k2⟩, fun e => by cases e⟩
        · obtain ⟨r, k1, k2⟩ := hT k _ hs _ _ _ h2
          exact ⟨fun e => (by cases e), fun _ => ⟨h1, by unfold PCallK; rw [if_neg (by decide), if_neg (by decide)]; exact ⟨r, by rw [if_pos rfl]; exact k1, k2⟩⟩⟩
        · exact h2.elim
      · rename_i s hs
        obtain ⟨h1, h2⟩ := br_false h
        split at h2
        · exact ⟨fun _ => .inl ⟨h1, hT k _ hs _ _ _ h2⟩, fun e => by cases e⟩
        · exact h2.elim
      · rename_i s hs
        split at h
        · exact ⟨fun _ => .inr (hT k _ hs _ _ _ h), fun e => by cases e⟩
        · exact h.elim
      · rename_i s hs
        obtain ⟨h1, h2⟩ := br_false h
        have main : ∀ es : List (List PV), ((es = [] → K (.list [] .exact) H) ∧ (es ≠ [] → K (.list es (.tok H.length)) (H ++ [.tok]))) → (∀ H, ACalls P gl k (c.args.toList.map ρ ++ caps) H (fun x H' => (es = [] → x = .list [] .exact ∧ H' = H) ∧ (es ≠ [] → x = .list es (.tok H.length) ∧ H' = H ++ [.tok]))) →
            ∃ r H', ACalls P gl k (c.args.toList.map ρ ++ caps) H (fun x H1 => x = r ∧ H1 = H') ∧ keeps H H' ∧ K r H' := by
          intro es hk ha
          by_cases h0 : es = []
          · exact ⟨_, _, (ha H).mono fun x H' e => e.1 h0, fun _ _ k => k, hk.1 h0⟩
          · exact ⟨_, _, (ha H).mono fun x H' e => e.2 h0, keeps_snoc H _, hk.2 h0⟩
        split at h2
        · obtain ⟨es, k2, k1⟩ := hT k _ hs _ _ h2
          obtain ⟨r, H', a1, _, a2⟩ := main es k2 k1
          exact ⟨fun _ => .inl ⟨h1, a1.mono fun x H1 e => by rw [e.1, e.2]; exact a2⟩, fun e => by cases e⟩
        · obtain ⟨es, k2, k1⟩ := hT k _ hs _ _ h2
          exact ⟨fun e => (by cases e), fun _ => ⟨h1, by unfold PCallK; rw [if_pos rfl]; exact main es k2 k1⟩⟩
        · exact h2.elim
      · rename_i s hs
        obtain ⟨h1, h2⟩ := br_false h
        split at h2
        · obtain ⟨r, H', k1, k2⟩ := hT k _ hs _ _ _ h2
          exact ⟨fun _ => .inl ⟨h1, k1.mono fun x H1 e => by rw [e.1, e.2]; exact k2⟩, fun e => by cases e⟩
        · obtain ⟨r, H', k1, k2⟩ := hT k _ hs _ _ _ h2
          exact ⟨fun e => (by cases e), fun _ => ⟨h1, by unfold PCallK; rw [if_neg (by decide), if_pos rfl]; exact ⟨r, H', k1, k2⟩⟩⟩
        · exact h2.elim
      · exact h.elim
    · exact h.elim
  · rename_i b hb
    rw [hb]; simp only
    obtain ⟨h1, h2⟩ := builtc_sound h
    exact ⟨fun _ => h1, fun e => ⟨h2 e, h1⟩⟩
  · exact h.elim

def regc (B : Bool → Prop → Prop → Prop) (P : Program) (gl : Glob) (T : Tab) (hn : Oper → Nat) (dr : Bool) (ops : Array Oper) : List Oper → Env → Heap → (Env → Heap → Prop) → Prop
  | [], e, H, K => K e H
  | o :: l, e, H, K =>
    match o.guard with
    | none => match o.op with
      | .call c => callc B P T c (hn o) dr (ev gl e) H fun x H' => regc B P gl T hn dr ops l (upd e o.dst x) H' K
      | op => opc B P op (hn o) (ev gl e) H fun x H' => regc B P gl T hn dr ops l (upd e o.dst x) H' K
    | some (j, want) => match (ops[j]?).bind (·.dst) with
      | some d => match e d with
        | .bool b => B (b == want)
            (match o.op with
            | .call c => callc B P T c (hn o) dr (ev gl (upd e (some d) (.bool want))) H fun x H' => regc B P gl T hn dr ops l (upd (upd e (some d) (.bool want)) o.dst x) H' K
            | op => opc B P op (hn o) (ev gl (upd e (some d) (.bool want))) H fun x H' => regc B P gl T hn dr ops l (upd (upd e (some d) (.bool want)) o.dst x) H' K)
            (regc B P gl T hn dr ops l (upd (upd e (some d) (.bool !want)) o.dst (.tup [])) H K)
        | .tup [] => regc B P gl T hn dr ops l (upd e o.dst (.tup [])) H K
        | _ => False
      | none => False

theorem upd_self {e : Env} {d : Nat} {x : PV} (h : e d = x) : upd e (some d) x = e := by
  funext k; simp only [upd]; split
  · rename_i hk; rw [hk, h]
  · rfl

theorem opw_call {P : Program} {gl : Glob} {c : Call} {m : Nat} {ρ : Operand → PV} {H : Heap} {K : PV → Heap → Prop} : opw P gl (.call c) m ρ H K = callK P gl c m ρ H K := rfl

theorem step_sound {P : Program} {gl : Glob} {T : Tab} (hT : TabOk P gl T) {op : Op} {m : Nat} {dr : Bool} {ρ : Operand → PV} {H : Heap} {K : PV → Heap → Prop}
    (h : match op with | .call c => callc br P T c m dr ρ H K | op => opc br P op m ρ H K) : (dr = false → opw P gl op m ρ H K) ∧ (dr = true → opwD P gl op m ρ H K) := by
  cases op <;> first | exact callc_sound hT h | exact ⟨fun _ => (opc_sound h).1, fun _ => (opc_sound h).2⟩

theorem intK_mono {op : BinOp} {k k' : IntKind} {a b : Int} {K K' : PV → Prop} (h : intK op k a k' b K) (hk : ∀ x, K x → K' x) : intK op k a k' b K' := by
  cases op <;> simp only [intK] at h ⊢
  case quo => exact ⟨h.1, h.2.1, hk _ h.2.2⟩
  case rem => exact ⟨h.1, h.2.1, hk _ h.2.2⟩
  all_goals exact ⟨h.1, hk _ h.2⟩

theorem binK_mono {P : Program} {op : BinOp} {t : TypeId} {x y : PV} {K K' : PV → Prop} (h : binK P op t x y K) (hk : ∀ x, K x → K' x) : binK P op t x y K' := by
  unfold binK at h
  split at h
  · exact intK_mono h hk
  · unfold binK
    cases op <;> first | exact h.elim | exact hk _ h
  · refine ⟨h.1, ?_⟩
    have h := h.2
    cases op <;> first | exact h.elim | exact hk _ h
  · refine ⟨h.1, ?_⟩
    have h := h.2
    cases op <;> first | exact h.elim | exact hk _ h
  · refine ⟨h.1, ?_⟩
    have h := h.2
    cases op <;> first | exact h.elim | exact hk _ h
  · refine ⟨h.1, ?_⟩
    have h := h.2
    cases op <;> first | exact h.elim | exact hk _ h
  · rename_i xs ys
    obtain ⟨h1, h2, h3, h4, h5⟩ := h
    refine ⟨h1, h2, h3, h4, ?_⟩
    split at h5
    · rename_i he; (try rw [he]); (try simp only)
      cases op <;> first | exact h5.elim | exact hk _ h5
    · exact h5.elim
  · exact h.elim

theorem nilK_mono {P : Program} {op : BinOp} {t : TypeId} {x : PV} {K K' : PV → Prop} (h : nilK P op t x K) (hk : ∀ x, K x → K' x) : nilK P op t x K' := by
  refine ⟨h.1, ?_⟩
  have h := h.2
  split at h
  · cases op <;> first | exact h.elim | exact fun b hb => hk _ (h b hb)
  · cases op <;> first | exact h.elim | exact hk _ h
  · exact h.elim

theorem builtinK_mono {P : Program} {b : Builtin} {ts : Array TypeId} {args : List PV} {m : Nat} {H : Heap} {K K' : PV → Heap → Prop} (h : builtinK P b ts args m H K) (hk : ∀ x H', K x H' → K' x H') : builtinK P b ts args m H K' := by
  cases b <;> try exact h.elim
  case len =>
    simp only [builtinK] at h ⊢
    split at h
    · rename_i h1; (try rw [h1]); (try simp only)
      split at h
      · rename_i h2; (try rw [h2]); exact hk _ _ h
      · exact h.elim
    · exact h.elim
  case min =>
    simp only [builtinK] at h ⊢
    split at h
    · rename_i h2; (try rw [h2]); exact hk _ _ h
    · exact h.elim
  case max =>
    simp only [builtinK] at h ⊢
    split at h
    · rename_i h2; (try rw [h2]); exact hk _ _ h
    · exact h.elim
  case cap =>
    simp only [builtinK] at h ⊢
    split at h
    · rename_i h1; (try rw [h1]); exact ⟨h.1, hk _ _ h.2⟩
    · exact h.elim
  case copy =>
    simp only [builtinK] at h ⊢
    split at h
    · rename_i h1; (try rw [h1]); (try simp only)
      split at h
      · rename_i h2; (try rw [h2]); (try simp only)
        split at h
        · rename_i h3 h4; (try rw [h3, h4]); exact ⟨h.1, h.2.1, h.2.2.1, hk _ _ h.2.2.2⟩
        · exact h.elim
      · exact h.elim
    · exact h.elim
  case clear =>
    simp only [builtinK] at h ⊢
    split at h
    · rename_i h1; (try rw [h1]); (try simp only)
      split at h
      · rename_i h2; (try rw [h2]); (try simp only)
        split at h
        · rename_i h3 h4; (try rw [h3, h4]); exact ⟨h.1, h.2.1, h.2.2.1, hk _ _ h.2.2.2⟩
        · exact h.elim
      · exact h.elim
    · exact h.elim
  case append =>
    simp only [builtinK] at h ⊢
    split at h
    · rename_i h1; (try rw [h1]); (try simp only)
      split at h
      · obtain ⟨h2, h3, h4⟩ := h
        refine ⟨h2, h3, ?_⟩
        split at h4
        · exact ⟨h4.1, h4.2.1, h4.2.2.1, fun c hc => hk _ _ (h4.2.2.2 c hc)⟩
        · exact h4.elim
      · rename_i hm
        split at h
        · obtain ⟨a1, a2, a3, h⟩ := h
          refine ⟨a1, a2, a3, ?_⟩
          split at h
          · refine ⟨h.1, h.2.1, ?_⟩
            have h := h.2.2
            split at h
            · exact hk _ _ h
            · exact ⟨h.1, hk _ _ h.2⟩
            · exact h.elim
          · refine ⟨h.1, fun k => hk _ _ (h.2.1 k), fun k => ?_⟩
            have h := h.2.2 k
            split at h
            · exact hk _ _ h
            · exact ⟨h.1, hk _ _ h.2⟩
            · exact h.elim
          · exact ⟨h.1, hk _ _ h.2⟩
        · exact h.elim
    · rename_i h1; (try rw [h1]); (try simp only)
      split at h
      · rename_i h3 h4; (try rw [h3, h4])
        refine ⟨h.1, h.2.1, h.2.2.1, h.2.2.2.1, h.2.2.2.2.1, ?_⟩
        have h := h.2.2.2.2.2
        split at h
        · exact ⟨h.1, hk _ _ h.2⟩
        · exact ⟨fun q => hk _ _ (h.1 q), fun q c hc => hk _ _ (h.2 q c hc)⟩
      · exact h.elim
    · rename_i h1; (try rw [h1]); (try simp only)
      split at h
      · rename_i h3 h4; (try rw [h3, h4])
        exact ⟨h.1, h.2.1, h.2.2.1, h.2.2.2.1, h.2.2.2.2.1, h.2.2.2.2.2.1, fun c hc => hk _ _ (h.2.2.2.2.2.2 c hc)⟩
      · exact h.elim
    · exact h.elim

theorem opw_mono {P : Program} {gl : Glob} {op : Op} {m : Nat} {ρ : Operand → PV} {H : Heap} {K K' : PV → Heap → Prop} (h : opw P gl op m ρ H K) (hk : ∀ x H', K x H' → K' x H') : opw P gl op m ρ H K' := by
  cases op <;> try exact h.elim
  case move x => exact hk _ _ h
  case assign x => exact hk _ _ h
  case call c =>
    rw [opw_call] at h ⊢
    unfold callK at h ⊢
    split at h
    · split at h
      · rcases h with h | h
        · exact .inl ⟨h.1, h.2.mono hk⟩
        · refine .inr fun g w vs hS hR => ?_
          obtain ⟨v, x, h1, h2, h3⟩ := h g w vs hS hR
          exact ⟨v, x, h1, h2, hk _ _ h3⟩
      · exact h.elim
    · exact builtinK_mono h hk
    · exact h.elim
  case binOp =>
    simp only [opw] at h ⊢
    split at h
    · rename_i hc; (try rw [if_pos hc]); exact nilK_mono h fun x => hk x H
    · rename_i hc; (try rw [if_neg hc]); exact binK_mono h fun x => hk x H
  case nilCheck x =>
    simp only [opw] at h ⊢
    split at h <;> first | exact h.elim | (rename_i h1; (try rw [h1]); exact hk _ _ h)
  case pick =>
    simp only [opw] at h ⊢
    split at h <;> first | exact h.elim | (rename_i h1; (try rw [h1]); exact hk _ _ h)
  case alloc =>
    simp only [opw] at h ⊢
    split at h <;> first | exact h.elim | (rename_i h1; (try rw [h1]); exact hk _ _ h)
  case box =>
    simp only [opw] at h ⊢
    split at h <;> first | exact h.elim | (rename_i h1; (try rw [h1]); exact hk _ _ h)
  case build =>
    simp only [opw] at h ⊢
    split at h <;> first | exact h.elim | (rename_i h1; (try rw [h1]); exact hk _ _ h)
  case unOp =>
    simp only [opw] at h ⊢
    split at h <;> first | exact h.elim | (rename_i h1; (try rw [h1]); exact hk _ _ h)
  case convert =>
    simp only [opw] at h ⊢
    split at h <;> first | exact h.elim | (rename_i h1; (try rw [h1]); exact hk _ _ h)
  case makeFunc =>
    simp only [opw] at h ⊢
    split at h <;> first | exact h.elim | exact ⟨h.1, hk _ _ h.2⟩
  case buildSlice =>
    simp only [opw] at h ⊢
    split at h
    · rename_i h1; (try rw [h1]); (try simp only)
      split at h
      · rename_i h2; (try rw [h2])
        refine ⟨h.1, h.2.1, h.2.2.1, ?_⟩
        have h := h.2.2.2
        split at h
        · rename_i h3; (try rw [h3]); exact hk _ _ h
        · exact h.elim
      · exact h.elim
    · exact h.elim
  case load =>
    simp only [opw] at h ⊢
    split at h
    · rename_i h1 h2; (try rw [h1, h2]); (try simp only)
      split at h
      · rename_i h3; (try rw [h3]); exact ⟨h.1, hk _ _ h.2⟩
      · exact h.elim
    · exact h.elim
  case store =>
    simp only [opw] at h ⊢
    split at h
    · rename_i h1 h2 h3; (try rw [h1, h2, h3]); (try simp only)
      split at h
      · rename_i h4; (try rw [h4]); exact ⟨h.1, h.2.1, h.2.2.1, hk _ _ h.2.2.2⟩
      · exact h.elim
    · exact h.elim
  case makeSlice =>
    simp only [opw] at h ⊢
    split at h
    · rename_i h1 h2 h3; (try rw [h1, h2, h3]); (try simp only)
      split at h
      · rename_i h4; (try rw [h4]); exact ⟨h.1, h.2.1, h.2.2.1, h.2.2.2.1, h.2.2.2.2.1, h.2.2.2.2.2.1, hk _ _ h.2.2.2.2.2.2⟩
      · exact h.elim
    · exact h.elim
  case slice =>
    simp only [opw] at h ⊢
    split at h
    · rename_i h1 h2; (try rw [h1, h2]); (try simp only)
      split at h
      · rename_i h3 h4 h5; (try rw [h3, h4, h5]); exact ⟨h.1, h.2.1, h.2.2.1, h.2.2.2.1, h.2.2.2.2.1, h.2.2.2.2.2.1, hk _ _ h.2.2.2.2.2.2⟩
      · exact h.elim
    · rename_i h1 h2; (try rw [h1, h2]); (try simp only)
      split at h
      · rename_i h3 h4 h5; (try rw [h3, h4, h5]); exact ⟨h.1, h.2.1, h.2.2.1, h.2.2.2.1, h.2.2.2.2.1, hk _ _ h.2.2.2.2.2⟩
      · exact h.elim
    · exact h.elim
  case fieldAddr =>
    simp only [opw] at h ⊢
    split at h
    · rename_i h1; (try rw [h1]); (try simp only)
      split at h
      · rename_i h2; (try rw [h2]); exact hk _ _ h
      · exact h.elim
    · exact h.elim
  case field =>
    simp only [opw] at h ⊢
    split at h
    · rename_i h1 h2; (try rw [h1, h2]); (try simp only)
      split at h
      · rename_i h3; (try rw [h3]); exact hk _ _ h
      · exact h.elim
    · exact h.elim
  case indexAddr =>
    simp only [opw] at h ⊢
    split at h
    · rename_i h1 h2; (try rw [h1, h2]); (try simp only)
      split at h
      · rename_i h3; (try rw [h3]); refine ⟨h.1, ?_⟩
        have h := h.2
        split at h
        · rename_i h4; (try rw [h4]); exact ⟨h.1, h.2.1, hk _ _ h.2.2⟩
        · exact h.elim
      · rename_i h3; (try rw [h3]); exact ⟨h.1, h.2.1, hk _ _ h.2.2⟩
      · exact h.elim
    · rename_i h1 h2; (try rw [h1, h2]); refine ⟨h.1, h.2.1, ?_⟩
      have h := h.2.2
      split at h
      · rename_i h3; (try rw [h3]); exact hk _ _ h
      · exact h.elim
    · exact h.elim
  case index =>
    simp only [opw] at h ⊢
    split at h
    · rename_i h1 h2 h3; (try rw [h1, h2, h3]); refine ⟨h.1, h.2.1, ?_⟩
      have h := h.2.2
      split at h
      · rename_i h4; (try rw [h4]); exact hk _ _ h
      · exact h.elim
    · exact h.elim
  case extract =>
    simp only [opw] at h ⊢
    split at h
    · rename_i h1; (try rw [h1]); (try simp only)
      split at h
      · rename_i h2; (try rw [h2]); exact hk _ _ h
      · exact h.elim
    · exact h.elim


theorem opwD_eq {P : Program} {gl : Glob} {op : Op} (hc : ∀ c, op ≠ .call c) : opwD P gl op = opw P gl op := by
  cases op <;> first | rfl | exact absurd rfl (hc _)

theorem opwD_mono {P : Program} {gl : Glob} {op : Op} {m : Nat} {ρ : Operand → PV} {H : Heap} {K K' : PV → Heap → Prop} (h : opwD P gl op m ρ H K) (hk : ∀ x H', K x H' → K' x H') : opwD P gl op m ρ H K' := by
  by_cases hc : ∃ c, op = .call c
  · obtain ⟨c, rfl⟩ := hc
    simp only [opwD] at h ⊢
    split at h
    · split at h
      · obtain ⟨h1, h⟩ := h
        refine ⟨h1, ?_⟩
        unfold PCallK at h ⊢
        by_cases h6 : m = 6
        · rw [if_pos h6] at h ⊢
          obtain ⟨r, H', h2, h3, h4⟩ := h
          exact ⟨r, H', h2, h3, hk _ _ h4⟩
        · rw [if_neg h6] at h ⊢
          by_cases h7 : m = 7
          · rw [if_pos h7] at h ⊢
            obtain ⟨r, H', h2, h3⟩ := h
            exact ⟨r, H', h2, hk _ _ h3⟩
          · rw [if_neg h7] at h ⊢
            obtain ⟨r, h2, h3⟩ := h
            exact ⟨r, h2, hk _ _ h3⟩
      · exact h.elim
    · exact ⟨h.1, builtinK_mono h.2 hk⟩
    · exact h.elim
  · have hc : ∀ c, op ≠ .call c := fun c e => hc ⟨c, e⟩
    rw [opwD_eq hc] at h ⊢
    exact opw_mono h hk

theorem regc_sound {P : Program} {gl : Glob} {T : Tab} (hT : TabOk P gl T) {hn : Oper → Nat} {ops : Array Oper} {K : Env → Heap → Prop} : ∀ (l : List Oper) (e : Env) (H : Heap),
    regc br P gl T hn false ops l e H K → regw P gl hn ops l e H K
  | [], e, H, h => h
  | o :: l, e, H, h => by
    have ih := fun e H => regc_sound (gl := gl) hT (hn := hn) (ops := ops) (K := K) l e H
    unfold regc at h
    unfold regw
    split at h
    · rename_i hg
      (try rw [hg])
      exact opw_mono ((step_sound (m := hn o) (dr := false) hT h).1 rfl) fun x H' k => ih _ _ k
    · rename_i j want hg
      (try rw [hg])
      (try simp only)
      split at h
      · rename_i d hd
        (try rw [hd])
        (try simp only)
        split at h
        · rename_i b hb
          (try rw [hb])
          (try simp only)
          obtain ⟨h1, h2⟩ := br_iff.1 h
          constructor
          · intro hw
            subst hw
            have h1 := h1 (by simp)
            rw [upd_self hb] at h1
            exact opw_mono ((step_sound (m := hn o) (dr := false) hT h1).1 rfl) fun x H' k => ih _ _ k
          · intro hw
            have h2 := h2 (by subst hw; cases want <;> rfl)
            rw [hw] at hb
            rw [upd_self hb] at h2
            exact ih _ _ h2
        · rename_i hb
          (try rw [hb])
          exact ih _ _ h
        · exact h.elim
      · exact h.elim

theorem regc_sound_draw {P : Program} {gl : Glob} {T : Tab} (hT : TabOk P gl T) {hn : Oper → Nat} {ops : Array Oper} {K : Env → Heap → Prop} : ∀ (l : List Oper) (e : Env) (H : Heap),
    regc br P gl T hn true ops l e H K → regd P gl hn ops l e H K
  | [], e, H, h => h
  | o :: l, e, H, h => by
    have ih := fun e H => regc_sound_draw (gl := gl) hT (hn := hn) (ops := ops) (K := K) l e H
    unfold regc at h
    unfold regd
    split at h
    · rename_i hg
      (try rw [hg])
      exact opwD_mono ((step_sound (m := hn o) (dr := true) hT h).2 rfl) fun x H' k => ih _ _ k
    · rename_i j want hg
      (try rw [hg])
      (try simp only)
      split at h
      · rename_i d hd
        (try rw [hd])
        (try simp only)
        split at h
        · rename_i b hb
          (try rw [hb])
          (try simp only)
          obtain ⟨h1, h2⟩ := br_iff.1 h
          constructor
          · intro hw
            subst hw
            have h1 := h1 (by simp)
            rw [upd_self hb] at h1
            exact opwD_mono ((step_sound (m := hn o) (dr := true) hT h1).2 rfl) fun x H' k => ih _ _ k
          · intro hw
            have h2 := h2 (by subst hw; cases want <;> rfl)
            rw [hw] at hb
            rw [upd_self hb] at h2
            exact ih _ _ h2
        · rename_i hb
          (try rw [hb])
          exact ih _ _ h
        · exact h.elim
      · exact h.elim

end Go.AM
