/-
  An abstract machine over values without memory, proved against the model; part 6. A tool for the proofs of this claim; it states nothing of the program.
-/
import Derived.Test.YthabdpaipgclpaaA5
import Derived.Laws.Externs
/-! AM, part 24: loops and pure functions, for use. -/
namespace Go.AM
open Go

/-- the objects are so -/
def HpIs (H X : Heap) : Prop := H = X
/-- the slots hold so -/
def SlIs (xs ys : List PV) : Prop := xs = ys

/-- a Prop, shut: the elaborator does not look behind it -/
structure Holds (p : Prop) : Prop where
  out : p
theorem holds_of_eq {p q : Prop} (e : p = q) (h : p) : Holds q := ⟨e ▸ h⟩

/-- an environment of which some slots are known -/
def envS : List Nat → List PV → Env
  | t :: ts, v :: vs => fun k => match k == t with
    | true => v
    | false => envS ts vs k
  | _, _ => fun _ => .any

theorem envS_le (e : Env) : ∀ (ts : List Nat), EnvLe e (envS ts (ts.map e))
  | [] => fun t => .inr rfl
  | t :: ts => fun k => by
    simp only [List.map_cons, envS]
    cases h : k == t with
    | true => exact .inl (by rw [show k = t by simpa using h])
    | false => exact envS_le e ts k

theorem envS_mem : ∀ (ts : List Nat) (vs : List PV) (k : Nat), envS ts vs k ∈ vs ∨ envS ts vs k = .any
  | t :: ts, v :: vs, k => by
    simp only [envS]
    cases k == t with
    | true => exact .inl List.mem_cons_self
    | false => exact (envS_mem ts vs k).imp (List.mem_cons_of_mem _) id
  | [], _, _ => .inr (by unfold envS; rfl)
  | _ :: _, [], _ => .inr (by unfold envS; rfl)

theorem envS_low {n : Nat} {ts : List Nat} {vs : List PV} (h : ∀ v ∈ vs, Low n v) (k : Nat) : Low n (envS ts vs k) := by
  rcases envS_mem ts vs k with h1 | h1
  · exact h _ h1
  · rw [h1]; exact .any

/-- A LOOP: some slots hold V s and the objects are Hp s at its head; new objects are let go. -/
theorem aw_loop3 {P : Program} {gl : Glob} (hgl : GlobLow gl) {n : Nat} {x : Code} {Q : Ex → Env → Heap → Prop} {e : Env} {H : Heap} {σ : Type} (slots : List Nat) (I : σ → Prop) (V : σ → List PV) (Hp : σ → Heap) (m : σ → Nat) (s0 : σ)
    (h0 : I s0) (he : slots.map e = V s0) (hH : H = Hp s0)
    (round : ∀ s, I s → AW P gl n x (fun ex e' H' => match ex with
      | .normal => ∃ s' G, m s' < m s ∧ I s' ∧ slots.map e' = V s' ∧ H' = Hp s' ++ G ∧ (Hp s).length ≤ (Hp s').length ∧ (G = [] ∨ ((∀ v ∈ V s', Low (Hp s').length v) ∧ ∀ (o : Nat) cs, (Hp s')[o]? = some (.cells cs) → ∀ x ∈ cs, Low (Hp s').length x))
      | .exit i => Q (.exit i) (envS slots (slots.map e')) H'
      | .ret => Q .ret (envS slots (slots.map e')) H') (envS slots (V s)) (Hp s)) : AW P gl n (.loop x) Q e H := by
  refine aw_loop2 (σ := σ) I (fun s => envS slots (V s)) Hp m s0 h0 (by rw [← he]; exact envS_le e slots) hH fun s hI => ?_
  have key : AW P gl n x (fun ex e' H' => match ex with
      | .normal => ∃ s', m s' < m s ∧ I s' ∧ (∃ G, slots.map e' = V s' ∧ H' = Hp s' ++ G ∧ (Hp s).length ≤ (Hp s').length ∧ (G = [] ∨ ((∀ v ∈ V s', Low (Hp s').length v) ∧ ∀ (o : Nat) cs, (Hp s')[o]? = some (.cells cs) → ∀ x ∈ cs, Low (Hp s').length x)))
      | .exit i => Q (.exit i) (envS slots (slots.map e')) H'
      | .ret => Q .ret (envS slots (slots.map e')) H') (envS slots (V s)) (Hp s) := (round s hI).mono fun ex e' H' h => by
    cases ex with
    | normal => obtain ⟨s', G, h1, h2, h3⟩ := h; exact ⟨s', h1, h2, G, h3⟩
    | exit i => exact h
    | ret => exact h
  intro hd g a w hst
  refine wp_mono (key hd g a w hst) ?_
  rintro ex a' w' ⟨ex', g', e', H', k0, k1, k2, k4⟩
  cases ex' with
  | exit i => exact ⟨.exit i, g', _, H', k0, k1.weaken (envS_le e' slots), k2, k4⟩
  | ret => exact ⟨.ret, g', _, H', k0, k1.weaken (envS_le e' slots), k2, k4⟩
  | normal =>
    obtain ⟨s', h1, h2, G, h3, rfl, h5, h6⟩ := k4
    have k5 := k1.weaken (envS_le e' slots)
    rw [h3] at k5
    rcases h6 with rfl | ⟨h6, h7⟩
    · rw [List.append_nil] at k5 k2
      exact ⟨.normal, g', _, _, k0, k5, k2, s', h1, h2, rfl, rfl⟩
    · have hlow : LowS (envS slots (V s')) (Hp s') := ⟨fun t => envS_low h6 t, h7⟩
      have hS' := k5.sim
      refine ⟨.normal, g'.cutAt (Hp s').length, _, Hp s', k0, ⟨?_, ?_, ⟨k5.env.1, fun t => (k5.env.2 t).cutAt (hlow.1 t)⟩, k5.dfr⟩, ?_, s', h1, h2, rfl, rfl⟩
      · refine ⟨rfl, fun o o' ob ob' b h1 h2 => by rw [blk_cut]; exact hS'.inj o o' ob ob' b (get_pre h1) (get_pre h2), fun o cs h1 => ?_, fun o h1 => hS'.tok o (get_pre h1), hS'.imm, fun o r h1 => hS'.abs o r (get_pre h1)⟩
        obtain ⟨⟨C, ty, e1, e2⟩, e3⟩ := hS'.cells o cs (get_pre h1)
        exact ⟨⟨C, ty, e1, e2.1, fun q y u hy hu => (e2.2 q y u hy hu).cutAt (hlow.2 o cs h1 y (List.mem_iff_getElem?.2 ⟨q, hy⟩))⟩, e3⟩
      · intro k cs hk
        refine ⟨(k5.glob k cs hk).1, fun q x hx => ?_⟩
        obtain ⟨h1, c, h2, h3⟩ := (k5.glob k cs hk).2 q x hx
        refine ⟨h1, c, h2, h3.cutAt ?_⟩
        have hz := hgl k cs hk x (List.mem_iff_getElem?.2 ⟨q, hx⟩)
        exact hz.up
      · have hn : g.n = (Hp s).length := hst.sim.n
        refine ⟨⟨by rw [hn]; exact h5, k2.gx.bk, k2.gx.en, k2.gx.sz, k2.gx.imm, k2.gx.cell⟩, k2.size, fun b hb ho => ?_, k2.frame, k2.os, k2.tape, k2.output, k2.im⟩
        obtain ⟨o, ob, j1, j2, j3⟩ := ho
        rw [blk_cut] at j3
        exact k2.ow b hb ⟨o, ob, get_pre j1, j2, j3⟩

/-- a piece of code by its condition; some slots are asked behind it -/
theorem aw_of_wpc {P : Program} {gl : Glob} {n : Nat} {T : Tab} {L : LTab} (hn : Oper → Nat) (hT : TabOk P gl T) {c : Code} (hL : LOk P gl n c [] L) (slots : List Nat) {e : Env} {H : Heap} {R : Ex → List PV → Heap → Prop} {Q : Ex → Env → Heap → Prop}
    (h : wpc br P gl T L hn c [] e H (fun ex e' H' => R ex (slots.map e') H')) (hR : ∀ ex e' H', R ex (slots.map e') H' → Q ex e' H') : AW P gl n c Q e H :=
  (wpc_sound hT c [] hL _ _ _ h).mono hR

/-- what a round of a loop must bring -/
def loopR {σ : Type} (Q : Ex → Env → Heap → Prop) (slots : List Nat) (I : σ → Prop) (V : σ → List PV) (Hp : σ → Heap) (m : σ → Nat) (s : σ) : Ex → List PV → Heap → Prop := fun ex vs H' => match ex with
  | .normal => ∃ s', m s' < m s ∧ I s' ∧ vs = V s' ∧ ∃ G, H' = Hp s' ++ G ∧ (Hp s).length ≤ (Hp s').length ∧ (G = [] ∨ ((∀ v ∈ V s', Low (Hp s').length v) ∧ ∀ (o : Nat) cs, (Hp s')[o]? = some (.cells cs) → ∀ x ∈ cs, Low (Hp s').length x))
  | .exit i => Q (.exit i) (envS slots vs) H'
  | .ret => Q .ret (envS slots vs) H'

theorem aw_loop4 {P : Program} {gl : Glob} (hgl : GlobLow gl) {n : Nat} {T : Tab} (hT : TabOk P gl T) {L : LTab} {hn : Oper → Nat} {x : Code} (hL : LOk P gl n x [] L) {Q : Ex → Env → Heap → Prop} {e : Env} {H : Heap} {σ : Type} (slots : List Nat) (I : σ → Prop) (V : σ → List PV) (Hp : σ → Heap) (m : σ → Nat) (s0 : σ)
    (h0 : I s0) (he : slots.map e = V s0) (hH : H = Hp s0)
    (round : ∀ s, I s → Holds (wpc br P gl T L hn x [] (envS slots (V s)) (Hp s) (fun ex e' H' => loopR Q slots I V Hp m s ex (slots.map e') H'))) : AW P gl n (.loop x) Q e H := by
  refine aw_loop3 hgl slots I V Hp m s0 h0 he hH fun s hI => (wpc_sound hT x [] hL _ _ _ (round s hI).out).mono fun ex e' H' h => ?_
  cases ex with
  | normal => obtain ⟨s', h1, h2, h3, G, h4⟩ := h; exact ⟨s', G, h1, h2, h3, h4⟩
  | exit i => exact h
  | ret => exact h

theorem low_int {n : Nat} {k : IntKind} {a : Int} : Low n (.int k a) ↔ True := ⟨fun _ => trivial, fun _ => .int _ _⟩
theorem low_bool {n : Nat} {b : Bool} : Low n (.bool b) ↔ True := ⟨fun _ => trivial, fun _ => .bool _⟩
theorem low_str {n : Nat} {b : ByteArray} : Low n (.str b) ↔ True := ⟨fun _ => trivial, fun _ => .str _⟩
theorem low_agg {n : Nat} {cs : List PV} : Low n (.agg cs) ↔ ∀ x ∈ cs, Low n x := ⟨fun h => by cases h with | agg _ h => exact h, .agg _⟩
theorem low_tup {n : Nat} {cs : List PV} : Low n (.tup cs) ↔ ∀ x ∈ cs, Low n x := ⟨fun h => by cases h with | tup _ h => exact h, .tup _⟩
theorem low_iptr {n : Nat} {cs : List PV} : Low n (.iptr cs) ↔ ∀ x ∈ cs, Low n x := ⟨fun h => by cases h with | iptr _ h => exact h, .iptr _⟩
theorem low_fn {n f : Nat} {cs : List PV} : Low n (.fn f cs) ↔ ∀ x ∈ cs, Low n x := ⟨fun h => by cases h with | fn _ _ h => exact h, .fn _ _⟩
theorem low_no {n : Nat} {es : List (List PV)} : Low n (.list es .no) ↔ ∀ x ∈ es.flatten, Low n x := ⟨fun h => by cases h with | list _ _ _ h => exact h, .list _ _ (fun _ h => by cases h)⟩
theorem low_exact {n : Nat} {es : List (List PV)} : Low n (.list es .exact) ↔ ∀ x ∈ es.flatten, Low n x := ⟨fun h => by cases h with | list _ _ _ h => exact h, .list _ _ (fun _ h => by cases h)⟩
theorem low_ptr {n o off : Nat} : Low n (.ptr o off) ↔ o < n := ⟨fun h => by cases h with | ptr _ _ h => exact h, .ptr _ _⟩
theorem low_arr {n o off l c : Nat} : Low n (.arr o off l c) ↔ o < n := ⟨fun h => by cases h with | arr _ _ _ _ h => exact h, .arr _ _ _ _⟩

/-- a function that is handed no object: what it answers -/
theorem spure {P : Program} {gl : Glob} (hgl : GlobLow gl) {f : FuncId} {args : List PV} {r : PV} {K : PV → Prop} (ha : ∀ x ∈ args, Low 0 x) (hr : Low 0 r) (h : ACalls P gl f args [] (fun x _ => x = r)) (hk : K r) : ∃ r, PCall P gl f args r ∧ K r :=
  ⟨r, .alone hgl ha hr h, hk⟩

theorem wrap_i64 {n : Int} (h1 : -9223372036854775808 ≤ n) (h2 : n ≤ 9223372036854775807) : IntKind.wrap .i64 n = n := by
  simp only [IntKind.wrap, IntKind.bits, IntKind.signed]; simp; omega
theorem wrap_u64 {n : Int} (h1 : 0 ≤ n) (h2 : n < 18446744073709551616) : IntKind.wrap .u64 n = n := by
  simp only [IntKind.wrap, IntKind.bits, IntKind.signed]; simp; omega
theorem wrap_u32 {n : Int} (h1 : 0 ≤ n) (h2 : n < 4294967296) : IntKind.wrap .u32 n = n := by
  simp only [IntKind.wrap, IntKind.bits, IntKind.signed]; simp; omega
theorem wrap_u8 {n : Int} (h1 : 0 ≤ n) (h2 : n < 256) : IntKind.wrap .u8 n = n := by
  simp only [IntKind.wrap, IntKind.bits, IntKind.signed]; simp; omega
theorem wrap_i32 {n : Int} (h1 : -2147483648 ≤ n) (h2 : n ≤ 2147483647) : IntKind.wrap .i32 n = n := by
  simp only [IntKind.wrap, IntKind.bits, IntKind.signed]; simp; omega
theorem wrap_i64_range (n : Int) : -9223372036854775808 ≤ IntKind.wrap .i64 n ∧ IntKind.wrap .i64 n ≤ 9223372036854775807 := by
  simp only [IntKind.wrap, IntKind.bits, IntKind.signed]; simp; omega
theorem wrap_u64_range (n : Int) : 0 ≤ IntKind.wrap .u64 n ∧ IntKind.wrap .u64 n < 18446744073709551616 := by
  simp only [IntKind.wrap, IntKind.bits, IntKind.signed]; simp; omega
theorem wrap_i64_eq (n : Int) : IntKind.wrap .i64 n = (if n % 18446744073709551616 ≥ 9223372036854775808 then n % 18446744073709551616 - 18446744073709551616 else n % 18446744073709551616) := by
  simp only [IntKind.wrap, IntKind.bits, IntKind.signed]; simp
theorem wrap_u64_eq (n : Int) : IntKind.wrap .u64 n = n % 18446744073709551616 := by
  simp only [IntKind.wrap, IntKind.bits, IntKind.signed]; simp

theorem br_if (b : Bool) (X Y : Prop) : br b X Y = if b = true then X else Y := by cases b <;> rfl

def bodyOf (fn : Func) : Code := fn.body.getD .skip
def subOf (p : List Nat) (c : Code) : Code := match sub p c with
  | some (.loop x) => x
  | _ => .skip
theorem sub_of {p : List Nat} {c : Code} (h : (match sub p c with | some (.loop _) => true | _ => false) = true) : sub p c = some (.loop (subOf p c)) := by
  unfold subOf
  split at h
  · rename_i x hx; rw [hx]
  · cases h

theorem acalls_of_wpc2 {P : Program} {gl : Glob} {f : FuncId} {fn : Func} {T : Tab} {L : LTab} (hn : Oper → Nat) (hf : P.funcs[f]? = some fn) (hb : fn.body.isSome = true) (hd : dstAll fn.ntmps (bodyOf fn) = true) {args : List PV} (hsz : Nat.ble args.length fn.ntmps = true) {H : Heap} {K : PV → Heap → Prop}
    (hT : TabOk P gl T) (hL : LOk P gl fn.ntmps (bodyOf fn) [] L) (h : Holds (wpc br P gl T L hn (bodyOf fn) [] (env0 args) H (resQ P fn.results.toList K))) : ACalls P gl f args H K :=
  acalls_of_wpc hn hf (by unfold bodyOf; cases hq : fn.body with
    | none => rw [hq] at hb; cases hb
    | some c => rfl) hd (Nat.le_of_ble_eq_true hsz) hT hL h.out

theorem gnone_low : GlobLow (fun _ => none) := fun k cs h => by cases h

#print axioms aw_loop3
end Go.AM

/-! AM, part 25: what a row lays of a table of whole numbers. -/
namespace Go.AM
open Go

theorem cells_of_ints {H : Type} {enc : TypeId × Value → H} {P : Program} {w : World} {base : Nat} {sp : Nat → Bool} {held : Bool} {fuel n : Nat} {t e : TypeId} {k : IntKind} {cs : List Value} {ns : List Int} {p : List MemPlace}
    (ht : P.underlying t = some (.array n e)) (he : P.underlying e = some (.int k)) (h1 : P.cellsOf e = 1) (hn : P.cellsOf t = n)
    (hd : DataW.trod enc P w base sp held fuel t cs = some (.agg (ns.map fun m => .lit (.int k m)), p)) : cs = ns.map (Value.int k) := by
  obtain ⟨xs, m, rfl, hx, hl, hs, hi⟩ := DataW.trod_array ht hd
  have hxs : xs.map (·.1) = ns.map fun m => .lit (.int k m) := by
    have := congrArg Prod.fst hx
    simpa using this.symm
  have hlen : xs.length = ns.length := by simpa using congrArg List.length hxs
  apply List.ext_getElem?
  intro i
  by_cases hin : i < n
  · have h2 := hi i hin
    rw [h1, Nat.mul_one] at h2
    have hc : i < cs.length := by rw [hl, hn]; exact hin
    have hd1 : (cs.drop i).take 1 = [cs[i]] := by
      rw [List.drop_eq_getElem_cons hc]; rfl
    have hix : i < xs.length := by omega
    rw [hd1, List.getElem?_eq_getElem hix] at h2
    obtain ⟨q, e1, e2, _⟩ := DataW.trod_int he h2
    have e3 : (xs.map (·.1))[i]? = (ns.map fun m => DataW.lit (H := H) (.int k m))[i]? := by rw [hxs]
    rw [List.getElem?_map, List.getElem?_eq_getElem hix, e2, List.getElem?_map, List.getElem?_eq_getElem (by omega)] at e3
    simp only [Option.map_some, Option.some.injEq, DataW.lit.injEq, Lit.int.injEq, true_and] at e3
    rw [List.getElem?_eq_getElem hc, List.getElem?_map, List.getElem?_eq_getElem (by omega), ← e3]
    simp only [List.cons.injEq, and_true] at e1
    rw [e1]; rfl
  · rw [List.getElem?_eq_none (by rw [hl, hn]; omega), List.getElem?_eq_none (by simp; omega)]

/-- one table, laid: its cells in the world -/
theorem table_of_laid {P : Program} {W : World} {name : String} {d : DataW Unit} {L : List (String × DataW Unit)} {ns : List Int} {k : IntKind} {g n : Nat} {t e : TypeId}
    (hg : P.globalNamed name = some g) (htg : (P.globals[g]?).map (·.type) = some t) (ht : P.underlying t = some (.array n e)) (he : P.underlying e = some (.int k)) (h1 : P.cellsOf e = 1) (hn : P.cellsOf t = n)
    (hd : d = .agg (ns.map fun m => .lit (.int k m))) {ps : List MemPlace} (h : DataW.LaidVars P W ((name, d) :: L) ps) :
    (∀ q, q < (ns.map (Value.int k)).length → W.cell? ⟨g, q, none⟩ = (ns.map (Value.int k))[q]?) ∧ ∃ ps', DataW.LaidVars P W L ps' := by
  obtain ⟨g', t', cs, fuel, p, q, hg', ht', hvar, hd', hr, _⟩ := h
  obtain rfl := Option.some.inj (hg.symm.trans hg')
  obtain rfl := Option.some.inj (htg.symm.trans ht')
  subst hd
  have hc := cells_of_ints ht he h1 hn hd'
  refine ⟨fun i hi => ?_, _, hr⟩
  rw [← hc, Array.getElem?_toList]
  exact World.var?_cell hg hvar i

theorem relL_ints {g : Gh} {w : World} (k : IntKind) : ∀ ns : List Int, RelL g w (ns.map (PV.int k)) (ns.map (Value.int k))
  | [] => .nil
  | n :: ns => .cons (.int k n) (relL_ints k ns)

#print axioms table_of_laid
end Go.AM

/-! AM, part 26: rows of whole numbers; a row that a function made and answers with. -/
namespace Go.AM
open Go

/-- a list of whole numbers -/
def en1 (k : IntKind) (ns : List Int) : List (List PV) := ns.map fun n => [PV.int k n]

theorem en1_length (k : IntKind) (ns : List Int) : (en1 k ns).length = ns.length := by simp [en1]
theorem en1_uni (k : IntKind) (ns : List Int) : uni 1 (en1 k ns) := by
  intro e he
  simp only [en1, List.mem_map] at he
  obtain ⟨n, _, rfl⟩ := he; rfl
theorem en1_flat (k : IntKind) (ns : List Int) : (en1 k ns).flatten = ns.map (PV.int k) := by
  induction ns with
  | nil => rfl
  | cons n ns ih => simp only [en1, List.map_cons, List.flatten_cons] at ih ⊢; rw [ih]; rfl
theorem en1_get (k : IntKind) (ns : List Int) (i : Nat) (h : i < ns.length) : (en1 k ns).getD i [] = [PV.int k (ns.getD i 0)] := by
  rw [List.getD_eq_getElem?_getD, en1, List.getElem?_map, List.getElem?_eq_getElem h, List.getD_eq_getElem?_getD, List.getElem?_eq_getElem h]; rfl
theorem en1_in (k : IntKind) (ns : List Int) (i : Int) (h0 : 0 ≤ i) (h : i < ns.length) : InL (en1 k ns) 1 i :=
  ⟨h0, by rw [en1_length]; omega, en1_uni k ns, by decide⟩
theorem en1_append (k : IntKind) (ns ms : List Int) : en1 k ns ++ en1 k ms = en1 k (ns ++ ms) := by simp [en1]
theorem en1_take (k : IntKind) (ns : List Int) (n : Nat) : (en1 k ns).take n = en1 k (ns.take n) := by simp [en1, List.map_take]
theorem en1_drop (k : IntKind) (ns : List Int) (n : Nat) : (en1 k ns).drop n = en1 k (ns.drop n) := by simp [en1, List.map_drop]
theorem low_en1 {n : Nat} (k : IntKind) (ns : List Int) : ∀ x ∈ (en1 k ns).flatten, Low n x := by
  rw [en1_flat]; intro x hx
  simp only [List.mem_map] at hx
  obtain ⟨m, _, rfl⟩ := hx
  exact .int _ _
theorem fit_en1 (k : IntKind) (m : Int) : fitX [CK.int k] 0 [PV.int k m] = true := by simp [fitX, fit1]
theorem cI_en1 (k : IntKind) (m : Int) : cI [PV.int k m] 0 = m := rfl

theorem fit_drop (k : IntKind) (ns : List Int) (i : Nat) (h : i < ns.length) : fitX [CK.int k] 0 (List.drop i (ns.map (PV.int k))) = true := by
  simp only [fitX, Bool.and_true, List.getElem?_drop, Nat.add_zero, List.getElem?_map, List.getElem?_eq_getElem h, Option.map_some, fit1, beq_self_eq_true]
theorem cI_drop (k : IntKind) (ns : List Int) (i : Nat) : cI (List.drop i (ns.map (PV.int k))) 0 = ns.getD i 0 := by
  unfold cI
  simp only [List.getElem?_drop, Nat.add_zero, List.getElem?_map, List.getD_eq_getElem?_getD]
  cases ns[i]? <;> rfl
theorem fit_get (k : IntKind) (ns : List Int) (i : Nat) (h : i < ns.length) : fitX [CK.int k] 0 ((en1 k ns).getD i []) = true := by rw [en1_get k ns i h]; exact fit_en1 k _
theorem cI_get (k : IntKind) (ns : List Int) (i : Nat) : cI ((en1 k ns).getD i []) 0 = ns.getD i 0 := by
  rcases Nat.lt_or_ge i ns.length with h | h
  · rw [en1_get k ns i h]; rfl
  · rw [List.getD_eq_getElem?_getD, List.getD_eq_getElem?_getD, List.getElem?_eq_none (by rw [en1_length]; exact h), List.getElem?_eq_none h]; rfl

/-- the cells of whole numbers -/
theorem ints_len (k : IntKind) (ns : List Int) : (ns.map (PV.int k)).length = ns.length := by simp
theorem over_ints (k : IntKind) (ns : List Int) (i : Nat) (m : Int) (h : i < ns.length) : over (ns.map (PV.int k)) i [PV.int k m] = (ns.set i m).map (PV.int k) := by
  unfold over
  apply List.ext_getElem?
  intro j
  simp only [List.map_set]
  rw [List.getElem?_set]
  by_cases hj : j < i
  · rw [if_neg (by omega), List.append_assoc, List.getElem?_append_left (by simp; omega), List.getElem?_take, if_pos hj]
  · by_cases he : i = j
    · subst he
      rw [if_pos rfl, if_pos (by simpa using h), List.append_assoc, List.getElem?_append_right (by simp; omega)]
      have : min i ns.length = i := by omega
      simp [this]
    · rw [if_neg he, List.append_assoc, List.getElem?_append_right (by simp; omega), List.getElem?_append_right (by simp; omega), List.getElem?_drop]
      congr 1
      simp
      omega
theorem low_ints {n : Nat} (k : IntKind) (ns : List Int) : ∀ x ∈ ns.map (PV.int k), Low n x := by
  intro x hx
  simp only [List.mem_map] at hx
  obtain ⟨m, _, rfl⟩ := hx
  exact .int _ _
theorem flat_rep (k : IntKind) (n : Nat) (m : Int) : (List.replicate n [PV.int k m]).flatten = (List.replicate n m).map (PV.int k) := by
  induction n with
  | zero => rfl
  | succ n ih => simp only [List.replicate_succ, List.flatten_cons, ih]; simp

/-- a list whose spare room nobody may use -/
def NT (t : Tail) : Prop := ∀ o, t ≠ .tok o
theorem NT.no : NT .no := fun _ h => by cases h
theorem NT.exact : NT .exact := fun _ h => by cases h
theorem low_list {n : Nat} {es : List (List PV)} {t : Tail} (ht : NT t) (h : ∀ x ∈ es.flatten, Low n x) : Low n (.list es t) := .list _ _ (fun o e => absurd e (ht o)) h
theorem low_list1 {n : Nat} {ns : List Int} {k : IntKind} {t : Tail} (ht : NT t) : Low n (.list (en1 k ns) t) := low_list ht (low_en1 k ns)

theorem acalls_freeze {P : Program} {gl : Glob} {f : FuncId} {args : List PV} {K : PV → Prop} (h : ACalls P gl f args [] (fun x H' => ∃ (o len cap sz : Nat) (cs rest : List PV) (es : List (List PV)), x = .arr o 0 len cap ∧ H'[o]? = some (.cells cs) ∧ uni sz es ∧ es.length = len ∧ len ≤ cap ∧ cs = es.flatten ++ rest ∧ K (.list es .no))) :
    ACalls P gl f args [] (fun x _ => K x) := by
  intro g w vs hS hG hR
  refine (h g w vs hS hG hR).mono ?_
  rintro e w' ⟨v, g', H', x, rfl, hS', hX, hr, o, len, cap, sz, cs, rest, es, rfl, ho, hu, hl, hc, hcs, hk⟩
  obtain ⟨g2, k1, k2, k3⟩ := hS'.freeze ho
  cases hr with
  | arr _ _ _ _ hlt =>
    refine ⟨_, g2, _, .list es .no, rfl, k1, hX.trans k2, ?_, hk⟩
    have hbk : g'.bk o = g2.bk o := (k2.gx.bk o hlt).symm
    rw [hcs] at k3
    subst hl
    refine Rel.list_iff.2 ⟨some ⟨g'.bk o, 0, none⟩, cap, rfl, uni_eq hu, hc, trivial, .inr ⟨_, rfl, k3.front⟩⟩

#print axioms acalls_freeze
end Go.AM

/-! AM, part 27: a loop that makes rows by append: the tokens of its own are numbered anew at its head. -/
namespace Go.AM
open Go

/-- a value, its token numbered anew -/
def RelabV (n0 : Nat) (ρ : Nat → Nat) (x' x : PV) : Prop :=
  (x' = x ∧ Low n0 x) ∨ ∃ es o, x = .list es (.tok o) ∧ x' = .list es (.tok (ρ o)) ∧ n0 ≤ o ∧ ∀ y ∈ es.flatten, Low n0 y

/-- what stands at a round's end, and what it is at the head again -/
structure Relab (n0 : Nat) (vs' : List PV) (H' : Heap) (vs : List PV) (H : Heap) : Prop where
  len : n0 ≤ H.length
  base : ∀ o, o < n0 → H[o]? = H'[o]? ∧ ∀ cs, H[o]? = some (.cells cs) → ∀ x ∈ cs, Low n0 x
  ex : ∃ ρ : Nat → Nat, (∀ o, n0 ≤ o → o < H.length → n0 ≤ ρ o ∧ H[o]? = some .tok ∧ H'[ρ o]? = some .tok) ∧ (∀ o o', n0 ≤ o → o < H.length → n0 ≤ o' → o' < H.length → ρ o = ρ o' → o = o') ∧
    vs'.length = vs.length ∧ (∀ (q : Nat) (x' x : PV), vs'[q]? = some x' → vs[q]? = some x → RelabV n0 ρ x' x) ∧ ∀ (q : Nat) (es : List (List PV)) (o : Nat), vs[q]? = some (PV.list es (.tok o)) → o < H.length

theorem St.relab {gl : Glob} (hgl : GlobLow gl) {n : Nat} {g0 g : Gh} {H0 H' H : Heap} {w0 w : World} {slots : List Nat} {vs' vs : List PV} {a : Act} (hst : St gl n g (envS slots vs') H' a w) (hx : Ext g0 H0 w0 g H' w) (hn : g0.n = H0.length)
    (hr : Relab H0.length vs' H' vs H) : ∃ g3, St gl n g3 (envS slots vs) H a w ∧ Ext g0 H0 w0 g3 H w := by
  obtain ⟨hlen, hbase, ρ, hρ, hinj, hvl, hv, hvt⟩ := hr
  have hS := hst.sim
  have hn0 : H0.length ≤ g.n := by rw [← hn]; exact hx.gx.n
  let τ : Nat → Nat := fun o => if o < H0.length then o else ρ o
  have hτ : ∀ (o : Nat) ob, H[o]? = some ob → H'[τ o]? = some ob := by
    intro o ob ho
    by_cases h : o < H0.length
    · simp only [τ, if_pos h]; rw [← (hbase o h).1]; exact ho
    · have hlt := (List.getElem?_eq_some_iff.1 ho).1
      obtain ⟨_, h2, h3⟩ := hρ o (by omega) hlt
      simp only [τ, if_neg h]
      rw [h2] at ho; cases ho; exact h3
  let g3 : Gh := ⟨H.length, fun o => g.bk (τ o), fun o => g.en (τ o), fun o => g.sz (τ o), g.imm, fun o => g.fp (τ o)⟩
  have hb3 : ∀ ob o b, blk g3 ob o b = blk g ob (τ o) b := fun ob o b => by cases ob <;> rfl
  have hτ0 : ∀ o, o < H0.length → τ o = o := fun o h => by simp only [τ, if_pos h]
  have gx0 : Gext (g.cutAt H0.length) w g3 w :=
    ⟨hlen, fun o ho => by show g.bk (τ o) = _; rw [hτ0 o ho]; rfl, fun o ho => by show g.en (τ o) = _; rw [hτ0 o ho]; rfl, fun o ho => by show g.sz (τ o) = _; rw [hτ0 o ho]; rfl, fun _ _ h => h, fun _ _ _ => rfl⟩
  have up : ∀ {x : PV} {v : Value}, Rel g w x v → Low H0.length x → Rel g3 w x v := fun h hl => (h.cutAt hl).mono gx0
  refine ⟨g3, ⟨?_, ?_, ⟨hst.env.1, fun t => ?_⟩, hst.dfr⟩, ?_⟩
  · refine ⟨rfl, fun o o' ob ob' b h1 h2 h3 h4 h5 h6 => ?_, fun o cs h1 => ?_, fun o h1 => ?_, hS.imm, fun o r h1 => hS.abs (τ o) r (hτ o _ h1)⟩
    · rw [hb3] at h5 h6
      have e := hS.inj (τ o) (τ o') ob ob' b (hτ o ob h1) (hτ o' ob' h2) h3 h4 h5 h6
      have l1 := (List.getElem?_eq_some_iff.1 h1).1
      have l2 := (List.getElem?_eq_some_iff.1 h2).1
      by_cases c1 : o < H0.length <;> by_cases c2 : o' < H0.length <;> simp only [τ, c1, c2, if_true, if_false] at e
      · exact e
      · have := (hρ o' (by omega) l2).1; omega
      · have := (hρ o (by omega) l1).1; omega
      · exact hinj o o' (by omega) l1 (by omega) l2 e
    · have c1 : o < H0.length := by
        rcases Nat.lt_or_ge o H0.length with h | h
        · exact h
        · have l1 := (List.getElem?_eq_some_iff.1 h1).1
          rw [(hρ o h l1).2.1] at h1; cases h1
      have h2 := hτ o _ h1
      obtain ⟨⟨C, ty, e1, e2⟩, e3⟩ := hS.cells (τ o) cs h2
      exact ⟨⟨C, ty, e1, e2.1, fun q y u hy hu => up (e2.2 q y u hy hu) ((hbase o c1).2 cs h1 y (List.mem_iff_getElem?.2 ⟨q, hy⟩))⟩, e3⟩
    · exact hS.tok (τ o) (hτ o _ h1)
  · intro k cs hk
    refine ⟨(hst.glob k cs hk).1, fun q x hq => ?_⟩
    obtain ⟨h1, c, h2, h3⟩ := (hst.glob k cs hk).2 q x hq
    exact ⟨h1, c, h2, up h3 (hgl k cs hk x (List.mem_iff_getElem?.2 ⟨q, hq⟩)).up⟩
  · -- the slots
    have key : ∀ (ts : List Nat) (us' us : List PV), us'.length = us.length → (∀ (q : Nat) (x' x : PV), us'[q]? = some x' → us[q]? = some x → RelabV H0.length ρ x' x) → (∀ (q : Nat) (es : List (List PV)) (o : Nat), us[q]? = some (PV.list es (.tok o)) → o < H.length) →
        (∀ v, Rel g w (envS ts us' t) v → Rel g3 w (envS ts us t) v) := by
      intro ts
      induction ts with
      | nil => intro us' us _ _ _ v h; unfold envS at h ⊢; exact .any v
      | cons k ts ih =>
        intro us' us hl hu ht v h
        cases us' with
        | nil =>
          cases us with
          | nil => unfold envS; exact .any v
          | cons _ _ => simp at hl
        | cons x' us' =>
          cases us with
          | nil => simp at hl
          | cons x us =>
            simp only [envS] at h ⊢
            cases hk : t == k with
            | true =>
              rw [hk] at h
              simp only at h ⊢
              rcases hu 0 x' x rfl rfl with ⟨rfl, hlow⟩ | ⟨es, o, rfl, rfl, ho, hlow⟩
              · exact up h hlow
              · have hol := ht 0 es o rfl
                obtain ⟨a', cap, rfl, h1, h2, h3, h4⟩ := Rel.list_iff.1 h
                refine Rel.list_iff.2 ⟨a', cap, rfl, h1, h2, ?_, ?_⟩
                · obtain ⟨k1, A, s, k2, k3, k4, k5, k6, k7, k8⟩ := h3
                  have e : τ o = ρ o := by simp only [τ]; rw [if_neg (by omega)]
                  refine ⟨hol, A, s, k2, k3, ?_, ?_, k6, k7, ?_⟩
                  · show _ = g.bk (τ o); rw [e]; exact k4
                  · show _ = g.en (τ o); rw [e]; exact k5
                  · show _ ≤ g.sz (τ o); rw [e]; exact k8
                · refine h4.imp id ?_
                  rintro ⟨A, k1, k2, k3⟩
                  refine ⟨A, k1, k2, fun q x hq => ?_⟩
                  obtain ⟨j1, c, j2, j3⟩ := k3 q x hq
                  exact ⟨j1, c, j2, up j3 (hlow x (List.mem_iff_getElem?.2 ⟨q, hq⟩))⟩
            | false =>
              rw [hk] at h
              simp only at h ⊢
              exact ih us' us (by simpa using hl) (fun q y' y h1 h2 => hu (q + 1) y' y (by simpa using h1) (by simpa using h2)) (fun q es o h1 => ht (q + 1) es o (by simpa using h1)) v h
    exact key slots vs' vs hvl hv hvt _ (hst.env.2 t)
  · refine ⟨⟨by rw [hn]; exact hlen, fun o ho => ?_, fun o ho => ?_, fun o ho => ?_, hx.gx.imm, hx.gx.cell⟩, hx.size, fun b hb ho => ?_, hx.frame, hx.os, hx.tape, hx.output, hx.im⟩
    · show g.bk (τ o) = _; rw [hτ0 o (by rw [← hn]; exact ho)]; exact hx.gx.bk o ho
    · show g.en (τ o) = _; rw [hτ0 o (by rw [← hn]; exact ho)]; exact hx.gx.en o ho
    · show g.sz (τ o) = _; rw [hτ0 o (by rw [← hn]; exact ho)]; exact hx.gx.sz o ho
    · obtain ⟨o, ob, k1, k2, k3⟩ := ho
      rw [hb3] at k3
      exact hx.ow b hb ⟨τ o, ob, hτ o ob k1, k2, k3⟩

/-- what a round of such a loop must bring -/
def loopT {σ : Type} (Q : Ex → Env → Heap → Prop) (n0 : Nat) (slots : List Nat) (I : σ → Prop) (V : σ → List PV) (Hp : σ → Heap) (m : σ → Nat) (s : σ) : Ex → List PV → Heap → Prop := fun ex vs H' => match ex with
  | .normal => ∃ s', m s' < m s ∧ I s' ∧ Relab n0 vs H' (V s') (Hp s')
  | .exit i => Q (.exit i) (envS slots vs) H'
  | .ret => Q .ret (envS slots vs) H'

theorem aw_loop5 {P : Program} {gl : Glob} (hgl : GlobLow gl) {n : Nat} {T : Tab} (hT : TabOk P gl T) {L : LTab} {hn : Oper → Nat} {x : Code} (hL : LOk P gl n x [] L) {Q : Ex → Env → Heap → Prop} {e : Env} {H : Heap} {σ : Type} (slots : List Nat) (I : σ → Prop) (V : σ → List PV) (Hp : σ → Heap) (m : σ → Nat) (s0 : σ)
    (h0 : I s0) (he : slots.map e = V s0) (hH : H = Hp s0)
    (round : ∀ s, I s → Holds (wpc br P gl T L hn x [] (envS slots (V s)) (Hp s) (fun ex e' H' => loopT Q H.length slots I V Hp m s ex (slots.map e') H'))) : AW P gl n (.loop x) Q e H := by
  intro hd g a w hst
  simp only [dstAll] at hd
  have hng : g.n = H.length := hst.sim.n
  refine wp_loop_ghost (fun k a' w' => ∃ g' s, k = m s ∧ I s ∧ St gl n g' (envS slots (V s)) (Hp s) a' w' ∧ Ext g H w g' (Hp s) w') (m s0) ⟨g, s0, rfl, h0, by rw [← hH, ← he]; exact hst.weaken (envS_le e slots), by rw [← hH]; exact .refl g H w⟩ ?_
  rintro k a1 w1 ⟨g1, s, rfl, hI, hst1, hx1⟩
  refine wp_mono (wpc_sound hT x [] hL _ _ _ (round s hI).out hd g1 a1 w1 hst1) ?_
  rintro ex a' w' ⟨ex', g', e', H', k0, k1, k2, k3⟩
  have k1' := k1.weaken (envS_le e' slots)
  cases ex <;> cases ex' <;> first | exact k0.elim | skip
  · obtain ⟨s', hm, hI', hr⟩ := k3
    obtain ⟨g3, j1, j2⟩ := k1'.relab hgl (hx1.trans k2) hng hr
    exact ⟨m s', hm, g3, s', rfl, hI', j1, j2⟩
  · exact ⟨.exit _, g', _, H', k0, k1', hx1.trans k2, k3⟩
  · exact ⟨.ret, g', _, H', k0, k1', hx1.trans k2, k3⟩

#print axioms aw_loop5
end Go.AM

/-! AM, part 28: an answer's spare room is let go. -/
namespace Go.AM
open Go

/-- whatever reads as the one reads as the other -/
def Wk (x x' : PV) : Prop := ∀ (g : Gh) (w : World) (v : Value), Rel g w x v → Rel g w x' v

theorem Wk.refl (x : PV) : Wk x x := fun _ _ _ h => h
theorem Wk.list (es : List (List PV)) (t : Tail) : Wk (.list es t) (.list es .no) := by
  intro g w v h
  obtain ⟨a, cap, rfl, h1, h2, _, h4⟩ := Rel.list_iff.1 h
  exact Rel.list_iff.2 ⟨a, cap, rfl, h1, h2, trivial, h4⟩

inductive WkL : List PV → List PV → Prop where
  | nil : WkL [] []
  | cons {x x' : PV} {xs xs' : List PV} (h : Wk x x') (hs : WkL xs xs') : WkL (x :: xs) (x' :: xs')

theorem WkL.rel {xs xs' : List PV} (h : WkL xs xs') {g : Gh} {w : World} {vs : List Value} (hr : RelL g w xs vs) : RelL g w xs' vs := by
  induction h generalizing vs with
  | nil => exact hr
  | cons h hs ih =>
    cases vs with
    | nil => have := hr.1; simp at this
    | cons v vs =>
      refine .cons (h g w v (hr.2 0 _ _ rfl rfl)) (ih ⟨by have := hr.1; simpa using this, fun q x u h1 h2 => hr.2 (q + 1) x u (by simpa using h1) (by simpa using h2)⟩)

theorem Wk.tup {xs xs' : List PV} (h : WkL xs xs') : Wk (.tup xs) (.tup xs') := by
  intro g w v hr
  obtain ⟨vs, rfl, h1⟩ := Rel.tup_iff.1 hr
  exact Rel.tup_iff.2 ⟨vs, rfl, h.rel h1⟩

theorem Wk.agg {xs xs' : List PV} (h : WkL xs xs') : Wk (.agg xs) (.agg xs') := by
  intro g w v hr
  obtain ⟨vs, rfl, h1⟩ := Rel.agg_iff.1 hr
  exact Rel.agg_iff.2 ⟨vs, rfl, h.rel h1⟩

theorem acalls_weak {P : Program} {gl : Glob} {f : FuncId} {args : List PV} {H : Heap} {K : PV → Heap → Prop} (h : ACalls P gl f args H (fun x H' => ∃ x', Wk x x' ∧ K x' H')) : ACalls P gl f args H K := by
  intro g w vs hS hG hR
  refine (h g w vs hS hG hR).mono ?_
  rintro e w' ⟨v, g', H', x, rfl, hS', hX, hr, x', hw, hk⟩
  exact ⟨v, g', H', x', rfl, hS', hX, hw _ _ _ hr, hk⟩

#print axioms acalls_weak
end Go.AM

/-! AM, part 29: one row that grows in a loop. -/
namespace Go.AM
open Go

/-- the slots, one by one: as they are, or the growing row with its token -/
inductive RVs (n0 k : Nat) : List PV → List PV → Prop where
  | nil : RVs n0 k [] []
  | same {x : PV} {xs xs' : List PV} (h : Low n0 x) (hs : RVs n0 k xs' xs) : RVs n0 k (x :: xs') (x :: xs)
  | row {es : List (List PV)} {xs xs' : List PV} (h : ∀ y ∈ es.flatten, Low n0 y) (hs : RVs n0 k xs' xs) : RVs n0 k (.list es (.tok k) :: xs') (.list es (.tok n0) :: xs)

theorem RVs.len {n0 k : Nat} {xs' xs : List PV} (h : RVs n0 k xs' xs) : xs'.length = xs.length := by
  induction h with
  | nil => rfl
  | same _ _ ih => simp [ih]
  | row _ _ ih => simp [ih]

theorem RVs.get {n0 k : Nat} {xs' xs : List PV} (h : RVs n0 k xs' xs) : ∀ (q : Nat) (x' x : PV), xs'[q]? = some x' → xs[q]? = some x → RelabV n0 (fun _ => k) x' x := by
  induction h with
  | nil => intro q x' x h1; simp at h1
  | same hl _ ih =>
    intro q x' x h1 h2
    cases q with
    | zero => simp at h1 h2; subst h1; subst h2; exact .inl ⟨rfl, hl⟩
    | succ q => exact ih q x' x (by simpa using h1) (by simpa using h2)
  | row hl _ ih =>
    intro q x' x h1 h2
    cases q with
    | zero => simp at h1 h2; subst h1; subst h2; exact .inr ⟨_, n0, rfl, rfl, Nat.le_refl _, hl⟩
    | succ q => exact ih q x' x (by simpa using h1) (by simpa using h2)

theorem RVs.tok {n0 k : Nat} {xs' xs : List PV} (h : RVs n0 k xs' xs) : ∀ (q : Nat) (es : List (List PV)) (o : Nat), xs[q]? = some (.list es (.tok o)) → o < n0 + 1 := by
  induction h with
  | nil => intro q es o h1; simp at h1
  | same hl _ ih =>
    intro q es o h1
    cases q with
    | zero =>
      simp at h1; subst h1
      cases hl with
      | list _ _ ht _ => have := ht o rfl; omega
    | succ q => exact ih q es o (by simpa using h1)
  | row hl _ ih =>
    intro q es o h1
    cases q with
    | zero => simp at h1; obtain ⟨_, h1⟩ := h1; omega
    | succ q => exact ih q es o (by simpa using h1)

/-- behind a round: the objects below stay, the row's new token is numbered n0 again -/
theorem relab_row {n0 k : Nat} {B X : Heap} {vs' vs : List PV} (hB : B.length = n0) (hlow : ∀ (o : Nat) cs, B[o]? = some (.cells cs) → ∀ x ∈ cs, Low n0 x) (hk : n0 ≤ k) (hX : (B ++ X)[k]? = some .tok) (hv : RVs n0 k vs' vs) :
    Relab n0 vs' (B ++ X) vs (B ++ [.tok]) := by
  refine ⟨by simp; omega, fun o ho => ?_, fun _ => k, fun o h1 h2 => ?_, fun o o' h1 h2 h3 h4 _ => ?_, hv.len, hv.get, fun q es o h => ?_⟩
  · have e1 : (B ++ [Ob.tok])[o]? = B[o]? := List.getElem?_append_left (by omega)
    have e2 : (B ++ X)[o]? = B[o]? := List.getElem?_append_left (by omega)
    rw [e1, e2]
    exact ⟨rfl, fun cs hc => hlow o cs hc⟩
  · simp at h2
    have : o = B.length := by omega
    subst this
    exact ⟨hk, by simp, hX⟩
  · simp at h2 h4; omega
  · have := hv.tok q es o h
    simp; omega

/-- behind the first round of a loop that begins with no row -/
theorem low_nil_cells {n0 : Nat} {B : Heap} (h : B.all (fun ob => match ob with | .cells _ => false | _ => true) = true) : ∀ (o : Nat) cs, B[o]? = some (.cells cs) → ∀ x ∈ cs, Low n0 x := by
  intro o cs ho
  have := List.all_eq_true.1 h _ (List.mem_iff_getElem?.2 ⟨o, ho⟩)
  simp at this

#print axioms relab_row
end Go.AM

/-! AM, part 30: what stands at a place of a row, for use by simp. -/
namespace Go.AM
open Go

theorem inL_en1 (k : IntKind) (ns : List Int) (i : Nat) : InL (en1 k ns) 1 (i : Int) = (i < ns.length) := by
  apply propext
  constructor
  · intro h; have := h.2.1; rw [en1_length] at this; simpa using this
  · intro h; exact en1_in k ns i (by omega) (by omega)
theorem inL_en1_int (k : IntKind) (ns : List Int) (i : Int) : InL (en1 k ns) 1 i = (0 ≤ i ∧ i < ns.length) := by
  apply propext
  constructor
  · intro h; refine ⟨h.1, ?_⟩; have h1 := h.1; have := h.2.1; rw [en1_length] at this; omega
  · intro h; exact en1_in k ns i h.1 h.2
theorem fitg_en1 (k : IntKind) (ns : List Int) (i : Nat) : fitX [CK.int k] 0 ((en1 k ns).getD i []) = decide (i < ns.length) := by
  by_cases h : i < ns.length
  · rw [fit_get k ns i h, decide_eq_true h]
  · rw [List.getD_eq_getElem?_getD, List.getElem?_eq_none (by rw [en1_length]; omega), decide_eq_false h]
    simp [fitX, fit1]
theorem toNat_nat (i : Nat) : Int.toNat (i : Int) = i := rfl
theorem decide_natlt (i n : Nat) : decide ((i : Int) < (n : Int)) = decide (i < n) := by simp

/-- a row's end -/
theorem take_snoc {α : Type} {T : List α} {i : Nat} (d : α) (h : i < T.length) : T.take (i + 1) = T.take i ++ [T.getD i d] := by
  rw [List.take_succ_eq_append_getElem h, List.getD_eq_getElem?_getD, List.getElem?_eq_getElem h]; rfl
theorem drop_cons {α : Type} {T : List α} {i : Nat} (d : α) (h : i < T.length) : T.drop i = T.getD i d :: T.drop (i + 1) := by
  rw [List.drop_eq_getElem_cons h, List.getD_eq_getElem?_getD, List.getElem?_eq_getElem h]; rfl
theorem take_all {α : Type} {T : List α} {i : Nat} (h : ¬ i < T.length) : T.take i = T := List.take_of_length_le (by omega)
theorem drop_all {α : Type} {T : List α} {i : Nat} (h : ¬ i < T.length) : T.drop i = [] := List.drop_of_length_le (by omega)
theorem wrap_small {n : Int} (h0 : -9223372036854775808 ≤ n) (h1 : n ≤ 9223372036854775807) : IntKind.wrap .i64 n = n := wrap_i64 h0 h1
theorem wrap_succ {i n : Nat} (h : i < n) (hn : (n : Int) ≤ 4611686018427387904) : IntKind.wrap .i64 ((i : Int) + 1) = ((i + 1 : Nat) : Int) := by
  rw [wrap_i64 (by omega) (by omega)]; rfl

end Go.AM

/-! AM, part 31: readers of arguments by their types. -/
namespace Go.AM
open Go Go.RowKit

theorem list_of {α : Type} {f : α → List PV} {Q : α → Prop} : ∀ {es : List (List PV)}, (∀ r ∈ es, ∃ a, r = f a ∧ Q a) → ∃ l : List α, es = l.map f ∧ ∀ a ∈ l, Q a
  | [], _ => ⟨[], rfl, fun a h => by simp at h⟩
  | e :: es, h => by
    obtain ⟨a, h1, h2⟩ := h e List.mem_cons_self
    obtain ⟨l, h3, h4⟩ := list_of (es := es) (fun r hr => h r (List.mem_cons_of_mem _ hr))
    refine ⟨a :: l, by rw [h1, h3]; rfl, fun b hb => ?_⟩
    rcases List.mem_cons.1 hb with rfl | hb
    · exact h2
    · exact h4 b hb

variable {P : Program} {k : Nat} {t : TypeId} {xs : List PV} {x : PV}

theorem wtp_int {kd : IntKind} (hu : P.underlying t = some (.int kd)) (h : WTp P (k + 1) t xs) : ∃ n, xs = [.int kd n] ∧ kd.min ≤ n ∧ n ≤ kd.max := by
  unfold WTp at h; rw [hu] at h; exact h
theorem wtp_bool (hu : P.underlying t = some .bool) (h : WTp P (k + 1) t xs) : ∃ b, xs = [.bool b] := by
  unfold WTp at h; rw [hu] at h; exact h
theorem wtp_str (hu : P.underlying t = some .string) (h : WTp P (k + 1) t xs) : ∃ s, xs = [.str s] ∧ s.size ≤ maxLen := by
  unfold WTp at h; rw [hu] at h; exact h
theorem wtp_list {e : TypeId} (hu : P.underlying t = some (.slice e)) (h : WTp P (k + 1) t xs) : ∃ es, xs = [.list es .no] ∧ es.length ≤ maxLen ∧ ∀ r ∈ es, WTp P k e r := by
  unfold WTp at h; rw [hu] at h; exact h
theorem wtp_struct {fs : Array Field} (hu : P.underlying t = some (.struct fs)) (h : WTp P (k + 1) t xs) : WFs (WTp P k) (fs.toList.map (·.type)) xs := by
  unfold WTp at h; rw [hu] at h; exact h
theorem wtp_array {n : Nat} {e : TypeId} (hu : P.underlying t = some (.array n e)) (h : WTp P (k + 1) t xs) : WFs (WTp P k) (List.replicate n e) xs := by
  unfold WTp at h; rw [hu] at h; exact h

theorem wta_int {kd : IntKind} (hu : P.underlying t = some (.int kd)) (h : WTa P (k + 1) t x) : ∃ n, x = .int kd n ∧ kd.min ≤ n ∧ n ≤ kd.max := by
  unfold WTa at h; rw [hu] at h
  obtain ⟨n, h1, h2⟩ := wtp_int hu h
  exact ⟨n, by simpa using h1, h2⟩
theorem wta_bool (hu : P.underlying t = some .bool) (h : WTa P (k + 1) t x) : ∃ b, x = .bool b := by
  unfold WTa at h; rw [hu] at h
  obtain ⟨n, h1⟩ := wtp_bool hu h
  exact ⟨n, by simpa using h1⟩
theorem wta_str (hu : P.underlying t = some .string) (h : WTa P (k + 1) t x) : ∃ s, x = .str s ∧ s.size ≤ maxLen := by
  unfold WTa at h; rw [hu] at h
  obtain ⟨n, h1, h2⟩ := wtp_str hu h
  exact ⟨n, by simpa using h1, h2⟩
theorem wta_list {e : TypeId} (hu : P.underlying t = some (.slice e)) (h : WTa P (k + 1) t x) : ∃ es, x = .list es .no ∧ es.length ≤ maxLen ∧ ∀ r ∈ es, WTp P k e r := by
  unfold WTa at h; rw [hu] at h
  obtain ⟨n, h1, h2⟩ := wtp_list hu h
  exact ⟨n, by simpa using h1, h2⟩
theorem wta_struct {fs : Array Field} (hu : P.underlying t = some (.struct fs)) (h : WTa P (k + 1) t x) : ∃ cs, x = .agg cs ∧ WFs (WTp P k) (fs.toList.map (·.type)) cs := by
  unfold WTa at h; rw [hu] at h
  obtain ⟨cs, h1, h2⟩ := h
  exact ⟨cs, h1, wtp_struct hu h2⟩
theorem wta_array {n : Nat} {e : TypeId} (hu : P.underlying t = some (.array n e)) (h : WTa P (k + 1) t x) : ∃ cs, x = .agg cs ∧ WFs (WTp P k) (List.replicate n e) cs := by
  unfold WTa at h; rw [hu] at h
  obtain ⟨cs, h1, h2⟩ := h
  exact ⟨cs, h1, wtp_array hu h2⟩

/-- a list of whole numbers -/
theorem wtp_ints {e : TypeId} {kd : IntKind} (hu : P.underlying e = some (.int kd)) {es : List (List PV)} (h : ∀ r ∈ es, WTp P (k + 1) e r) : ∃ ns, es = en1 kd ns ∧ ∀ n ∈ ns, kd.min ≤ n ∧ n ≤ kd.max :=
  list_of (f := fun n => [PV.int kd n]) fun r hr => wtp_int hu (h r hr)
theorem wta_ints {e : TypeId} {kd : IntKind} (hu : P.underlying t = some (.slice e)) (he : P.underlying e = some (.int kd)) (h : WTa P (k + 2) t x) : ∃ ns, x = .list (en1 kd ns) .no ∧ ns.length ≤ maxLen ∧ ∀ n ∈ ns, kd.min ≤ n ∧ n ≤ kd.max := by
  obtain ⟨es, rfl, h1, h2⟩ := wta_list hu h
  obtain ⟨ns, rfl, h3⟩ := wtp_ints he h2
  exact ⟨ns, rfl, by rwa [en1_length] at h1, h3⟩
theorem wtargs_nil (h : WTargs P k [] xs) : xs = [] := h
theorem wtargs_cons {ts : List TypeId} (h : WTargs P k (t :: ts) xs) : ∃ x ys, xs = x :: ys ∧ WTa P k t x ∧ WTargs P k ts ys := h
theorem wfs_nil {R : TypeId → List PV → Prop} (h : WFs R [] xs) : xs = [] := h
theorem wfs_cons {R : TypeId → List PV → Prop} {ts : List TypeId} (h : WFs R (t :: ts) xs) : ∃ a b, xs = a ++ b ∧ R t a ∧ WFs R ts b := h

end Go.AM

/-! AM, part 32: objects under other names; a call amid other objects; wholes of blocks. -/
namespace Go.AM
open Go

/-- a value, its objects under other names -/
inductive Ren (ρ : Nat → Nat) (n : Nat) : PV → PV → Prop where
  | low {x : PV} (h : Low 0 x) : Ren ρ n x x
  | arr (o off len cap : Nat) (h : o < n) : Ren ρ n (.arr o off len cap) (.arr (ρ o) off len cap)
  | ptr (o off : Nat) (h : o < n) : Ren ρ n (.ptr o off) (.ptr (ρ o) off)
  | ltok (es : List (List PV)) (o : Nat) (h : o < n) (hl : ∀ x ∈ es.flatten, Low 0 x) : Ren ρ n (.list es (.tok o)) (.list es (.tok (ρ o)))
  | fn (f : Nat) (cs cs' : List PV) (hl : cs.length = cs'.length) (h : ∀ (q : Nat) (x y : PV), cs[q]? = some x → cs'[q]? = some y → Ren ρ n x y) : Ren ρ n (.fn f cs) (.fn f cs')
  | agg (cs cs' : List PV) (hl : cs.length = cs'.length) (h : ∀ (q : Nat) (x y : PV), cs[q]? = some x → cs'[q]? = some y → Ren ρ n x y) : Ren ρ n (.agg cs) (.agg cs')
  | tup (cs cs' : List PV) (hl : cs.length = cs'.length) (h : ∀ (q : Nat) (x y : PV), cs[q]? = some x → cs'[q]? = some y → Ren ρ n x y) : Ren ρ n (.tup cs) (.tup cs')

/-- a row of values under other names -/
inductive RenL (ρ : Nat → Nat) (n : Nat) : List PV → List PV → Prop where
  | nil : RenL ρ n [] []
  | cons {x y : PV} {xs ys : List PV} (h : Ren ρ n x y) (hs : RenL ρ n xs ys) : RenL ρ n (x :: xs) (y :: ys)

theorem RenL.length {ρ : Nat → Nat} {n : Nat} {xs ys : List PV} (h : RenL ρ n xs ys) : xs.length = ys.length := by
  induction h with
  | nil => rfl
  | cons _ _ ih => simp [ih]
theorem RenL.get {ρ : Nat → Nat} {n : Nat} {xs ys : List PV} (h : RenL ρ n xs ys) : ∀ (q : Nat) (x y : PV), xs[q]? = some x → ys[q]? = some y → Ren ρ n x y := by
  induction h with
  | nil => intro q x y h; simp at h
  | cons h _ ih =>
    intro q x y h1 h2
    cases q with
    | zero => simp at h1 h2; subst h1; subst h2; exact h
    | succ q => exact ih q x y (by simpa using h1) (by simpa using h2)
theorem RenL.low {ρ : Nat → Nat} {n : Nat} {xs : List PV} (h : ∀ x ∈ xs, Low 0 x) : RenL ρ n xs xs := by
  induction xs with
  | nil => exact .nil
  | cons x xs ih => exact .cons (.low (h x List.mem_cons_self)) (ih fun y hy => h y (List.mem_cons_of_mem _ hy))
theorem RenL.append {ρ : Nat → Nat} {n : Nat} {xs ys xs' ys' : List PV} (h : RenL ρ n xs ys) (h' : RenL ρ n xs' ys') : RenL ρ n (xs ++ xs') (ys ++ ys') := by
  induction h with
  | nil => exact h'
  | cons h _ ih => exact .cons h ih
theorem Ren.tupL {ρ : Nat → Nat} {n : Nat} {xs ys : List PV} (h : RenL ρ n xs ys) : Ren ρ n (.tup xs) (.tup ys) := .tup xs ys h.length h.get
theorem Ren.aggL {ρ : Nat → Nat} {n : Nat} {xs ys : List PV} (h : RenL ρ n xs ys) : Ren ρ n (.agg xs) (.agg ys) := .agg xs ys h.length h.get
theorem Ren.fnL {ρ : Nat → Nat} {n : Nat} {f : Nat} {xs ys : List PV} (h : RenL ρ n xs ys) : Ren ρ n (.fn f xs) (.fn f ys) := .fn f xs ys h.length h.get

/-- a ghost seen through other names -/
structure Seen (ρ : Nat → Nat) (n : Nat) (g0 g : Gh) : Prop where
  n0 : g0.n = n
  lt : ∀ o, o < n → ρ o < g.n
  bk : ∀ o, o < n → g0.bk o = g.bk (ρ o)
  en : ∀ o, o < n → g0.en o = g.en (ρ o)
  sz : ∀ o, o < n → g0.sz o = g.sz (ρ o)
  imm : g0.imm = g.imm

theorem low_cong {g g' : Gh} {w : World} {x : PV} {v : Value} (h : Rel g w x v) (hl : Low 0 x) (hi : g'.imm = g.imm) : Rel g' w x v :=
  Rel.mono (g := g.cutAt 0) (w := w) ⟨Nat.zero_le _, fun _ h => absurd h (Nat.not_lt_zero _), fun _ h => absurd h (Nat.not_lt_zero _), fun _ h => absurd h (Nat.not_lt_zero _), fun b q h => by rw [hi]; exact h, fun _ _ _ => rfl⟩ (h.cutAt hl)

theorem Ren.to {ρ : Nat → Nat} {n : Nat} {x y : PV} (hr : Ren ρ n x y) {g0 g : Gh} {w : World} (hs : Seen ρ n g0 g) : ∀ {v : Value}, Rel g0 w x v → Rel g w y v := by
  induction hr with
  | low h => intro v hv; exact low_cong hv h hs.imm.symm
  | arr o off len cap h =>
    intro v hv
    cases hv
    rw [hs.bk o h]; exact .arr _ off len cap (hs.lt o h)
  | ptr o off h =>
    intro v hv
    cases hv
    rw [hs.bk o h]; exact .ptr _ off (hs.lt o h)
  | ltok es o h hl =>
    intro v hv
    obtain ⟨a, cap, rfl, h1, h2, h3, h4⟩ := Rel.list_iff.1 hv
    refine Rel.list_iff.2 ⟨a, cap, rfl, h1, h2, ?_, h4.imp id ?_⟩
    · obtain ⟨_, A, s, k2, k3, k4, k5, k6, k7, k8⟩ := h3
      exact ⟨hs.lt o h, A, s, k2, k3, by rw [← hs.bk o h]; exact k4, by rw [← hs.en o h]; exact k5, k6, k7, by rw [← hs.sz o h]; exact k8⟩
    · rintro ⟨A, k1, k2, k3⟩
      refine ⟨A, k1, k2, fun q x hq => ?_⟩
      obtain ⟨j1, c, j2, j3⟩ := k3 q x hq
      exact ⟨by rw [← hs.imm]; exact j1, c, j2, low_cong j3 (hl x (List.mem_iff_getElem?.2 ⟨q, hq⟩)) hs.imm.symm⟩
  | fn f cs cs' hl _ ih =>
    intro v hv
    obtain ⟨vs, rfl, h1⟩ := Rel.fn_iff.1 hv
    refine Rel.fn_iff.2 ⟨vs, rfl, by rw [← hl]; exact h1.1, fun q y u hy hu => ?_⟩
    have hq : q < cs.length := by rw [hl]; exact (List.getElem?_eq_some_iff.1 hy).1
    exact ih q cs[q] y (List.getElem?_eq_getElem hq) hy (h1.2 q _ u (List.getElem?_eq_getElem hq) hu)
  | agg cs cs' hl _ ih =>
    intro v hv
    obtain ⟨vs, rfl, h1⟩ := Rel.agg_iff.1 hv
    refine Rel.agg_iff.2 ⟨vs, rfl, by rw [← hl]; exact h1.1, fun q y u hy hu => ?_⟩
    have hq : q < cs.length := by rw [hl]; exact (List.getElem?_eq_some_iff.1 hy).1
    exact ih q cs[q] y (List.getElem?_eq_getElem hq) hy (h1.2 q _ u (List.getElem?_eq_getElem hq) hu)
  | tup cs cs' hl _ ih =>
    intro v hv
    obtain ⟨vs, rfl, h1⟩ := Rel.tup_iff.1 hv
    refine Rel.tup_iff.2 ⟨vs, rfl, by rw [← hl]; exact h1.1, fun q y u hy hu => ?_⟩
    have hq : q < cs.length := by rw [hl]; exact (List.getElem?_eq_some_iff.1 hy).1
    exact ih q cs[q] y (List.getElem?_eq_getElem hq) hy (h1.2 q _ u (List.getElem?_eq_getElem hq) hu)

theorem Ren.back {ρ : Nat → Nat} {n : Nat} {x y : PV} (hr : Ren ρ n x y) {g0 g : Gh} {w : World} (hs : Seen ρ n g0 g) : ∀ {v : Value}, Rel g w y v → Rel g0 w x v := by
  induction hr with
  | low h => intro v hv; exact low_cong hv h hs.imm
  | arr o off len cap h =>
    intro v hv
    cases hv
    rw [← hs.bk o h]; exact .arr _ off len cap (by rw [hs.n0]; exact h)
  | ptr o off h =>
    intro v hv
    cases hv
    rw [← hs.bk o h]; exact .ptr _ off (by rw [hs.n0]; exact h)
  | ltok es o h hl =>
    intro v hv
    obtain ⟨a, cap, rfl, h1, h2, h3, h4⟩ := Rel.list_iff.1 hv
    refine Rel.list_iff.2 ⟨a, cap, rfl, h1, h2, ?_, h4.imp id ?_⟩
    · obtain ⟨_, A, s, k2, k3, k4, k5, k6, k7, k8⟩ := h3
      exact ⟨by rw [hs.n0]; exact h, A, s, k2, k3, by rw [hs.bk o h]; exact k4, by rw [hs.en o h]; exact k5, k6, k7, by rw [hs.sz o h]; exact k8⟩
    · rintro ⟨A, k1, k2, k3⟩
      refine ⟨A, k1, k2, fun q x hq => ?_⟩
      obtain ⟨j1, c, j2, j3⟩ := k3 q x hq
      exact ⟨by rw [hs.imm]; exact j1, c, j2, low_cong j3 (hl x (List.mem_iff_getElem?.2 ⟨q, hq⟩)) hs.imm⟩
  | fn f cs cs' hl _ ih =>
    intro v hv
    obtain ⟨vs, rfl, h1⟩ := Rel.fn_iff.1 hv
    refine Rel.fn_iff.2 ⟨vs, rfl, by rw [hl]; exact h1.1, fun q y u hy hu => ?_⟩
    have hq : q < cs'.length := by rw [← hl]; exact (List.getElem?_eq_some_iff.1 hy).1
    exact ih q y cs'[q] hy (List.getElem?_eq_getElem hq) (h1.2 q _ u (List.getElem?_eq_getElem hq) hu)
  | agg cs cs' hl _ ih =>
    intro v hv
    obtain ⟨vs, rfl, h1⟩ := Rel.agg_iff.1 hv
    refine Rel.agg_iff.2 ⟨vs, rfl, by rw [hl]; exact h1.1, fun q y u hy hu => ?_⟩
    have hq : q < cs'.length := by rw [← hl]; exact (List.getElem?_eq_some_iff.1 hy).1
    exact ih q y cs'[q] hy (List.getElem?_eq_getElem hq) (h1.2 q _ u (List.getElem?_eq_getElem hq) hu)
  | tup cs cs' hl _ ih =>
    intro v hv
    obtain ⟨vs, rfl, h1⟩ := Rel.tup_iff.1 hv
    refine Rel.tup_iff.2 ⟨vs, rfl, by rw [hl]; exact h1.1, fun q y u hy hu => ?_⟩
    have hq : q < cs'.length := by rw [← hl]; exact (List.getElem?_eq_some_iff.1 hy).1
    exact ih q y cs'[q] hy (List.getElem?_eq_getElem hq) (h1.2 q _ u (List.getElem?_eq_getElem hq) hu)

theorem RenL.to {ρ : Nat → Nat} {n : Nat} {xs ys : List PV} (h : RenL ρ n xs ys) {g0 g : Gh} {w : World} (hs : Seen ρ n g0 g) {vs : List Value} (hr : RelL g0 w xs vs) : RelL g w ys vs := by
  refine ⟨by rw [← h.length]; exact hr.1, fun q y u hy hu => ?_⟩
  have hq : q < xs.length := by rw [h.length]; exact (List.getElem?_eq_some_iff.1 hy).1
  exact (h.get q xs[q] y (List.getElem?_eq_getElem hq) hy).to hs (hr.2 q _ u (List.getElem?_eq_getElem hq) hu)
theorem RenL.back {ρ : Nat → Nat} {n : Nat} {xs ys : List PV} (h : RenL ρ n xs ys) {g0 g : Gh} {w : World} (hs : Seen ρ n g0 g) {vs : List Value} (hr : RelL g w ys vs) : RelL g0 w xs vs := by
  refine ⟨by rw [h.length]; exact hr.1, fun q y u hy hu => ?_⟩
  have hq : q < ys.length := by rw [← h.length]; exact (List.getElem?_eq_some_iff.1 hy).1
  exact (h.get q y ys[q] hy (List.getElem?_eq_getElem hq)).back hs (hr.2 q _ u (List.getElem?_eq_getElem hq) hu)

/-- an object under other names -/
inductive RenOb (ρ : Nat → Nat) (n : Nat) : Ob → Ob → Prop where
  | cells {cs cs' : List PV} (h : RenL ρ n cs cs') : RenOb ρ n (.cells cs) (.cells cs')
  | tok : RenOb ρ n .tok .tok
  | dead (ob : Ob) : RenOb ρ n .dead ob
  | abs (r : Rep) : RenOb ρ n (.abs r) (.abs r)

theorem RenOb.alive {ρ : Nat → Nat} {n : Nat} {a b : Ob} (h : RenOb ρ n a b) (ha : a.alive = true) : b.alive = true := by
  cases h <;> first | rfl | (cases ha; done)

/-- Fewer objects, under other names: X are some of H's. -/
structure Sub (ρ : Nat → Nat) (X H : Heap) : Prop where
  lt : ∀ o, o < X.length → ρ o < H.length
  inj : ∀ o o', o < X.length → o' < X.length → ρ o = ρ o' → o = o'
  ob : ∀ (o : Nat) (a : Ob), X[o]? = some a → ∃ b, H[ρ o]? = some b ∧ RenOb ρ X.length a b

/-- the ghost through the names -/
def Gh.through (g : Gh) (ρ : Nat → Nat) (n : Nat) : Gh := ⟨n, fun o => g.bk (ρ o), fun o => g.en (ρ o), fun o => g.sz (ρ o), g.imm, fun o => g.fp (ρ o)⟩

theorem blk_through (g : Gh) (ρ : Nat → Nat) (n : Nat) {N : Nat} {a b : Ob} (h : RenOb ρ N a b) (ha : a.alive = true) (o k : Nat) : blk (g.through ρ n) a o k ↔ blk g b (ρ o) k := by
  cases h <;> first | exact Iff.rfl | (cases ha; done)

theorem seen_through {g : Gh} {ρ : Nat → Nat} {n : Nat} (h : ∀ o, o < n → ρ o < g.n) : Seen ρ n (g.through ρ n) g := ⟨rfl, h, fun _ _ => rfl, fun _ _ => rfl, fun _ _ => rfl, rfl⟩

theorem Sub.own {ρ : Nat → Nat} {X H : Heap} (h : Sub ρ X H) {g : Gh} {b : Nat} (hb : own (g.through ρ X.length) X b) : own g H b := by
  obtain ⟨o, a, h1, h2, h3⟩ := hb
  obtain ⟨b', k1, k2⟩ := h.ob o a h1
  exact ⟨ρ o, b', k1, k2.alive h2, (blk_through g ρ _ k2 h2 o b).1 h3⟩

theorem Sub.sim {ρ : Nat → Nat} {X H : Heap} (h : Sub ρ X H) {g : Gh} {w : World} (hS : Sim g H w) : Sim (g.through ρ X.length) X w := by
  have hs : Seen ρ X.length (g.through ρ X.length) g := seen_through fun o ho => by rw [hS.n]; exact h.lt o ho
  refine ⟨rfl, fun o o' a a' k h1 h2 h3 h4 h5 h6 => ?_, fun o cs h1 => ?_, fun o h1 => ?_, hS.imm, fun o r h1 => ?_⟩
  · obtain ⟨b, k1, k2⟩ := h.ob o a h1
    obtain ⟨b', k3, k4⟩ := h.ob o' a' h2
    exact h.inj o o' (List.getElem?_eq_some_iff.1 h1).1 (List.getElem?_eq_some_iff.1 h2).1 (hS.inj _ _ b b' k k1 k3 (k2.alive h3) (k4.alive h4) ((blk_through g ρ _ k2 h3 o k).1 h5) ((blk_through g ρ _ k4 h4 o' k).1 h6))
  · obtain ⟨b, k1, k2⟩ := h.ob o _ h1
    cases k2 with
    | cells k2 =>
      obtain ⟨⟨C, ty, e1, e2⟩, e3⟩ := hS.cells _ _ k1
      exact ⟨⟨C, ty, e1, k2.back hs e2⟩, e3⟩
  · obtain ⟨b, k1, k2⟩ := h.ob o _ h1
    cases k2
    exact hS.tok _ k1
  · obtain ⟨b, k1, k2⟩ := h.ob o _ h1
    cases k2
    exact hS.abs _ r k1

/-- WHAT IS LEFT BEHIND A CALL, UNDER OTHER NAMES; the objects that were there keep theirs. -/
theorem acalls_rename {P : Program} {gl : Glob} (_ : GlobLow gl) {f : FuncId} {args : List PV} {H : Heap} {K : PV → Heap → Prop}
    (h : ACalls P gl f args H (fun y H' => ∃ (x : PV) (X : Heap) (ρ : Nat → Nat), Sub ρ X H' ∧ H.length ≤ X.length ∧ (∀ o, o < H.length → ρ o = o) ∧ Ren ρ X.length x y ∧ K x X)) : ACalls P gl f args H K := by
  intro g w vs hS hG hR
  refine (h g w vs hS hG hR).mono ?_
  rintro e w' ⟨v, g', H', y, rfl, hS', hX, hv, x, X, ρ, hsub, hlen, hid, hren, hk⟩
  have hs : Seen ρ X.length (g'.through ρ X.length) g' := seen_through fun o ho => by rw [hS'.n]; exact hsub.lt o ho
  refine ⟨v, g'.through ρ X.length, X, x, rfl, hsub.sim hS', ?_, hren.back hs hv, hk⟩
  have hn : g.n = H.length := hS.n
  refine ⟨⟨by rw [hn]; exact hlen, fun o ho => ?_, fun o ho => ?_, fun o ho => ?_, hX.gx.imm, hX.gx.cell⟩, hX.size, fun b hb ho => hX.ow b hb (hsub.own ho), hX.frame, hX.os, hX.tape, hX.output, hX.im⟩
  · show g'.bk (ρ o) = _; rw [hid o (by omega)]; exact hX.gx.bk o ho
  · show g'.en (ρ o) = _; rw [hid o (by omega)]; exact hX.gx.en o ho
  · show g'.sz (ρ o) = _; rw [hid o (by omega)]; exact hX.gx.sz o ho

/-- the names behind a call amid others: those of old, and the new ones behind all -/
def ρext (ρ : Nat → Nat) (n N : Nat) : Nat → Nat := fun o => if o < n then ρ o else N + (o - n)

/-- how the objects H stand behind a call that looked at X of them alone, which came to X' -/
structure Behind (ρ : Nat → Nat) (X H X' H' : Heap) : Prop where
  len : X.length ≤ X'.length
  lenH : H'.length = H.length + (X'.length - X.length)
  on : ∀ (o : Nat) (a : Ob), X'[o]? = some a → ∃ b, H'[ρext ρ X.length H.length o]? = some b ∧ RenOb (ρext ρ X.length H.length) X'.length a b ∧ (b.alive = true → a.alive = true)
  off : ∀ o, o < H.length → (∀ j, j < X.length → ρ j ≠ o) → H'[o]? = H[o]?

/-- A CALL AMID OTHER OBJECTS: it is enough to look at it where those are that it is handed. -/
theorem acalls_frame {P : Program} {gl : Glob} (hgl : GlobLow gl) {f : FuncId} {args0 args : List PV} {X H : Heap} {K : PV → Heap → Prop} {ρ : Nat → Nat} (hsub : Sub ρ X H) (hargs : RenL ρ X.length args0 args)
    (h : ACalls P gl f args0 X (fun x X' => ∃ y H', Behind ρ X H X' H' ∧ Ren (ρext ρ X.length H.length) X'.length x y ∧ K y H')) : ACalls P gl f args H K := by
  intro g w vs hS hG hR
  have hs : Seen ρ X.length (g.through ρ X.length) g := seen_through fun o ho => by rw [hS.n]; exact hsub.lt o ho
  have hG0 : GlobOk (g.through ρ X.length) w gl := fun k cs hk => by
    refine ⟨(hG k cs hk).1, fun q x hx => ?_⟩
    obtain ⟨h1, c, h2, h3⟩ := (hG k cs hk).2 q x hx
    exact ⟨h1, c, h2, low_cong h3 (hgl k cs hk x (List.mem_iff_getElem?.2 ⟨q, hx⟩)) rfl⟩
  refine (h _ w vs (hsub.sim hS) hG0 (hargs.back hs hR)).mono ?_
  rintro e w' ⟨v, g', X', x, rfl, hS', hX, hv, y, H', hB, hren, hk⟩
  have hn : g.n = H.length := hS.n
  have hn' : g'.n = X'.length := hS'.n
  -- the inverse of the names
  have inv : ∃ σ : Nat → Option Nat, ∀ o, (∀ j, σ o = some j → j < X.length ∧ ρ j = o) ∧ (σ o = none → ∀ j, j < X.length → ρ j ≠ o) := by
    refine ⟨fun o => (List.range X.length).find? fun j => ρ j == o, fun o => ⟨fun j hj => ?_, fun hj j hlt => ?_⟩⟩
    · have h1 := List.find?_some hj
      have h2 := List.mem_of_find?_eq_some hj
      exact ⟨by simpa using h2, by simpa using h1⟩
    · have := List.find?_eq_none.1 hj j (by simpa using hlt)
      simpa using this
  obtain ⟨σ, hσ⟩ := inv
  have hσρ : ∀ j, j < X.length → σ (ρ j) = some j := fun j hj => by
    cases hq : σ (ρ j) with
    | none => exact absurd rfl ((hσ _).2 hq j hj)
    | some i => obtain ⟨h1, h2⟩ := (hσ _).1 i hq; rw [hsub.inj i j h1 hj h2]
  have bk0 : ∀ o, o < X.length → g'.bk o = g.bk (ρ o) := fun o ho => hX.gx.bk o ho
  have en0 : ∀ o, o < X.length → g'.en o = g.en (ρ o) := fun o ho => hX.gx.en o ho
  have sz0 : ∀ o, o < X.length → g'.sz o = g.sz (ρ o) := fun o ho => hX.gx.sz o ho
  let g2 : Gh := ⟨H'.length, fun o => if o < H.length then g.bk o else g'.bk (X.length + (o - H.length)), fun o => if o < H.length then g.en o else g'.en (X.length + (o - H.length)), fun o => if o < H.length then g.sz o else g'.sz (X.length + (o - H.length)), g'.imm,
    fun o => if o < H.length then (match σ o with | some j => g'.fp j | none => g.fp o) else g'.fp (X.length + (o - H.length))⟩
  have ext_lt : ∀ o, o < X.length → ρext ρ X.length H.length o = ρ o ∧ ρ o < H.length := fun o ho => ⟨by simp [ρext, ho], hsub.lt o ho⟩
  have ext_ge : ∀ o, ¬ o < X.length → ρext ρ X.length H.length o = H.length + (o - X.length) := fun o ho => by simp [ρext, ho]
  have hlenX := hB.len
  have hlenH := hB.lenH
  have hs2 : Seen (ρext ρ X.length H.length) X'.length g' g2 := by
    refine ⟨hn', fun o ho => ?_, fun o ho => ?_, fun o ho => ?_, fun o ho => ?_, rfl⟩
    · show _ < H'.length
      by_cases c : o < X.length
      · obtain ⟨e1, e2⟩ := ext_lt o c; rw [e1]; omega
      · rw [ext_ge o c]; omega
    · by_cases c : o < X.length
      · obtain ⟨e1, e2⟩ := ext_lt o c
        show _ = (if _ then _ else _); rw [e1, if_pos e2]; exact bk0 o c
      · show _ = (if _ then _ else _); rw [ext_ge o c, if_neg (by omega)]; congr 1; omega
    · by_cases c : o < X.length
      · obtain ⟨e1, e2⟩ := ext_lt o c
        show _ = (if _ then _ else _); rw [e1, if_pos e2]; exact en0 o c
      · show _ = (if _ then _ else _); rw [ext_ge o c, if_neg (by omega)]; congr 1; omega
    · by_cases c : o < X.length
      · obtain ⟨e1, e2⟩ := ext_lt o c
        show _ = (if _ then _ else _); rw [e1, if_pos e2]; exact sz0 o c
      · show _ = (if _ then _ else _); rw [ext_ge o c, if_neg (by omega)]; congr 1; omega
  have fp2 : ∀ o, o < X'.length → g2.fp (ρext ρ X.length H.length o) = g'.fp o := fun o ho => by
    by_cases c : o < X.length
    · obtain ⟨e1, e2⟩ := ext_lt o c
      show (if _ then _ else _) = _; rw [e1, if_pos e2, hσρ o c]
    · show (if _ then _ else _) = _; rw [ext_ge o c, if_neg (by omega)]; congr 1; omega
  -- each object: one that the call looked at, or another one
  have cases2 : ∀ (o : Nat) (b : Ob), H'[o]? = some b → b.alive = true → (∃ j a, X'[j]? = some a ∧ a.alive = true ∧ o = ρext ρ X.length H.length j ∧ RenOb (ρext ρ X.length H.length) X'.length a b) ∨ (o < H.length ∧ H[o]? = some b ∧ ∀ j, j < X.length → ρ j ≠ o) := by
    intro o b hb hal
    have hol : o < H'.length := (List.getElem?_eq_some_iff.1 hb).1
    have fromX : ∀ j, j < X'.length → o = ρext ρ X.length H.length j → ∃ a, X'[j]? = some a ∧ a.alive = true ∧ RenOb (ρext ρ X.length H.length) X'.length a b := fun j hj ho => by
      obtain ⟨b', k1, k2, k3⟩ := hB.on j _ (List.getElem?_eq_getElem hj)
      rw [← ho, hb] at k1
      cases k1
      exact ⟨_, List.getElem?_eq_getElem hj, k3 hal, k2⟩
    by_cases c : o < H.length
    · cases hq : σ o with
      | some j =>
        obtain ⟨h1, h2⟩ := (hσ o).1 j hq
        have ho : o = ρext ρ X.length H.length j := by rw [(ext_lt j h1).1, h2]
        obtain ⟨a, k1, k2, k3⟩ := fromX j (by omega) ho
        exact .inl ⟨j, a, k1, k2, ho, k3⟩
      | none =>
        have h1 := (hσ o).2 hq
        exact .inr ⟨c, by rw [← hB.off o c h1]; exact hb, h1⟩
    · have ho : o = ρext ρ X.length H.length (X.length + (o - H.length)) := by rw [ext_ge _ (by omega)]; omega
      obtain ⟨a, k1, k2, k3⟩ := fromX _ (by omega) ho
      exact .inl ⟨_, a, k1, k2, ho, k3⟩
  have blkX : ∀ {j : Nat} {a b : Ob} {k : Nat}, X'[j]? = some a → a.alive = true → RenOb (ρext ρ X.length H.length) X'.length a b → (blk g2 b (ρext ρ X.length H.length j) k ↔ blk g' a j k) := by
    intro j a b k h1 h2 h3
    have hj : j < X'.length := (List.getElem?_eq_some_iff.1 h1).1
    cases h3 with
    | cells _ => show _ = k ↔ _ = k; rw [hs2.bk j hj]
    | tok => show _ = k ↔ _ = k; rw [hs2.bk j hj]
    | dead _ => cases h2
    | abs r => show g2.fp _ k ↔ g'.fp j k; rw [fp2 j hj]
  have blkH : ∀ {o : Nat} {b : Ob} {k : Nat}, o < H.length → (∀ j, j < X.length → ρ j ≠ o) → (blk g2 b o k ↔ blk g b o k) := by
    intro o b k h1 h2
    refine blk_of (g := g) (g' := g2) ?_ (fun k => ?_) b k
    · show (if _ then _ else _) = _; rw [if_pos h1]
    · show (if o < H.length then (match σ o with | some j => g'.fp j | none => g.fp o) else _) k ↔ _
      rw [if_pos h1]
      cases hq : σ o with
      | some j => obtain ⟨k1, k2⟩ := (hσ o).1 j hq; exact absurd k2 (h2 j k1)
      | none => exact Iff.rfl
  -- another object's blocks: the call did not look at them
  have apart0 : ∀ {o : Nat} {b : Ob} {k : Nat}, H[o]? = some b → b.alive = true → (∀ j, j < X.length → ρ j ≠ o) → blk g b o k → k < w.heap.size ∧ ¬ own (g.through ρ X.length) X k := by
    intro o b k h1 h2 h3 h4
    refine ⟨own_lt hS ⟨o, b, h1, h2, h4⟩, ?_⟩
    rintro ⟨j, a, k1, k2, k3⟩
    obtain ⟨b', e1, e2⟩ := hsub.ob j a k1
    have := hS.inj (ρ j) o b' b k e1 h1 (e2.alive k2) h2 ((blk_through g ρ _ e2 k2 j k).1 k3) h4
    exact h3 j (List.getElem?_eq_some_iff.1 k1).1 this
  have apart : ∀ {o : Nat} {b : Ob} {k : Nat}, H[o]? = some b → b.alive = true → (∀ j, j < X.length → ρ j ≠ o) → blk g b o k → k < w.heap.size ∧ w'.heap[k]? = w.heap[k]? ∧ (∀ q, ¬ g.imm k q → ¬ g'.imm k q) ∧ ¬ own g' X' k := by
    intro o b k h1 h2 h3 h4
    obtain ⟨hlt, hno⟩ := apart0 h1 h2 h3 h4
    exact ⟨hlt, hX.frame k hlt hno, fun q hq hi => (hX.im k q hlt hi).elim hq hno, fun ho => hno (hX.ow k hlt ho)⟩
  have hgx : Gext g w g2 w' := by
    refine ⟨by show g.n ≤ H'.length; omega, fun o ho => ?_, fun o ho => ?_, fun o ho => ?_, hX.gx.imm, hX.gx.cell⟩
    · show (if _ then _ else _) = _; rw [if_pos (by omega)]
    · show (if _ then _ else _) = _; rw [if_pos (by omega)]
    · show (if _ then _ else _) = _; rw [if_pos (by omega)]
  have hbk2 : ∀ o, o < H.length → g2.bk o = g.bk o := fun o ho => hgx.bk o (by omega)
  refine ⟨v, g2, H', y, rfl, ?_, ?_, hren.to hs2 hv, hk⟩
  · refine ⟨rfl, fun o o' b b' k h1 h2 h3 h4 h5 h6 => ?_, fun o cs h1 => ?_, fun o h1 => ?_, hS'.imm, fun o r h1 => ?_⟩
    · rcases cases2 o b h1 h3 with ⟨j, a, k1, k2, rfl, k3⟩ | ⟨k1, k2, k3⟩ <;> rcases cases2 o' b' h2 h4 with ⟨j', a', m1, m2, rfl, m3⟩ | ⟨m1, m2, m3⟩
      · rw [hS'.inj j j' a a' k k1 m1 k2 m2 ((blkX k1 k2 k3).1 h5) ((blkX m1 m2 m3).1 h6)]
      · exact absurd ⟨j, a, k1, k2, (blkX k1 k2 k3).1 h5⟩ (apart m2 h4 m3 ((blkH m1 m3).1 h6)).2.2.2
      · exact absurd ⟨j', a', m1, m2, (blkX m1 m2 m3).1 h6⟩ (apart k2 h3 k3 ((blkH k1 k3).1 h5)).2.2.2
      · exact hS.inj o o' b b' k k2 m2 h3 h4 ((blkH k1 k3).1 h5) ((blkH m1 m3).1 h6)
    · rcases cases2 o _ h1 rfl with ⟨j, a, k1, k2, rfl, k3⟩ | ⟨k1, k2, k3⟩
      · cases k3 with
        | cells k3 =>
          obtain ⟨⟨C, ty, e1, e2⟩, e3⟩ := hS'.cells j _ k1
          have hj : j < X'.length := (List.getElem?_eq_some_iff.1 k1).1
          rw [← hs2.bk j hj]
          exact ⟨⟨C, ty, e1, k3.to hs2 e2⟩, e3⟩
        | dead _ => cases k2
      · obtain ⟨⟨C, ty, e1, e2⟩, e3⟩ := hS.cells o cs k2
        obtain ⟨_, a2, a3, _⟩ := apart k2 rfl k3 rfl
        rw [hbk2 o k1]
        exact ⟨⟨C, ty, a2.trans e1, e2.mono hgx⟩, fun q => a3 q (e3 q)⟩
    · rcases cases2 o _ h1 rfl with ⟨j, a, k1, k2, rfl, k3⟩ | ⟨k1, k2, k3⟩
      · cases k3 with
        | tok =>
          have hj : j < X'.length := (List.getElem?_eq_some_iff.1 k1).1
          rw [← hs2.bk j hj, ← hs2.en j hj, ← hs2.sz j hj]
          exact hS'.tok j k1
        | dead _ => cases k2
      · obtain ⟨⟨C, ty, e1, e2⟩, e3⟩ := hS.tok o k2
        obtain ⟨_, a2, a3, _⟩ := apart k2 rfl k3 rfl
        rw [hbk2 o k1, hgx.en o (by omega), hgx.sz o (by omega)]
        exact ⟨⟨C, ty, a2.trans e1, e2⟩, fun q hq => a3 q (e3 q hq)⟩
    · rcases cases2 o _ h1 rfl with ⟨j, a, k1, k2, rfl, k3⟩ | ⟨k1, k2, k3⟩
      · cases k3 with
        | abs r =>
          have hj : j < X'.length := (List.getElem?_eq_some_iff.1 k1).1
          rw [← hs2.bk j hj, fp2 j hj]
          exact hS'.abs j r k1
        | dead _ => cases k2
      · have h2 := (hS.abs o r k2).2.2
        have hfp : ∀ b, g2.fp o b ↔ g.fp o b := fun b => blkH (b := .abs r) (k := b) k1 k3
        exact hS.absKeep k2 hgx (hbk2 o k1) hfp (fun b hb => (apart k2 rfl k3 hb).2.1) (fun b q hb => (apart k2 rfl k3 hb).2.2.1 q ((h2 b hb).2 q)) hX.size hS'.imm
  · have ownsub : ∀ b, own (g.through ρ X.length) X b → own g H b := fun b => hsub.own
    refine ⟨hgx, hX.size, fun b hb ho => ?_, fun b hb ho => hX.frame b hb (fun k => ho (ownsub b k)), hX.os, hX.tape, hX.output, fun b q hb hi => (hX.im b q hb hi).imp id (ownsub b)⟩
    obtain ⟨o, b', h1, h2, h3⟩ := ho
    rcases cases2 o b' h1 h2 with ⟨j, a, k1, k2, rfl, k3⟩ | ⟨k1, k2, k3⟩
    · exact ownsub b (hX.ow b hb ⟨j, a, k1, k2, (blkX k1 k2 k3).1 h3⟩)
    · exact ⟨o, b', k2, h2, (blkH k1 k3).1 h3⟩

#print axioms acalls_frame
#print axioms acalls_rename
end Go.AM

/-! AM, part 33: wholes of blocks, told by what holds of their objects. -/
namespace Go.AM
open Go

/-- spare room behind a list is let go -/
def noTok (h : Heap) : Heap := h.map fun ob => match ob with
  | .tok => .dead
  | ob => ob

theorem noTok_length (h : Heap) : (noTok h).length = h.length := by simp [noTok]
theorem noTok_get {h : Heap} {o : Nat} {ob : Ob} (ho : (noTok h)[o]? = some ob) : ob = .dead ∨ (h[o]? = some ob ∧ ob ≠ .tok) := by
  simp only [noTok, List.getElem?_map, Option.map_eq_some_iff] at ho
  obtain ⟨a, h1, h2⟩ := ho
  cases a <;> simp only at h2 <;> subst h2
  · exact .inr ⟨h1, fun e => by cases e⟩
  · exact .inl rfl
  · exact .inl rfl
  · exact .inr ⟨h1, fun e => by cases e⟩

theorem Sim.noTok {g : Gh} {h : Heap} {w : World} (hS : Sim g h w) : Sim g (noTok h) w := by
  have live : ∀ {o : Nat} {ob : Ob}, (AM.noTok h)[o]? = some ob → ob.alive = true → h[o]? = some ob := fun ho ha => by
    rcases noTok_get ho with rfl | ⟨k, _⟩
    · cases ha
    · exact k
  refine ⟨by rw [noTok_length]; exact hS.n, fun o o' ob ob' b h1 h2 h3 h4 h5 h6 => hS.inj o o' ob ob' b (live h1 h3) (live h2 h4) h3 h4 h5 h6, fun o cs h1 => hS.cells o cs (live h1 rfl), fun o h1 => ?_, hS.imm, fun o r h1 => hS.abs o r (live h1 rfl)⟩
  rcases noTok_get h1 with e | ⟨_, k⟩
  · cases e
  · exact absurd rfl k

theorem own_noTok {g : Gh} {h : Heap} {b : Nat} (ho : own g (noTok h) b) : own g h b := by
  obtain ⟨o, ob, h1, h2, h3⟩ := ho
  rcases noTok_get h1 with rfl | ⟨k, _⟩
  · cases h2
  · exact ⟨o, ob, k, h2, h3⟩

/-- no spare room in sight -/
def NoTok (h : Heap) : Prop := ∀ o : Nat, h[o]? ≠ some Ob.tok

theorem noTok_no (h : Heap) : NoTok (noTok h) := fun o ho => by
  rcases noTok_get ho with e | ⟨_, k⟩
  · cases e
  · exact k rfl

theorem own_fresh {g : Gh} {h : Heap} {w : World} (hS : Sim g h w) (hn : NoTok h) {b : Nat} (hb : own g h b) (q : Nat) : ¬ g.imm b q := by
  obtain ⟨o, ob, h1, h2, h3⟩ := hb
  cases ob with
  | cells cs => have h3 : g.bk o = b := h3; subst h3; exact (hS.cells o cs h1).2 q
  | tok => exact absurd h1 (hn o)
  | dead => cases h2
  | abs r => exact ((hS.abs o r h1).2.2 b h3).2 q

/-- what holds of objects, the first of which is its root -/
def whole (I : Heap → Prop) : Rep where
  R := fun w imm b F => ∃ (g : Gh) (h : Heap), I h ∧ Sim g h w ∧ NoTok h ∧ g.imm = imm ∧ (∃ cs, h[0]? = some (.cells cs)) ∧ g.bk 0 = b ∧ ∀ k, F k ↔ own g h k
  st := by
    rintro w w' imm imm' b F ⟨g, h, h1, h2, h3, rfl, h5, h6, h7⟩ hfr him hc hni hsz hbd
    let g' : Gh := { g with imm := imm' }
    have hgx : Gext g w g' w' := ⟨Nat.le_refl _, fun _ _ => rfl, fun _ _ => rfl, fun _ _ => rfl, him, hc⟩
    have hb : ∀ ob o k, blk g' ob o k ↔ blk g ob o k := fun ob o k => blk_of rfl (fun _ => Iff.rfl) ob k
    have hin : ∀ {o : Nat} {ob : Ob} {k : Nat}, h[o]? = some ob → ob.alive = true → blk g ob o k → F k := fun k1 k2 k3 => (h7 _).2 ⟨_, _, k1, k2, k3⟩
    refine ⟨g', h, h1, ⟨h2.n, fun o o' ob ob' k k1 k2 k3 k4 k5 k6 => h2.inj o o' ob ob' k k1 k2 k3 k4 ((hb _ _ _).1 k5) ((hb _ _ _).1 k6), fun o cs k1 => ?_, fun o k1 => absurd k1 (h3 o), hbd, fun o r k1 => ?_⟩, h3, rfl, h5, h6, fun k => (h7 k).trans ⟨fun ⟨o, ob, k1, k2, k3⟩ => ⟨o, ob, k1, k2, (hb _ _ _).2 k3⟩, fun ⟨o, ob, k1, k2, k3⟩ => ⟨o, ob, k1, k2, (hb _ _ _).1 k3⟩⟩⟩
    · obtain ⟨⟨C, ty, e1, e2⟩, e3⟩ := h2.cells o cs k1
      have hF := hin k1 rfl rfl
      exact ⟨⟨C, ty, (hfr _ hF).trans e1, e2.mono hgx⟩, fun q => hni _ q hF⟩
    · exact h2.absKeep k1 hgx rfl (fun _ => Iff.rfl) (fun k hk => hfr k (hin k1 rfl hk)) (fun k q hk => hni k q (hin k1 rfl hk)) hsz hbd

/-- the root stands -/
def Root (h : Heap) : Prop := ∃ cs, h[0]? = some (.cells cs)
theorem root_of {cs : List PV} {t : Heap} : Root (.cells cs :: t) := ⟨cs, rfl⟩
theorem Root.noTok {h : Heap} (hr : Root h) : Root (noTok h) := by
  obtain ⟨cs, h1⟩ := hr
  exact ⟨cs, by simp [AM.noTok, h1]⟩

/-- A WHOLE IS OPENED for a call, and shut behind it -/
theorem acalls_open {P : Program} {gl : Glob} (hgl : GlobLow gl) {f : FuncId} {args : List PV} {I : Heap → Prop} {K : PV → Heap → Prop} (hargs : ∀ x ∈ args, Low 0 x ∨ ∃ off, x = .ptr 0 off)
    (h : ∀ hh, I hh → Root hh → ACalls P gl f args hh (fun x H' => ∃ I' : Heap → Prop, I' (noTok H') ∧ Root H' ∧ (Low 0 x ∨ ∃ off, x = .ptr 0 off) ∧ K x [.abs (whole I')])) : ACalls P gl f args [.abs (whole I)] K := by
  intro g w vs hS hG hR
  obtain ⟨⟨g0, hh, h1, h2, h3, h4, h5, h6, h7⟩, h8, h9⟩ := hS.abs 0 _ rfl
  have hn0 : 0 < hh.length := by obtain ⟨cs, e⟩ := h5; exact (List.getElem?_eq_some_iff.1 e).1
  have hgn : g.n = 1 := hS.n
  have toR : ∀ {x : PV} {v : Value}, (Low 0 x ∨ ∃ off, x = .ptr 0 off) → Rel g w x v → Rel g0 w x v := by
    rintro x v (hl | ⟨off, rfl⟩) hr
    · exact low_cong hr hl h4
    · cases hr
      rw [← h6]; exact .ptr 0 off (by rw [h2.n]; exact hn0)
  have hG0 : GlobOk g0 w gl := fun k cs hk => by
    refine ⟨(hG k cs hk).1, fun q x hx => ?_⟩
    obtain ⟨k1, c, k2, k3⟩ := (hG k cs hk).2 q x hx
    exact ⟨by rw [h4]; exact k1, c, k2, low_cong k3 (hgl k cs hk x (List.mem_iff_getElem?.2 ⟨q, hx⟩)) h4⟩
  refine (h hh h1 h5 g0 w vs h2 hG0 ⟨hR.1, fun q x v hx hv => toR (hargs x (List.mem_iff_getElem?.2 ⟨q, hx⟩)) (hR.2 q x v hx hv)⟩).mono ?_
  rintro e w' ⟨v, g1, H', x, rfl, hS1, hX, hv, I', hI, hroot, hlow, hk⟩
  have hn1 : 0 < H'.length := by obtain ⟨cs, e⟩ := hroot; exact (List.getElem?_eq_some_iff.1 e).1
  have hbk1 : g1.bk 0 = g.bk 0 := (hX.gx.bk 0 (by rw [h2.n]; exact hn0)).trans h6
  let g2 : Gh := ⟨1, fun _ => g1.bk 0, g.en, g.sz, g1.imm, fun _ => own g1 (noTok H')⟩
  have hSn := hS1.noTok
  obtain ⟨cs0, hcs0⟩ := hroot.noTok
  have own2 : ∀ b, own g2 [.abs (whole I')] b ↔ own g1 (noTok H') b := fun b => by
    constructor
    · rintro ⟨o, ob, k1, k2, k3⟩
      have : o = 0 := by have := (List.getElem?_eq_some_iff.1 k1).1; simpa using this
      subst this
      cases k1
      exact k3
    · intro k; exact ⟨0, _, rfl, rfl, k⟩
  have own0 : ∀ b, own g0 hh b → own g [.abs (whole I)] b := fun b k => ⟨0, _, rfl, rfl, (h7 b).2 k⟩
  have hgx : Gext g w g2 w' := by
    refine ⟨by rw [hgn]; exact Nat.le_refl _, fun o ho => ?_, fun _ _ => rfl, fun _ _ => rfl, fun b q k => ?_, fun b q k => ?_⟩
    · have : o = 0 := by omega
      subst this; exact hbk1
    · exact hX.gx.imm b q (by rw [h4]; exact k)
    · exact hX.gx.cell b q (by rw [h4]; exact k)
  refine ⟨v, g2, [.abs (whole I')], x, rfl, ?_, ?_, ?_, hk⟩
  · refine ⟨rfl, fun o o' ob ob' b k1 k2 _ _ _ _ => ?_, fun o cs k1 => ?_, fun o k1 => ?_, hS1.imm, fun o r k1 => ?_⟩
    · have e1 := (List.getElem?_eq_some_iff.1 k1).1
      have e2 := (List.getElem?_eq_some_iff.1 k2).1
      simp at e1 e2; omega
    · have e1 := (List.getElem?_eq_some_iff.1 k1).1
      have : o = 0 := by simpa using e1
      subst this; cases k1
    · have e1 := (List.getElem?_eq_some_iff.1 k1).1
      have : o = 0 := by simpa using e1
      subst this; cases k1
    · have e1 := (List.getElem?_eq_some_iff.1 k1).1
      have : o = 0 := by simpa using e1
      subst this
      cases k1
      exact ⟨⟨g1, noTok H', hI, hSn, noTok_no _, rfl, ⟨cs0, hcs0⟩, rfl, fun _ => Iff.rfl⟩, ⟨0, _, hcs0, rfl, rfl⟩, fun b hb => ⟨own_lt hSn hb, fun q => own_fresh hSn (noTok_no _) hb q⟩⟩
  · exact ⟨hgx, hX.size, fun b hb ho => own0 b (hX.ow b hb (own_noTok ((own2 b).1 ho))), fun b hb ho => hX.frame b hb (fun k => ho (own0 b k)), hX.os, hX.tape, hX.output,
      fun b q hb hi => (hX.im b q hb hi).elim (fun k => .inl (by rw [← h4]; exact k)) (fun k => .inr (own0 b k))⟩
  · rcases hlow with hl | ⟨off, rfl⟩
    · exact low_cong hv hl rfl
    · cases hv
      exact .ptr (g := g2) 0 off Nat.zero_lt_one

/-- A CALL MAKES A WHOLE -/
theorem acalls_shut {P : Program} {gl : Glob} {f : FuncId} {args : List PV} {K : PV → Heap → Prop}
    (h : ACalls P gl f args [] (fun x H' => ∃ I' : Heap → Prop, I' (noTok H') ∧ Root H' ∧ (∃ off, x = .ptr 0 off) ∧ K x [.abs (whole I')])) : ACalls P gl f args [] K := by
  intro g w vs hS hG hR
  refine (h g w vs hS hG hR).mono ?_
  rintro e w' ⟨v, g1, H', x, rfl, hS1, hX, hv, I', hI, hroot, ⟨off, rfl⟩, hk⟩
  have hn1 : 0 < H'.length := by obtain ⟨cs, e⟩ := hroot; exact (List.getElem?_eq_some_iff.1 e).1
  have hgn : g.n = 0 := hS.n
  let g2 : Gh := ⟨1, fun _ => g1.bk 0, g.en, g.sz, g1.imm, fun _ => own g1 (noTok H')⟩
  have hSn := hS1.noTok
  obtain ⟨cs0, hcs0⟩ := hroot.noTok
  have own2 : ∀ b, own g2 [.abs (whole I')] b ↔ own g1 (noTok H') b := fun b => by
    constructor
    · rintro ⟨o, ob, k1, k2, k3⟩
      have : o = 0 := by have := (List.getElem?_eq_some_iff.1 k1).1; simpa using this
      subst this
      cases k1
      exact k3
    · intro k; exact ⟨0, _, rfl, rfl, k⟩
  have hgx : Gext g w g2 w' := ⟨by rw [hgn]; exact Nat.zero_le _, fun o ho => absurd ho (by rw [hgn]; exact Nat.not_lt_zero _), fun _ _ => rfl, fun _ _ => rfl, hX.gx.imm, hX.gx.cell⟩
  refine ⟨v, g2, [.abs (whole I')], _, rfl, ?_, ?_, ?_, hk⟩
  · refine ⟨rfl, fun o o' ob ob' b k1 k2 _ _ _ _ => ?_, fun o cs k1 => ?_, fun o k1 => ?_, hS1.imm, fun o r k1 => ?_⟩
    · have e1 := (List.getElem?_eq_some_iff.1 k1).1
      have e2 := (List.getElem?_eq_some_iff.1 k2).1
      simp at e1 e2; omega
    · have e1 := (List.getElem?_eq_some_iff.1 k1).1
      have : o = 0 := by simpa using e1
      subst this; cases k1
    · have e1 := (List.getElem?_eq_some_iff.1 k1).1
      have : o = 0 := by simpa using e1
      subst this; cases k1
    · have e1 := (List.getElem?_eq_some_iff.1 k1).1
      have : o = 0 := by simpa using e1
      subst this
      cases k1
      exact ⟨⟨g1, noTok H', hI, hSn, noTok_no _, rfl, ⟨cs0, hcs0⟩, rfl, fun _ => Iff.rfl⟩, ⟨0, _, hcs0, rfl, rfl⟩, fun b hb => ⟨own_lt hSn hb, fun q => own_fresh hSn (noTok_no _) hb q⟩⟩
  · exact ⟨hgx, hX.size, fun b hb ho => hX.ow b hb (own_noTok ((own2 b).1 ho)), fun b hb ho => hX.frame b hb ho, hX.os, hX.tape, hX.output, hX.im⟩
  · cases hv
    exact .ptr (g := g2) 0 off Nat.zero_lt_one

/-- A METHOD OF A WHOLE, amid other objects -/
theorem acalls_method {P : Program} {gl : Glob} (hgl : GlobLow gl) {f : FuncId} {args0 args : List PV} {H : Heap} {o : Nat} {I : Heap → Prop} {K : PV → Heap → Prop} (ho : H[o]? = some (.abs (whole I)))
    (hargs0 : ∀ x ∈ args0, Low 0 x ∨ ∃ off, x = .ptr 0 off) (hargs : RenL (fun _ => o) 1 args0 args)
    (h : ∀ hh, I hh → Root hh → ACalls P gl f args0 hh (fun x H' => ∃ I' : Heap → Prop, I' (noTok H') ∧ Root H' ∧ Low 0 x ∧ K x (H.set o (.abs (whole I'))))) : ACalls P gl f args H K := by
  have hol : o < H.length := (List.getElem?_eq_some_iff.1 ho).1
  have hsub : Sub (fun _ => o) [.abs (whole I)] H := by
    refine ⟨fun _ _ => hol, fun a b h1 h2 _ => ?_, fun j a h1 => ?_⟩
    · simp at h1 h2; omega
    · have e1 := (List.getElem?_eq_some_iff.1 h1).1
      have : j = 0 := by simpa using e1
      subst this; cases h1
      exact ⟨_, ho, .abs _⟩
  refine acalls_frame hgl hsub hargs (acalls_open hgl hargs0 fun hh h1 h2 => ?_)
  intro g w vs hS hG hR
  refine (h hh h1 h2 g w vs hS hG hR).mono ?_
  rintro e w' ⟨v, g', H', x, rfl, hS', hX, hv, I', k1, k2, k3, k4⟩
  refine ⟨v, g', H', x, rfl, hS', hX, hv, I', k1, k2, .inl k3, x, H.set o (.abs (whole I')), ⟨Nat.le_refl _, by simp, fun j a h1 => ?_, fun o' h1 h2 => ?_⟩, .low k3, k4⟩
  · have e1 := (List.getElem?_eq_some_iff.1 h1).1
    have : j = 0 := by simpa using e1
    subst this; cases h1
    exact ⟨_, by simp [ρext, hol], .abs _, fun _ => rfl⟩
  · rw [List.getElem?_set_ne]
    exact h2 0 (by simp)

/-- A CALL MAKES A WHOLE, amid other objects -/
theorem acalls_make {P : Program} {gl : Glob} (hgl : GlobLow gl) {f : FuncId} {args : List PV} {H : Heap} {K : PV → Heap → Prop} (hargs : ∀ x ∈ args, Low 0 x)
    (h : ACalls P gl f args [] (fun x H' => ∃ I' : Heap → Prop, I' (noTok H') ∧ Root H' ∧ x = .ptr 0 0 ∧ K (.ptr H.length 0) (H ++ [.abs (whole I')]))) : ACalls P gl f args H K := by
  have hsub : Sub (fun _ => 0) [] H := ⟨fun o h => absurd h (Nat.not_lt_zero _), fun o _ h => absurd h (Nat.not_lt_zero _), fun o a h => by simp at h⟩
  refine acalls_frame hgl hsub (RenL.low hargs) (acalls_shut ?_)
  intro g w vs hS hG hR
  refine (h g w vs hS hG hR).mono ?_
  rintro e w' ⟨v, g', H', x, rfl, hS', hX, hv, I', k1, k2, rfl, k4⟩
  refine ⟨v, g', H', _, rfl, hS', hX, hv, I', k1, k2, ⟨0, rfl⟩, .ptr H.length 0, H ++ [.abs (whole I')], ⟨Nat.zero_le _, by simp, fun j a h1 => ?_, fun o' h1 _ => ?_⟩, ?_, k4⟩
  · have e1 := (List.getElem?_eq_some_iff.1 h1).1
    have : j = 0 := by simpa using e1
    subst this; cases h1
    refine ⟨_, ?_, .abs _, fun _ => rfl⟩
    simp [ρext]
  · rw [List.getElem?_append_left h1]
  · have := Ren.ptr (ρ := ρext (fun _ => 0) ([] : Heap).length H.length) (n := [Ob.abs (whole I')].length) 0 0 (by simp)
    simpa [ρext] using this

#print axioms acalls_method
#print axioms acalls_make
end Go.AM

/-! AM, part 34: pieces of code by a summary; the library's 'do these overlap'. -/
namespace Go.AM
open Go

/-- the piece of code at a place -/
def atOf (p : List Nat) (c : Code) : Code := (sub p c).getD .skip
theorem at_of {p : List Nat} {c : Code} (h : (sub p c).isSome = true) : sub p c = some (atOf p c) := by
  unfold atOf
  cases hq : sub p c with
  | none => rw [hq] at h; cases h
  | some x => rfl

/-- A PIECE: some slots hold so ahead of it; some are asked behind it -/
theorem aw_piece {P : Program} {gl : Glob} {n : Nat} {T : Tab} (hT : TabOk P gl T) {L : LTab} {hn : Oper → Nat} {x : Code} (hL : LOk P gl n x [] L) {Q : Ex → Env → Heap → Prop} {e : Env} {H X : Heap} {slots outs : List Nat} {vals : List PV}
    (he : SlIs (slots.map e) vals) (hH : HpIs H X) (h : Holds (wpc br P gl T L hn x [] (envS slots vals) X (fun ex e' H' => (fun ex vs H' => Q ex (envS outs vs) H') ex (outs.map e') H'))) : AW P gl n x Q e H := by
  have he : slots.map e = vals := he
  have hH : H = X := hH
  subst hH
  refine AW.of_le (e1 := envS slots vals) (by rw [← he]; exact envS_le e slots) (AW.weaken ((wpc_sound hT x [] hL _ _ _ h.out).mono fun ex e' H' k => ?_))
  exact ⟨envS outs (outs.map e'), envS_le e' outs, k⟩

/-- the library's 'do these overlap': a list, and a row of the call's own -/
def overlaps_s (args : List PV) (H : Heap) (K : PV → Prop) : Prop := match args with
  | [.list es _, .arr o _ _ _] => es.flatten ≠ [] ∧ (match H[o]? with | some (.cells cs) => cs ≠ [] | _ => False) ∧ K (.bool false)
  | _ => False

theorem overlaps_run {P : Program} {g : Gh} {H : Heap} {w : World} (hS : Sim g H w) {params rs : Array TypeId} {t e : TypeId} {b : Bool} {sz : Nat} (hp : params[0]? = some t) (ht : P.underlying t = some (.slice e)) (he : tyA P e = some (b, sz))
    {es : List (List PV)} {tl : Tail} {o off len cap : Nat} {cs : List PV} {c : PV} (hne : es.flatten ≠ []) (ho : H[o]? = some (.cells (c :: cs))) {v u : Value} (hv : Rel g w (.list es tl) v) (hu : Rel g w (.arr o off len cap) u) :
    (Extern.SlicesOverlaps.overlaps params rs #[v, u]).run P w = .ok (.bool false) w := by
  obtain ⟨a, cap', rfl, _, _, _, hc⟩ := Rel.list_iff.1 hv
  rcases hc with hc | ⟨A, rfl, hA, hrow⟩
  · exact absurd hc hne
  obtain ⟨x0, hx0⟩ : ∃ x, es.flatten[0]? = some x := by
    cases hq : es.flatten with
    | nil => exact absurd hq hne
    | cons x xs => exact ⟨x, rfl⟩
  obtain ⟨hi, c0, hc0, _⟩ := hrow 0 x0 hx0
  cases hu with
  | arr _ _ _ _ hog =>
  obtain ⟨⟨C, ty, hC, hr⟩, hni⟩ := hS.cells o _ ho
  have hblk : A.block ≠ g.bk o := fun e' => hni (A.off + 0) (by rw [← e']; exact hi)
  have hshA : ∃ ty' n, w.shape? A.block = some (ty', n + 1) := by
    unfold World.cell? at hc0
    simp only [At] at hc0
    unfold World.shape?
    split at hc0
    · rename_i C' ty' fr hb'
      have hne : C'.size ≠ 0 := by
        simp only [Option.isSome_none, Bool.false_eq_true, if_false] at hc0
        have := (Array.getElem?_eq_some_iff.1 hc0).1; omega
      refine ⟨ty', C'.size - 1, ?_⟩
      rw [show C'.size - 1 + 1 = C'.size by omega]
    · cases hc0
  obtain ⟨ty', n, hp'⟩ := hshA
  have hshB : w.shape? (g.bk o) = some (ty, C.size) := by unfold World.shape?; rw [hC]
  have hCs : C.size ≠ 0 := by have := hr.1; simp at this; omega
  have hfrB : ∀ q, w.frozen? ⟨g.bk o, q, none⟩ = false := fun q => frozen_of_block hC q
  have hb1 : (A.block == g.bk o) = false := by simpa using hblk
  have hb2 : (A.block != g.bk o) = true := by simpa using hblk
  delta Extern.SlicesOverlaps.overlaps
  conv => lhs; arg 2; whnf
  simp only [hp, Sem.run_bind, run_under ht, Result.andThen_ok, run_sizeOf he]
  by_cases hz : es.length = 0 ∨ len = 0 ∨ sz = 0
  · rw [if_pos hz]; rfl
  · rw [if_neg hz]
    simp only [hb2, hb1, hfrB, Sem.run_bind, run_frozen, Result.andThen_ok, Bool.true_and, Bool.and_false, Bool.false_eq_true, if_false, if_true, Bool.false_and, Sem.run_pure, noView, viewAt, run_shape, hp', hshB, Option.isSome_some, Option.isSome_none, mayBeOne, stringish]
    by_cases hfA : w.frozen? A = true
    · simp [hfA, hCs, hp', hshB, hfrB]
    · simp [hfA, hCs, hp', hshB, hfrB]

theorem overlaps_ok {P : Program} {gl : Glob} {f : FuncId} {fn : Func} {t e : TypeId} {b : Bool} {sz : Nat} (hf : P.funcs[f]? = some fn) (hname : (fn.name == "runtime.NumGoroutine") = false) (hb : fn.body.isNone = true) (hn : Extern.findNext fn = none)
    (hfi : Extern.find fn = some (Extern.SlicesOverlaps.overlaps fn.params fn.resultTypes)) (hp : fn.params[0]? = some t) (ht : P.underlying t = some (.slice e)) (he : tyA P e = some (b, sz)) : SpOk P gl f (.ext overlaps_s) := by
  intro args H K h g w vs hS hR
  unfold overlaps_s at h
  split at h
  · rename_i es tl o off len cap
    obtain ⟨h1, h2, h3⟩ := h
    split at h2
    · rename_i cs0 ho
      obtain ⟨c, cs, rfl⟩ := List.exists_cons_of_ne_nil h2
      obtain ⟨v, u, rfl, hv, hu⟩ := list_two hR rfl
      exact ⟨_, _, by rw [run_callFunc_extern hf hname hb hn hfi, overlaps_run hS hp ht he h1 ho hv hu]; rfl, .bool false, h3⟩
    · exact h2.elim
  · exact h.elim

#print axioms overlaps_ok
end Go.AM

