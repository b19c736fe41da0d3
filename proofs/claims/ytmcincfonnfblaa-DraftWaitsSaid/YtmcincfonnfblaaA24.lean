/-
  An abstract machine over values without memory, proved against the model; part 24. A tool for the proofs of this claim; it states nothing of the program.
-/
import Derived.Test.YtmcincfonnfblaaA23
/-! AM, part 24: loops and pure functions, for use. -/
namespace Go.AM
open Go

/-- the objects are so -/
def HpIs (H X : Heap) : Prop := H = X
/-- the slots hold so -/
def SlIs (xs ys : List PV) : Prop := xs = ys

/-- a Prop, shut: the elaborator does not look behind it -/
structure Holds (p : Prop) : Prop where
  out : p
theorem holds_of_eq {p q : Prop} (e : p = q) (h : p) : Holds q := ⟨e ▸ h⟩

/-- an environment of which some slots are known -/
def envS : List Nat → List PV → Env
  | t :: ts, v :: vs => fun k => match k == t with
    | true => v
    | false => envS ts vs k
  | _, _ => fun _ => .any

theorem envS_le (e : Env) : ∀ (ts : List Nat), EnvLe e (envS ts (ts.map e))
  | [] => fun t => .inr rfl
  | t :: ts => fun k => by
    simp only [List.map_cons, envS]
    cases h : k == t with
    | true => exact .inl (by rw [show k = t by simpa using h])
    | false => exact envS_le e ts k

theorem envS_mem : ∀ (ts : List Nat) (vs : List PV) (k : Nat), envS ts vs k ∈ vs ∨ envS ts vs k = .any
  | t :: ts, v :: vs, k => by
    simp only [envS]
    cases k == t with
    | true => exact .inl List.mem_cons_self
    | false => exact (envS_mem ts vs k).imp (List.mem_cons_of_mem _) id
  | [], _, _ => .inr (by unfold envS; rfl)
  | _ :: _, [], _ => .inr (by unfold envS; rfl)

theorem envS_low {n : Nat} {ts : List Nat} {vs : List PV} (h : ∀ v ∈ vs, Low n v) (k : Nat) : Low n (envS ts vs k) := by
  rcases envS_mem ts vs k with h1 | h1
  · exact h _ h1
  · rw [h1]; exact .any

/-- A LOOP: some slots hold V s and the objects are Hp s at its head; new objects are let go. -/
theorem aw_loop3 {P : Program} {gl : Glob} (hgl : GlobLow gl) {n : Nat} {x : Code} {Q : Ex → Env → Heap → Prop} {e : Env} {H : Heap} {σ : Type} (slots : List Nat) (I : σ → Prop) (V : σ → List PV) (Hp : σ → Heap) (m : σ → Nat) (s0 : σ)
    (h0 : I s0) (he : slots.map e = V s0) (hH : H = Hp s0)
    (round : ∀ s, I s → AW P gl n x (fun ex e' H' => match ex with
      | .normal => ∃ s' G, m s' < m s ∧ I s' ∧ slots.map e' = V s' ∧ H' = Hp s' ++ G ∧ (Hp s).length ≤ (Hp s').length ∧ (G = [] ∨ ((∀ v ∈ V s', Low (Hp s').length v) ∧ ∀ (o : Nat) cs, (Hp s')[o]? = some (.cells cs) → ∀ x ∈ cs, Low (Hp s').length x))
      | .exit i => Q (.exit i) (envS slots (slots.map e')) H'
      | .ret => Q .ret (envS slots (slots.map e')) H') (envS slots (V s)) (Hp s)) : AW P gl n (.loop x) Q e H := by
  refine aw_loop2 (σ := σ) I (fun s => envS slots (V s)) Hp m s0 h0 (by rw [← he]; exact envS_le e slots) hH fun s hI => ?_
  have key : AW P gl n x (fun ex e' H' => match ex with
      | .normal => ∃ s', m s' < m s ∧ I s' ∧ (∃ G, slots.map e' = V s' ∧ H' = Hp s' ++ G ∧ (Hp s).length ≤ (Hp s').length ∧ (G = [] ∨ ((∀ v ∈ V s', Low (Hp s').length v) ∧ ∀ (o : Nat) cs, (Hp s')[o]? = some (.cells cs) → ∀ x ∈ cs, Low (Hp s').length x)))
      | .exit i => Q (.exit i) (envS slots (slots.map e')) H'
      | .ret => Q .ret (envS slots (slots.map e')) H') (envS slots (V s)) (Hp s) := (round s hI).mono fun ex e' H' h => by
    cases ex with
    | normal => obtain ⟨s', G, h1, h2, h3⟩ := h; exact ⟨s', h1, h2, G, h3⟩
    | exit i => exact h
    | ret => exact h
  intro hd g a w hst
  refine wp_mono (key hd g a w hst) ?_
  rintro ex a' w' ⟨ex', g', e', H', k0, k1, k2, k4⟩
  cases ex' with
  | exit i => exact ⟨.exit i, g', _, H', k0, k1.weaken (envS_le e' slots), k2, k4⟩
  | ret => exact ⟨.ret, g', _, H', k0, k1.weaken (envS_le e' slots), k2, k4⟩
  | normal =>
    obtain ⟨s', h1, h2, G, h3, rfl, h5, h6⟩ := k4
    have k5 := k1.weaken (envS_le e' slots)
    rw [h3] at k5
    rcases h6 with rfl | ⟨h6, h7⟩
    · rw [List.append_nil] at k5 k2
      exact ⟨.normal, g', _, _, k0, k5, k2, s', h1, h2, rfl, rfl⟩
    · have hlow : LowS (envS slots (V s')) (Hp s') := ⟨fun t => envS_low h6 t, h7⟩
      have hS' := k5.sim
      refine ⟨.normal, g'.cutAt (Hp s').length, _, Hp s', k0, ⟨?_, ?_, ⟨k5.env.1, fun t => (k5.env.2 t).cutAt (hlow.1 t)⟩, k5.dfr⟩, ?_, s', h1, h2, rfl, rfl⟩
      · refine ⟨rfl, fun o o' ob ob' b h1 h2 => by rw [blk_cut]; exact hS'.inj o o' ob ob' b (get_pre h1) (get_pre h2), fun o cs h1 => ?_, fun o h1 => hS'.tok o (get_pre h1), hS'.imm, fun o r h1 => hS'.abs o r (get_pre h1)⟩
        obtain ⟨⟨C, ty, e1, e2⟩, e3⟩ := hS'.cells o cs (get_pre h1)
        exact ⟨⟨C, ty, e1, e2.1, fun q y u hy hu => (e2.2 q y u hy hu).cutAt (hlow.2 o cs h1 y (List.mem_iff_getElem?.2 ⟨q, hy⟩))⟩, e3⟩
      · intro k cs hk
        refine ⟨(k5.glob k cs hk).1, fun q x hx => ?_⟩
        obtain ⟨h1, c, h2, h3⟩ := (k5.glob k cs hk).2 q x hx
        refine ⟨h1, c, h2, h3.cutAt ?_⟩
        have hz := hgl k cs hk x (List.mem_iff_getElem?.2 ⟨q, hx⟩)
        exact hz.up
      · have hn : g.n = (Hp s).length := hst.sim.n
        refine ⟨⟨by rw [hn]; exact h5, k2.gx.bk, k2.gx.en, k2.gx.sz, k2.gx.imm, k2.gx.cell⟩, k2.size, fun b hb ho => ?_, k2.frame, k2.os, k2.tape, k2.output, k2.im⟩
        obtain ⟨o, ob, j1, j2, j3⟩ := ho
        rw [blk_cut] at j3
        exact k2.ow b hb ⟨o, ob, get_pre j1, j2, j3⟩

/-- a piece of code by its condition; some slots are asked behind it -/
theorem aw_of_wpc {P : Program} {gl : Glob} {n : Nat} {T : Tab} {L : LTab} (hn : Oper → Nat) (hT : TabOk P gl T) {c : Code} (hL : LOk P gl n c [] L) (slots : List Nat) {e : Env} {H : Heap} {R : Ex → List PV → Heap → Prop} {Q : Ex → Env → Heap → Prop}
    (h : wpc br P gl T L hn c [] e H (fun ex e' H' => R ex (slots.map e') H')) (hR : ∀ ex e' H', R ex (slots.map e') H' → Q ex e' H') : AW P gl n c Q e H :=
  (wpc_sound hT c [] hL _ _ _ h).mono hR

/-- what a round of a loop must bring -/
def loopR {σ : Type} (Q : Ex → Env → Heap → Prop) (slots : List Nat) (I : σ → Prop) (V : σ → List PV) (Hp : σ → Heap) (m : σ → Nat) (s : σ) : Ex → List PV → Heap → Prop := fun ex vs H' => match ex with
  | .normal => ∃ s', m s' < m s ∧ I s' ∧ vs = V s' ∧ ∃ G, H' = Hp s' ++ G ∧ (Hp s).length ≤ (Hp s').length ∧ (G = [] ∨ ((∀ v ∈ V s', Low (Hp s').length v) ∧ ∀ (o : Nat) cs, (Hp s')[o]? = some (.cells cs) → ∀ x ∈ cs, Low (Hp s').length x))
  | .exit i => Q (.exit i) (envS slots vs) H'
  | .ret => Q .ret (envS slots vs) H'

theorem aw_loop4 {P : Program} {gl : Glob} (hgl : GlobLow gl) {n : Nat} {T : Tab} (hT : TabOk P gl T) {L : LTab} {hn : Oper → Nat} {x : Code} (hL : LOk P gl n x [] L) {Q : Ex → Env → Heap → Prop} {e : Env} {H : Heap} {σ : Type} (slots : List Nat) (I : σ → Prop) (V : σ → List PV) (Hp : σ → Heap) (m : σ → Nat) (s0 : σ)
    (h0 : I s0) (he : slots.map e = V s0) (hH : H = Hp s0)
    (round : ∀ s, I s → Holds (wpc br P gl T L hn x [] (envS slots (V s)) (Hp s) (fun ex e' H' => loopR Q slots I V Hp m s ex (slots.map e') H'))) : AW P gl n (.loop x) Q e H := by
  refine aw_loop3 hgl slots I V Hp m s0 h0 he hH fun s hI => (wpc_sound hT x [] hL _ _ _ (round s hI).out).mono fun ex e' H' h => ?_
  cases ex with
  | normal => obtain ⟨s', h1, h2, h3, G, h4⟩ := h; exact ⟨s', G, h1, h2, h3, h4⟩
  | exit i => exact h
  | ret => exact h

theorem low_int {n : Nat} {k : IntKind} {a : Int} : Low n (.int k a) ↔ True := ⟨fun _ => trivial, fun _ => .int _ _⟩
theorem low_bool {n : Nat} {b : Bool} : Low n (.bool b) ↔ True := ⟨fun _ => trivial, fun _ => .bool _⟩
theorem low_str {n : Nat} {b : ByteArray} : Low n (.str b) ↔ True := ⟨fun _ => trivial, fun _ => .str _⟩
theorem low_agg {n : Nat} {cs : List PV} : Low n (.agg cs) ↔ ∀ x ∈ cs, Low n x := ⟨fun h => by cases h with | agg _ h => exact h, .agg _⟩
theorem low_tup {n : Nat} {cs : List PV} : Low n (.tup cs) ↔ ∀ x ∈ cs, Low n x := ⟨fun h => by cases h with | tup _ h => exact h, .tup _⟩
theorem low_iptr {n : Nat} {cs : List PV} : Low n (.iptr cs) ↔ ∀ x ∈ cs, Low n x := ⟨fun h => by cases h with | iptr _ h => exact h, .iptr _⟩
theorem low_fn {n f : Nat} {cs : List PV} : Low n (.fn f cs) ↔ ∀ x ∈ cs, Low n x := ⟨fun h => by cases h with | fn _ _ h => exact h, .fn _ _⟩
theorem low_no {n : Nat} {es : List (List PV)} : Low n (.list es .no) ↔ ∀ x ∈ es.flatten, Low n x := ⟨fun h => by cases h with | list _ _ _ h => exact h, .list _ _ (fun _ h => by cases h)⟩
theorem low_exact {n : Nat} {es : List (List PV)} : Low n (.list es .exact) ↔ ∀ x ∈ es.flatten, Low n x := ⟨fun h => by cases h with | list _ _ _ h => exact h, .list _ _ (fun _ h => by cases h)⟩
theorem low_ptr {n o off : Nat} : Low n (.ptr o off) ↔ o < n := ⟨fun h => by cases h with | ptr _ _ h => exact h, .ptr _ _⟩
theorem low_arr {n o off l c : Nat} : Low n (.arr o off l c) ↔ o < n := ⟨fun h => by cases h with | arr _ _ _ _ h => exact h, .arr _ _ _ _⟩

/-- a function that is handed no object: what it answers -/
theorem spure {P : Program} {gl : Glob} (hgl : GlobLow gl) {f : FuncId} {args : List PV} {r : PV} {K : PV → Prop} (ha : ∀ x ∈ args, Low 0 x) (hr : Low 0 r) (h : ACalls P gl f args [] (fun x _ => x = r)) (hk : K r) : ∃ r, PCall P gl f args r ∧ K r :=
  ⟨r, .alone hgl ha hr h, hk⟩

theorem wrap_i64 {n : Int} (h1 : -9223372036854775808 ≤ n) (h2 : n ≤ 9223372036854775807) : IntKind.wrap .i64 n = n := by
  simp only [IntKind.wrap, IntKind.bits, IntKind.signed]; simp; omega
theorem wrap_u64 {n : Int} (h1 : 0 ≤ n) (h2 : n < 18446744073709551616) : IntKind.wrap .u64 n = n := by
  simp only [IntKind.wrap, IntKind.bits, IntKind.signed]; simp; omega
theorem wrap_u32 {n : Int} (h1 : 0 ≤ n) (h2 : n < 4294967296) : IntKind.wrap .u32 n = n := by
  simp only [IntKind.wrap, IntKind.bits, IntKind.signed]; simp; omega
theorem wrap_u8 {n : Int} (h1 : 0 ≤ n) (h2 : n < 256) : IntKind.wrap .u8 n = n := by
  simp only [IntKind.wrap, IntKind.bits, IntKind.signed]; simp; omega
theorem wrap_i32 {n : Int} (h1 : -2147483648 ≤ n) (h2 : n ≤ 2147483647) : IntKind.wrap .i32 n = n := by
  simp only [IntKind.wrap, IntKind.bits, IntKind.signed]; simp; omega
theorem wrap_i64_range (n : Int) : -9223372036854775808 ≤ IntKind.wrap .i64 n ∧ IntKind.wrap .i64 n ≤ 9223372036854775807 := by
  simp only [IntKind.wrap, IntKind.bits, IntKind.signed]; simp; omega
theorem wrap_u64_range (n : Int) : 0 ≤ IntKind.wrap .u64 n ∧ IntKind.wrap .u64 n < 18446744073709551616 := by
  simp only [IntKind.wrap, IntKind.bits, IntKind.signed]; simp; omega
theorem wrap_i64_eq (n : Int) : IntKind.wrap .i64 n = (if n % 18446744073709551616 ≥ 9223372036854775808 then n % 18446744073709551616 - 18446744073709551616 else n % 18446744073709551616) := by
  simp only [IntKind.wrap, IntKind.bits, IntKind.signed]; simp
theorem wrap_u64_eq (n : Int) : IntKind.wrap .u64 n = n % 18446744073709551616 := by
  simp only [IntKind.wrap, IntKind.bits, IntKind.signed]; simp

theorem br_if (b : Bool) (X Y : Prop) : br b X Y = if b = true then X else Y := by cases b <;> rfl

def bodyOf (fn : Func) : Code := fn.body.getD .skip
def subOf (p : List Nat) (c : Code) : Code := match sub p c with
  | some (.loop x) => x
  | _ => .skip
theorem sub_of {p : List Nat} {c : Code} (h : (match sub p c with | some (.loop _) => true | _ => false) = true) : sub p c = some (.loop (subOf p c)) := by
  unfold subOf
  split at h
  · rename_i x hx; rw [hx]
  · cases h

theorem acalls_of_wpc2 {P : Program} {gl : Glob} {f : FuncId} {fn : Func} {T : Tab} {L : LTab} (hn : Oper → Nat) (hf : P.funcs[f]? = some fn) (hb : fn.body.isSome = true) (hd : dstAll fn.ntmps (bodyOf fn) = true) {args : List PV} (hsz : Nat.ble args.length fn.ntmps = true) {H : Heap} {K : PV → Heap → Prop}
    (hT : TabOk P gl T) (hL : LOk P gl fn.ntmps (bodyOf fn) [] L) (h : Holds (wpc br P gl T L hn (bodyOf fn) [] (env0 args) H (resQ P fn.results.toList K))) : ACalls P gl f args H K :=
  acalls_of_wpc hn hf (by unfold bodyOf; cases hq : fn.body with
    | none => rw [hq] at hb; cases hb
    | some c => rfl) hd (Nat.le_of_ble_eq_true hsz) hT hL h.out

theorem gnone_low : GlobLow (fun _ => none) := fun k cs h => by cases h

#print axioms aw_loop3
end Go.AM
