/-
  An abstract machine over values without memory, proved against the model; part 8. A tool for the proofs of this claim; it states nothing of the program.
-/
import Derived.Test.YthabdpaipgclpaaA7
/-! AM, part 50: a cell that names a whole: its methods, amid other objects. -/
namespace Go.AM
open Go

/-- a cell that names a whole -/
def BkIs (H : Heap) (q r : Nat) (R : Rep) : Prop := H[q]? = some (.cells [.ptr r 0]) ∧ H[r]? = some (.abs R)
theorem book_sub {H : Heap} {q r : Nat} {R : Rep} (h : BkIs H q r R) : Sub (fun o => if o = 0 then q else r) [.cells [.ptr 1 0], .abs R] H := by
  obtain ⟨h1, h2⟩ := h
  have hq := (List.getElem?_eq_some_iff.1 h1).1
  have hr := (List.getElem?_eq_some_iff.1 h2).1
  have hne : q ≠ r := fun e => by subst e; rw [h1] at h2; cases h2
  refine ⟨fun o _ => by split <;> assumption, fun o o' k1 k2 e => ?_, fun o a ho => ?_⟩
  · simp at k1 k2
    split at e <;> split at e <;> first | omega | (exact absurd e hne) | (exact absurd e.symm hne)
  · have k1 := (List.getElem?_eq_some_iff.1 ho).1
    simp at k1
    have : o = 0 ∨ o = 1 := by omega
    rcases this with rfl | rfl
    · cases ho
      refine ⟨_, h1, .cells (.cons ?_ .nil)⟩
      exact .ptr (ρ := fun o => if o = 0 then q else r) 1 0 (by simp)
    · cases ho
      exact ⟨_, h2, .abs _⟩
theorem low_nm {x : PV} (h : x ∈ ([.ptr 1 0] : List PV)) : Low 2 x := by
  rcases List.mem_singleton.1 h with rfl; exact .ptr _ _ (by decide)
/-- a method of such a book, that changes its whole -/
theorem book_heap {P : Program} {gl : Glob} (hgl : GlobLow gl) {f : FuncId} {rest : List PV} {H : Heap} {q r : Nat} {R R' : Rep} {x0 : PV} {K : PV → Heap → Prop} (ho : BkIs H q r R) (hrest : ∀ x ∈ rest, Low 0 x) (hx : Low 0 x0)
    (h : ACalls P gl f (.ptr 0 0 :: rest) [.cells [.ptr 1 0], .abs R] (fun x H' => x = x0 ∧ ∃ G, H' = .cells [.ptr 1 0] :: .abs R' :: G)) (hk : K x0 (H.set r (.abs R'))) : ACalls P gl f (.ptr q 0 :: rest) H K := by
  have hq := (List.getElem?_eq_some_iff.1 ho.1).1
  have hr := (List.getElem?_eq_some_iff.1 ho.2).1
  have hne : q ≠ r := fun e => by have h1 := ho.1; rw [e, ho.2] at h1; cases h1
  have h1 : ACalls P gl f (.ptr 0 0 :: rest) [.cells [.ptr 1 0], .abs R] (fun x H' => x = x0 ∧ H' = [.cells [.ptr 1 0], .abs R']) := by
    refine h.forget fun x H' hh => ?_
    obtain ⟨rfl, G, rfl⟩ := hh
    refine ⟨[.cells [.ptr 1 0], .abs R'], G, rfl, rfl, hx.up, fun o cs ho' => ?_, rfl, rfl⟩
    have k1 := (List.getElem?_eq_some_iff.1 ho').1
    simp at k1
    have : o = 0 ∨ o = 1 := by omega
    rcases this with rfl | rfl
    · cases ho'; exact .inl rfl
    · cases ho'
  refine acalls_frame hgl (book_sub ho) (.cons (.ptr (ρ := fun o => if o = 0 then q else r) 0 0 (by simp)) (RenL.low hrest)) (acalls_to h1 fun x H' e => ?_)
  obtain ⟨rfl, rfl⟩ := e
  refine ⟨x, H.set r (.abs R'), ⟨Nat.le_refl _, by simp, fun o a ho' => ?_, fun o hl hn => ?_⟩, .low hx, hk⟩
  · have k1 := (List.getElem?_eq_some_iff.1 ho').1
    simp at k1
    have : o = 0 ∨ o = 1 := by omega
    rcases this with rfl | rfl
    · cases ho'
      refine ⟨.cells [.ptr r 0], ?_, .cells (.cons ?_ .nil), fun _ => rfl⟩
      · simp only [ρext, List.length_cons, List.length_nil]
        rw [if_pos (by omega), if_pos trivial, List.getElem?_set_ne (Ne.symm hne)]
        exact ho.1
      · have := Ren.ptr (ρ := ρext (fun o => if o = 0 then q else r) 2 H.length) (n := 2) 1 0 (by decide)
        simpa [ρext] using this
    · cases ho'
      refine ⟨.abs R', ?_, .abs _, fun _ => rfl⟩
      simp only [ρext, List.length_cons, List.length_nil]
      rw [if_pos (by omega), if_neg (by decide), List.getElem?_set_self hr]
  · have := hn 1 (by simp)
    simp at this
    rw [List.getElem?_set_ne this]
/-- a method that reads -/
theorem book_read {P : Program} {gl : Glob} (hgl : GlobLow gl) {f : FuncId} {rest : List PV} {H : Heap} {q r : Nat} {R : Rep} {x0 : PV} (ho : BkIs H q r R) (hrest : ∀ x ∈ rest, Low 0 x) (hx : Low 0 x0)
    (h : ACalls P gl f (.ptr 0 0 :: rest) [.cells [.ptr 1 0], .abs R] (fun x H' => x = x0 ∧ ∃ G, H' = .cells [.ptr 1 0] :: .abs R :: G)) : ACalls P gl f (.ptr q 0 :: rest) H (fun x H' => x = x0 ∧ H' = H) :=
  book_heap hgl ho hrest hx h ⟨rfl, set_same ho.2⟩
/-- a call that makes one: the whole first, then the cell -/
theorem book_make {P : Program} {gl : Glob} (hgl : GlobLow gl) {f : FuncId} {args : List PV} {H : Heap} {R : Rep} (hargs : ∀ x ∈ args, Low 0 x)
    (h : ACalls P gl f args [] (fun x H' => x = .ptr 0 0 ∧ H' = [.cells [.ptr 1 0], .abs R])) : ACalls P gl f args H (fun x H' => x = .ptr H.length 0 ∧ H' = H ++ [.cells [.ptr (H.length + 1) 0], .abs R]) := by
  have hsub : Sub (fun _ => 0) [] H := ⟨fun o h => absurd h (Nat.not_lt_zero _), fun o _ h => absurd h (Nat.not_lt_zero _), fun o a h => by simp at h⟩
  refine acalls_frame hgl hsub (RenL.low hargs) (acalls_to h fun x H' e => ?_)
  obtain ⟨rfl, rfl⟩ := e
  refine ⟨.ptr H.length 0, H ++ [.cells [.ptr (H.length + 1) 0], .abs R], ⟨Nat.zero_le _, by simp, fun o a ho' => ?_, fun o hl _ => ?_⟩, ?_, rfl, rfl⟩
  · have k1 := (List.getElem?_eq_some_iff.1 ho').1
    simp at k1
    have : o = 0 ∨ o = 1 := by omega
    rcases this with rfl | rfl
    · cases ho'
      refine ⟨.cells [.ptr (H.length + 1) 0], by simp [ρext], .cells (.cons ?_ .nil), fun _ => rfl⟩
      have := Ren.ptr (ρ := ρext (fun _ => 0) ([] : Heap).length H.length) (n := 2) 1 0 (by decide)
      simpa [ρext] using this
    · cases ho'
      exact ⟨.abs R, by simp [ρext], .abs _, fun _ => rfl⟩
  · rw [List.getElem?_append_left hl]
  · have := Ren.ptr (ρ := ρext (fun _ => 0) ([] : Heap).length H.length) (n := [Ob.cells [.ptr 1 0], Ob.abs R].length) 0 0 (by simp)
    simpa [ρext] using this
#print axioms book_heap
#print axioms book_make
end Go.AM

/-! AM, part 51: a call amid objects that lie behind those that it is handed. -/
namespace Go.AM
open Go

/-- a value that speaks of the first objects, plainly -/
inductive Lid (n : Nat) : PV → Prop where
  | low {x : PV} (h : Low 0 x) : Lid n x
  | arr (o off len cap : Nat) (h : o < n) : Lid n (.arr o off len cap)
  | ptr (o off : Nat) (h : o < n) : Lid n (.ptr o off)
theorem Lid.up {n m : Nat} {x : PV} (h : Lid n x) (hm : n ≤ m) : Lid m x := by
  cases h with
  | low h => exact .low h
  | arr o off len cap h => exact .arr _ _ _ _ (by omega)
  | ptr o off h => exact .ptr _ _ (by omega)
theorem Lid.ren {n : Nat} {x : PV} (h : Lid n x) {ρ : Nat → Nat} (hρ : ∀ o, o < n → ρ o = o) : Ren ρ n x x := by
  cases h with
  | low h => exact .low h
  | arr o off len cap h =>
    have := Ren.arr (ρ := ρ) (n := n) o off len cap h
    rwa [hρ o h] at this
  | ptr o off h =>
    have := Ren.ptr (ρ := ρ) (n := n) o off h
    rwa [hρ o h] at this
theorem lid_renL {n : Nat} {ρ : Nat → Nat} (hρ : ∀ o, o < n → ρ o = o) : ∀ {xs : List PV}, (∀ x ∈ xs, Lid n x) → RenL ρ n xs xs
  | [], _ => .nil
  | x :: xs, h => .cons ((h x (by simp)).ren hρ) (lid_renL hρ fun y hy => h y (by simp [hy]))
/-- objects that speak of the first ones -/
def LidH (n : Nat) (X : Heap) : Prop := ∀ (o : Nat) cs, X[o]? = some (.cells cs) → ∀ x ∈ cs, Lid n x
theorem lid_ob {n N : Nat} {ρ : Nat → Nat} (hρ : ∀ o, o < n → ρ o = o) {X : Heap} (h : LidH n X) {o : Nat} {a : Ob} (ho : X[o]? = some a) (hN : N = n) : RenOb ρ N a a := by
  subst hN
  cases a with
  | cells cs => exact .cells (lid_renL hρ (h o cs ho))
  | tok => exact .tok
  | dead => exact .dead _
  | abs r => exact .abs _
theorem sub_tail {X G : Heap} (h : LidH X.length X) : Sub (fun o => o) X (X ++ G) :=
  ⟨fun o h => by rw [List.length_append]; omega, fun _ _ _ _ e => e, fun o a ho => ⟨a, get_pre ho, lid_ob (fun _ _ => rfl) h ho rfl⟩⟩
theorem ρext_tail {X G : Heap} {o : Nat} (h : o < X.length) : ρext (fun o => o) X.length (X ++ G).length o = o := by
  unfold ρext; rw [if_pos h]
theorem tail_same {X X' G : Heap} (hl : X'.length = X.length) (h : LidH X.length X') : Behind (fun o => o) X (X ++ G) X' (X' ++ G) := by
  refine ⟨by omega, by simp [hl], fun o a ho => ?_, fun o h1 h2 => ?_⟩
  · have hlt := (List.getElem?_eq_some_iff.1 ho).1
    refine ⟨a, by rw [ρext_tail (by omega)]; exact get_pre ho, lid_ob (n := X.length) (fun q hq => ρext_tail hq) h ho hl, fun h => h⟩
  · rcases Nat.lt_or_ge o X.length with q | q
    · exact absurd rfl (h2 o q)
    · rw [List.getElem?_append_right (by omega), List.getElem?_append_right q, hl]
theorem tail_more {X X' G : Heap} {n : List PV} (hl : X'.length = X.length) (h : LidH X.length X') (hn : ∀ x ∈ n, Low 0 x) : Behind (fun o => o) X (X ++ G) (X' ++ [.cells n]) (X' ++ G ++ [.cells n]) := by
  refine ⟨by simp [hl], by simp [hl]; omega, fun o a ho => ?_, fun o h1 h2 => ?_⟩
  · have hlt := (List.getElem?_eq_some_iff.1 ho).1
    rw [List.length_append, List.length_singleton] at hlt
    rcases Nat.lt_or_ge o X.length with q | q
    · rw [List.getElem?_append_left (by omega)] at ho
      refine ⟨a, by rw [ρext_tail q, List.append_assoc]; exact get_pre ho, ?_, fun h => h⟩
      cases a with
      | cells cs =>
        have hh := h o cs ho
        refine .cells ?_
        have : ∀ {xs : List PV}, (∀ x ∈ xs, Lid X.length x) → RenL (ρext (fun o => o) X.length (X ++ G).length) (X' ++ [Ob.cells n]).length xs xs := by
          intro xs
          induction xs with
          | nil => intro _; exact .nil
          | cons x xs ih =>
            intro hx
            refine .cons ?_ (ih fun y hy => hx y (by simp [hy]))
            have h0 := hx x (by simp)
            cases h0 with
            | low h => exact .low h
            | arr o off len cap h =>
              have := Ren.arr (ρ := ρext (fun o => o) X.length (X ++ G).length) (n := (X' ++ [Ob.cells n]).length) o off len cap (by simp; omega)
              rwa [ρext_tail h] at this
            | ptr o off h =>
              have := Ren.ptr (ρ := ρext (fun o => o) X.length (X ++ G).length) (n := (X' ++ [Ob.cells n]).length) o off (by simp; omega)
              rwa [ρext_tail h] at this
        exact this hh
      | tok => exact .tok
      | dead => exact .dead _
      | abs r => exact .abs _
    · have e : o = X'.length := by omega
      subst e
      rw [List.getElem?_append_right (Nat.le_refl _), Nat.sub_self] at ho
      cases ho
      refine ⟨.cells n, ?_, .cells (RenL.low hn), fun h => h⟩
      have : ρext (fun o => o) X.length (X ++ G).length X'.length = (X' ++ G).length := by unfold ρext; rw [if_neg (by omega)]; simp [hl]
      rw [this, List.getElem?_append_right (Nat.le_refl _), Nat.sub_self]; rfl
  · rcases Nat.lt_or_ge o X.length with q | q
    · exact absurd rfl (h2 o q)
    · rw [List.length_append] at h1
      rw [List.getElem?_append_left (by simp; omega), List.getElem?_append_right (by omega), List.getElem?_append_right q, hl]
theorem new_tail {X X' G : Heap} (hl : X'.length = X.length) {n : List PV} {len cap : Nat} : Ren (ρext (fun o => o) X.length (X ++ G).length) (X' ++ [Ob.cells n]).length (.arr X.length 0 len cap) (.arr (X.length + G.length) 0 len cap) := by
  have := Ren.arr (ρ := ρext (fun o => o) X.length (X ++ G).length) (n := (X' ++ [Ob.cells n]).length) X.length 0 len cap (by simp; omega)
  have e : ρext (fun o => o) X.length (X ++ G).length X.length = X.length + G.length := by unfold ρext; rw [if_neg (by omega)]; simp
  rwa [e] at this
theorem acalls_tail {P : Program} {gl : Glob} (hgl : GlobLow gl) {f : FuncId} {args : List PV} {X G : Heap} {K : PV → Heap → Prop} (ha : ∀ x ∈ args, Lid X.length x) (hX : LidH X.length X)
    (h : ACalls P gl f args X (fun x X' => ∃ y H', Behind (fun o => o) X (X ++ G) X' H' ∧ Ren (ρext (fun o => o) X.length (X ++ G).length) X'.length x y ∧ K y H')) : ACalls P gl f args (X ++ G) K :=
  acalls_frame hgl (sub_tail hX) (lid_renL (fun _ _ => rfl) ha) h
/-- a call that only reads -/
theorem read_tail {P : Program} {gl : Glob} (hgl : GlobLow gl) {f : FuncId} {args : List PV} {X G : Heap} {r : PV} (ha : ∀ x ∈ args, Lid X.length x) (hX : LidH X.length X) (hr : Low 0 r)
    (h : ACalls P gl f args X (fun x H' => x = r ∧ H' = X)) : ACalls P gl f args (X ++ G) (fun x H' => x = r ∧ H' = X ++ G) :=
  acalls_tail hgl ha hX (acalls_to h fun x H' e => ⟨r, X ++ G, by rw [e.2]; exact tail_same rfl hX, by rw [e.1]; exact .low hr, rfl, rfl⟩)
theorem lidH_two {n : Nat} {a b : List PV} (ha : ∀ x ∈ a, Lid n x) (hb : ∀ x ∈ b, Lid n x) : LidH n [.cells a, .cells b] := by
  intro o cs ho
  have k1 := (List.getElem?_eq_some_iff.1 ho).1
  simp at k1
  have : o = 0 ∨ o = 1 := by omega
  rcases this with rfl | rfl
  · cases ho; exact ha
  · cases ho; exact hb
theorem lidH_one {n : Nat} {a : List PV} (ha : ∀ x ∈ a, Lid n x) : LidH n [.cells a] := by
  intro o cs ho
  have k1 := (List.getElem?_eq_some_iff.1 ho).1
  simp at k1
  subst k1
  cases ho; exact ha
end Go.AM

/-! AM, part 52: a drawn region with one call that may end in several ways: what is done ahead of it, or beside it without memory; what waits for it. -/
namespace Go.AM
open Go

/-- without memory, and apart from an operation -/
def apartC (ops : Array Oper) (hn : Oper → Nat) (oc oa : Oper) : Bool :=
  (match cl (hn oa) oa.op with | some .p => true | _ => false) && (match oa.dst with | some d => !(looks ops oc).contains d && oc.dst != some d | none => true) && (match oc.dst with | some d => !(looks ops oa).contains d | none => true)
/-- what is asked of such an order: A, the call, B -/
def okOne (ops : Array Oper) (hn : Oper → Nat) (c : Nat) (A B : List Nat) : Bool :=
  let anc := ancB ops.toList
  let L := A ++ c :: B
  okEdges ops && (ops.toList.all fun o => (cl (hn o) o.op).isSome) && L.isPerm (List.range ops.size) && decide (L.Pairwise fun a b => L.idxOf a < L.idxOf b) &&
  ((A ++ B).all fun i => (A ++ B).all fun j => !Nat.blt (L.idxOf j) (L.idxOf i) || (match ops[j]?, ops[i]? with | some oj, some oi => indep ops hn oj oi || (anc.getD i []).contains j | _, _ => true)) &&
  (B.all fun b => (anc.getD b []).contains c) &&
  (match ops[c]? with
   | some oc => oc.guard.isNone && (A.all fun a => (anc.getD c []).contains a || (match ops[a]? with | some oa => apartC ops hn oc oa | none => false))
   | none => false)

theorem chain_split {P : Program} {gl : Glob} {hn : Oper → Nat} {ops : Array Oper} : ∀ {is js : List Nat} {e e2 : Env} {H H2 : Heap}, Chain P gl hn ops (is ++ js) e H e2 H2 → ∃ e1 H1, Chain P gl hn ops is e H e1 H1 ∧ Chain P gl hn ops js e1 H1 e2 H2
  | [], js, e, e2, H, H2, h => ⟨e, H, .nil e H, h⟩
  | i :: is, js, e, e2, H, H2, h => by
    cases h with
    | cons ho h1 hs =>
      obtain ⟨e1, H1, k1, k2⟩ := chain_split hs
      exact ⟨e1, H1, .cons ho h1 k1, k2⟩
theorem chain_join {P : Program} {gl : Glob} {hn : Oper → Nat} {ops : Array Oper} {is js : List Nat} {e e1 e2 : Env} {H H1 H2 : Heap} (h : Chain P gl hn ops is e H e1 H1) (h' : Chain P gl hn ops js e1 H1 e2 H2) : Chain P gl hn ops (is ++ js) e H e2 H2 := by
  induction h with
  | nil => exact h'
  | cons ho h1 _ ih => exact .cons ho h1 (ih h')
/-- a step without memory, whatever objects there are -/
theorem sd_heap {P : Program} {gl : Glob} {hn : Oper → Nat} {ops : Array Oper} {o : Oper} {e e1 : Env} {H H1 : Heap} (hc : cl (hn o) o.op = some .p) (h : SD P gl hn ops o e H e1 H1) : H1 = H ∧ ∀ H2, SD P gl hn ops o e H2 e1 H2 := by
  rcases h with ⟨r, rfl, hs, hg⟩ | ⟨rfl, rfl, h⟩
  · have h2 := hs.2
    rw [hc] at h2
    exact ⟨h2.1, fun H2 => .inl ⟨r, rfl, ⟨h2.2 H2, by rw [hc]; exact ⟨rfl, h2.2⟩⟩, hg⟩⟩
  · exact ⟨rfl, fun H2 => .inr ⟨rfl, rfl, h⟩⟩
theorem sd_dst {P : Program} {gl : Glob} {hn : Oper → Nat} {ops : Array Oper} {o : Oper} {e e1 : Env} {H H1 : Heap} (h : SD P gl hn ops o e H e1 H1) : ∃ r, e1 = upd e o.dst r := by
  rcases h with ⟨r, rfl, _⟩ | ⟨rfl, _⟩
  · exact ⟨r, rfl⟩
  · exact ⟨_, rfl⟩
theorem chain_apart {P : Program} {gl : Glob} {hn : Oper → Nat} {ops : Array Oper} {oc : Oper} : ∀ {is : List Nat} {e e2 : Env} {H H2 : Heap}, (∀ i ∈ is, ∀ oa, ops[i]? = some oa → apartC ops hn oc oa = true) → Chain P gl hn ops is e H e2 H2 →
    H2 = H ∧ (∀ y ∈ oc.op.operands, ev gl e2 y = ev gl e y) ∧ ∀ x H', Chain P gl hn ops is (upd e oc.dst x) H' (upd e2 oc.dst x) H'
  | [], e, e2, H, H2, _, h => by cases h; exact ⟨rfl, fun _ _ => rfl, fun x H' => .nil _ _⟩
  | i :: is, e, e2, H, H2, hp, h => by
    cases h with
    | cons ho h1 hs =>
      rename_i o e1 H1
      have ha := hp i (by simp) o ho
      simp only [apartC, Bool.and_eq_true] at ha
      obtain ⟨⟨a1, a2⟩, a3⟩ := ha
      have hc : cl (hn o) o.op = some .p := by split at a1; assumption; cases a1
      obtain ⟨rfl, hall⟩ := sd_heap hc h1
      obtain ⟨k1, k2, k3⟩ := chain_apart (fun j hj => hp j (by simp [hj])) hs
      refine ⟨k1, fun y hy => ?_, fun x H' => .cons ho ?_ (k3 x H')⟩
      · rw [k2 y hy]
        obtain ⟨r, rfl⟩ := sd_dst h1
        exact looks_op (ops := ops) (o := oc) (fun t ht => by rw [ht] at a2; simp only [Bool.and_eq_true] at a2; simpa using a2.1) y hy
      · exact sd_env' (fun t ht => by rw [ht] at a3; simpa using a3) (fun t ht e => by
          rw [e] at a2
          simp only [Bool.and_eq_true, bne_iff_ne, ne_eq] at a2
          exact a2.2 ht) (hall H')
/-- a row of steps, and what comes behind -/
theorem chain_then {P : Program} {gl : Glob} {hn : Oper → Nat} {n : Nat} {ops : Array Oper} (hd : ops.toList.all (dstLt n) = true) {Q : Exit → Act → World → Prop} {js : List Nat} {e2 : Env} {H2 : Heap} : ∀ (is : List Nat) (g : Gh) (e : Env) (H : Heap) (a : Act) (w : World),
    St gl n g e H a w → Chain P gl hn ops is e H e2 H2 → (∀ g' a' w', St gl n g' e2 H2 a' w' → Ext g H w g' H2 w' → wpOps P ops Q js a' w') →
    wpOps P ops Q (is ++ js) a w := by
  intro is
  induction is with
  | nil =>
    intro g e H a w hst h hk
    cases h
    exact hk g a w hst (.refl _ _ _)
  | cons i is ih =>
    intro g e H a w hst h hk
    cases h with
    | cons ho h1 hs =>
      rename_i o e1 H1
      have hmem : o ∈ ops.toList := by
        obtain ⟨hlt, he⟩ := Array.getElem?_eq_some_iff.1 ho
        rw [← he]; exact Array.getElem_mem_toList hlt
      have hdo : ∀ t, o.dst = some t → t < n := by
        intro t ht
        have := List.all_eq_true.1 hd o hmem
        simpa [dstLt, ht] using this
      rw [List.cons_append]
      unfold wpOps
      rw [ho]
      simp only
      rcases h1 with ⟨r, rfl, hst1, hg⟩ | ⟨rfl, rfl, j, want, d, hg, hdd, hb⟩
      · have hw : Region.wanted o (yielded ops a.tmps) = true := by
          unfold Region.wanted
          split at hg
          · rename_i hgn; rw [hgn]
          · rename_i j want hgs
            obtain ⟨d, hdd, hb⟩ := hg
            rw [hgs]
            simp [yielded_of hst hdd hb]
        rw [if_pos hw]
        left
        have hno := opw_sound hst.sim hst.glob (o := o) (a := a) (fun x => hst.env.ev hst.glob x) hst1.1
        have cont : ∀ (g1 : Gh) (H1' : Heap) (w1 : World) (x : PV) (v : Value), Sim g1 H1' w1 → Ext g H w g1 H1' w1 → Rel g1 w1 x v → (x = r ∧ H1' = H1) →
            wpOps P ops Q (is ++ js) (a.put o.dst v) w1 := by
          rintro g1 H1' w1 x v k1 k2 k3 ⟨rfl, rfl⟩
          exact ih g1 (upd e o.dst x) H1' (a.put o.dst v) w1 (hst.next k1 k2 k3 o.dst hdo) hs fun g' a' w' j1 j2 => hk g' a' w' j1 (k2.trans j2)
        unfold Oper.wp
        rcases hno with ⟨v, w', g', H', x, h1, h2, h3, h4, h5⟩ | ⟨w', g', H', h1, h2, h3, h4⟩ | ⟨f, vs, h1, h2⟩
        · rw [h1]; exact cont g' H' w' x v h2 h3 h4 h5
        · rw [h1]; exact cont g' H' w' (.tup []) undef h2 h3 (undef_rel g' w') h4
        · rw [h1]
          refine h2.mono ?_
          rintro ex w' ⟨v, g', H', x, rfl, k1, k2, k3, k4⟩
          exact cont g' H' w' x v k1 k2 k3 k4
      · have hw : ¬ Region.wanted o (yielded ops a.tmps) = true := by
          unfold Region.wanted
          rw [hg]
          rcases hb with hb | hb
          · simp [yielded_of hst hdd hb]
          · simp [yielded_none hst hdd hb]
        rw [if_neg hw]
        exact ih g (upd e o.dst (.tup [])) _ (a.put o.dst undef) w (hst.next hst.sim (.refl _ _ _) (undef_rel g w) o.dst hdo) hs hk
/-- one operation that may end in several ways, and what comes behind -/
theorem op_then {P : Program} {gl : Glob} {m : Nat} {n : Nat} {ops : Array Oper} (hd : ops.toList.all (dstLt n) = true) {Q : Exit → Act → World → Prop} {js : List Nat} {c : Nat} {o : Oper} (ho : ops[c]? = some o) (hg : o.guard = none)
    {g : Gh} {e : Env} {H : Heap} {a : Act} {w : World} (hst : St gl n g e H a w) {K : PV → Heap → Prop} (h : opw P gl o.op m (ev gl e) H K)
    (hk : ∀ x H' g' a' w', K x H' → St gl n g' (upd e o.dst x) H' a' w' → Ext g H w g' H' w' → wpOps P ops Q js a' w') : wpOps P ops Q (c :: js) a w := by
  have hmem : o ∈ ops.toList := by
    obtain ⟨hlt, he⟩ := Array.getElem?_eq_some_iff.1 ho
    rw [← he]; exact Array.getElem_mem_toList hlt
  have hdo : ∀ t, o.dst = some t → t < n := by
    intro t ht
    have := List.all_eq_true.1 hd o hmem
    simpa [dstLt, ht] using this
  unfold wpOps
  rw [ho]
  simp only
  rw [if_pos (by unfold Region.wanted; rw [hg])]
  left
  have hno := opw_sound hst.sim hst.glob (o := o) (a := a) (fun x => hst.env.ev hst.glob x) h
  have cont : ∀ (g1 : Gh) (H1' : Heap) (w1 : World) (x : PV) (v : Value), Sim g1 H1' w1 → Ext g H w g1 H1' w1 → Rel g1 w1 x v → K x H1' → wpOps P ops Q js (a.put o.dst v) w1 :=
    fun g1 H1' w1 x v k1 k2 k3 k4 => hk x H1' g1 _ w1 k4 (hst.next k1 k2 k3 o.dst hdo) k2
  unfold Oper.wp
  rcases hno with ⟨v, w', g', H', x, h1, h2, h3, h4, h5⟩ | ⟨w', g', H', h1, h2, h3, h4⟩ | ⟨f, vs, h1, h2⟩
  · rw [h1]; exact cont g' H' w' x v h2 h3 h4 h5
  · rw [h1]; exact cont g' H' w' (.tup []) undef h2 h3 (undef_rel g' w') h4
  · rw [h1]
    refine h2.mono ?_
    rintro ex w' ⟨v, g', H', x, rfl, k1, k2, k3, k4⟩
    exact cont g' H' w' x v k1 k2 k3 k4
/-- the condition: A in this order, the call, B in this order -/
def oneW (B : Bool → Prop → Prop → Prop) (P : Program) (gl : Glob) (T : Tab) (hn : Oper → Nat) (ops : Array Oper) (c : Nat) (A Bs : List Nat) (e : Env) (H : Heap) (Q : Env → Heap → Prop) : Prop :=
  regc B P gl T hn true ops (inOrder ops A) e H fun e1 H1 => match ops[c]? with
    | some o => match o.op with
      | .call cc => callc B P T cc (hn o) false (ev gl e1) H1 fun x H' => regc B P gl T hn true ops (inOrder ops Bs) (upd e1 o.dst x) H' Q
      | _ => False
    | none => False
theorem aw_one {P : Program} {gl : Glob} {n : Nat} {T : Tab} (hT : TabOk P gl T) {hn : Oper → Nat} {id : Nat} {ops : Array Oper} {Q : Ex → Env → Heap → Prop} {e : Env} {H : Heap} (c : Nat) (A B : List Nat)
    (hok : okOne ops hn c A B = true) (h : oneW br P gl T hn ops c A B e H (Q .normal)) : AW P gl n (.region id ops true) Q e H := by
  intro hd g a w hst
  simp only [okOne, Bool.and_eq_true, decide_eq_true_eq] at hok
  obtain ⟨⟨⟨⟨⟨⟨h1, h2⟩, h3⟩, h4⟩, h5⟩, h6⟩, h7⟩ := hok
  have hcl : ∀ o ∈ ops.toList, (cl (hn o) o.op).isSome = true := List.all_eq_true.1 h2
  have hperm : (A ++ c :: B).Perm (List.range ops.size) := List.isPerm_iff.1 h3
  have ndL : (A ++ c :: B).Nodup := hperm.nodup_iff.2 List.nodup_range
  have hlt : ∀ i ∈ A ++ c :: B, i < ops.size := fun i hi => by simpa using hperm.subset hi
  generalize hrk : (fun i => (A ++ c :: B).idxOf i) = rk at *
  have h4' : (A ++ c :: B).Pairwise (fun a b => rk a < rk b) := by rw [← hrk]; exact h4
  cases hoc : ops[c]? with
  | none => rw [hoc] at h7; cases h7
  | some oc =>
  rw [hoc] at h7
  simp only [Bool.and_eq_true] at h7
  obtain ⟨h7, h8⟩ := h7
  have hgd : oc.guard = none := by simpa using h7
  -- the canonical run
  have hr := regc_sound_draw hT (inOrder ops A) e H h
  obtain ⟨eA, HA, chA, hK⟩ := regd_chain hcl A (inOrder ops A) e H (inOrder_map fun i hi => hlt i (by simp [hi])) hr
  rw [hoc] at hK
  simp only at hK
  cases hop : oc.op <;> rw [hop] at hK <;> try (exact hK.elim)
  rename_i cc
  simp only at hK
  have hcall : opw P gl oc.op (hn oc) (ev gl eA) HA (fun x H' => ∃ e2 H2, Chain P gl hn ops B (upd eA oc.dst x) H' e2 H2 ∧ Q .normal e2 H2) := by
    rw [hop]
    refine opw_mono ((callc_sound hT hK).1 rfl) fun x H' hx => ?_
    exact regd_chain hcl B (inOrder ops B) _ _ (inOrder_map fun i hi => hlt i (by simp [hi])) (regc_sound_draw hT _ _ _ hx)
  -- the order that was drawn
  refine wp_region_draw fun t => ?_
  have hst' : St gl n g e H a w.drew := ⟨hst.sim.drew, hst.glob.mono (Gext.drew g w), hst.env.mono (Gext.drew g w), hst.dfr⟩
  obtain ⟨hp, hanc⟩ := schedule_anc h1 (P.follows .mixedOrders) t
  generalize Region.schedule (P.follows .mixedOrders) ops t = σ at hp hanc
  have hσ : σ.Perm (A ++ c :: B) := hp.trans hperm.symm
  have ndσ : σ.Nodup := hσ.nodup_iff.2 ndL
  have hcσ : c ∈ σ := hσ.symm.subset (by simp)
  obtain ⟨σ1, σ2, rfl⟩ := List.append_of_mem hcσ
  obtain ⟨an1, an2, an3⟩ := List.pairwise_append.1 hanc
  obtain ⟨an4, an5⟩ := List.pairwise_cons.1 an2
  obtain ⟨nd1, nd2, nd3⟩ := List.pairwise_append.1 ndσ
  obtain ⟨nd4, nd5⟩ := List.pairwise_cons.1 nd2
  have hcA : c ∉ A := fun hc => (List.pairwise_append.1 ndL).2.2 c hc c (by simp) rfl
  have hs1 : ∀ i ∈ σ1, i ∈ A := by
    intro i hi
    have hm : i ∈ A ++ c :: B := hσ.subset (by simp [hi])
    rcases List.mem_append.1 hm with hm | hm
    · exact hm
    · rcases List.mem_cons.1 hm with rfl | hm
      · exact absurd rfl (nd3 i hi i (by simp))
      · exfalso
        have k1 := List.all_eq_true.1 h6 i hm
        have k2 := an3 i hi c (by simp)
        rw [k1] at k2; cases k2
  have hpair : ∀ i j, i ∈ A ++ B → j ∈ A ++ B → ((ancB ops.toList).getD i []).contains j = false → rk j < rk i → ∀ oj oi, ops[j]? = some oj → ops[i]? = some oi → indep ops hn oj oi = true := by
    intro i j hi hj hno hlt2 oj oi hoj hoi
    have k := List.all_eq_true.1 (List.all_eq_true.1 h5 i hi) j hj
    rw [hoj, hoi] at k
    have hbl : Nat.blt ((A ++ c :: B).idxOf j) ((A ++ c :: B).idxOf i) = true := by
      rw [Nat.blt_eq]
      rw [← hrk] at hlt2
      exact hlt2
    rw [hbl, hno] at k
    simpa using k
  let p : Nat → Bool := fun i => decide (i ∈ σ2)
  have hP : (A.filter p).Perm (A.filter p) := List.Perm.refl _
  have ndA : A.Nodup := (List.pairwise_append.1 ndL).1
  have hperm1 : (σ1 ++ A.filter p).Perm A := by
    refine (List.perm_ext_iff_of_nodup ?_ ndA).2 fun x => ?_
    · refine List.pairwise_append.2 ⟨nd1, List.Pairwise.filter _ ndA, fun x hx y hy => ?_⟩
      have := (List.mem_filter.1 hy).2
      exact nd3 x hx y (by simp [p] at this; simp [this])
    · rw [List.mem_append, List.mem_filter]
      constructor
      · rintro (hx | ⟨hx, _⟩)
        · exact hs1 x hx
        · exact hx
      · intro hx
        have hm : x ∈ σ1 ++ c :: σ2 := hσ.symm.subset (by simp [hx])
        rcases List.mem_append.1 hm with hm | hm
        · exact .inl hm
        · rcases List.mem_cons.1 hm with hm | hm
          · exact absurd (hm ▸ hx) hcA
          · exact .inr ⟨hx, by simp [p, hm]⟩
  have hperm2 : σ2.Perm (A.filter p ++ B) := by
    have k1 : (σ1 ++ c :: σ2).Perm (σ1 ++ (A.filter p ++ c :: B)) := by
      rw [← List.append_assoc]
      exact hσ.trans (List.Perm.append_right _ hperm1.symm)
    have k2 := (List.perm_append_left_iff σ1).1 k1
    exact (List.perm_cons c).1 (k2.trans List.perm_middle)
  have sA : A.Pairwise (fun a b => rk a < rk b) := (List.pairwise_append.1 h4').1
  have sPB : (A.filter p ++ B).Pairwise (fun a b => rk a < rk b) := h4'.sublist (List.Sublist.append List.filter_sublist (List.sublist_cons_self c B))
  have inAB : ∀ i ∈ σ2, i ∈ A ++ B := fun i hi => by
    have := hperm2.subset hi
    rcases List.mem_append.1 this with h | h
    · exact List.mem_append_left _ (List.mem_filter.1 h).1
    · exact List.mem_append_right _ h
  have R1 : (σ1 ++ A.filter p).Pairwise (RespK rk ops hn) := by
    refine List.pairwise_append.2 ⟨?_, ?_, ?_⟩
    · refine List.Pairwise.imp_of_mem (fun {i j} hi hj hno => ?_) an1
      exact fun hr => hpair i j (List.mem_append_left _ (hs1 i hi)) (List.mem_append_left _ (hs1 j hj)) hno hr
    · refine List.Pairwise.imp (fun {i j} hij hr => ?_) (sA.sublist List.filter_sublist)
      exact absurd hr (Nat.not_lt.2 (Nat.le_of_lt hij))
    · intro i hi j hj hr
      have hj2 : j ∈ σ2 := by have := (List.mem_filter.1 hj).2; simpa [p] using this
      exact hpair i j (List.mem_append_left _ (hs1 i hi)) (List.mem_append_left _ (List.mem_filter.1 hj).1) (an3 i hi j (by simp [hj2])) hr
  have R2 : σ2.Pairwise (RespK rk ops hn) := by
    refine List.Pairwise.imp_of_mem (fun {i j} hi hj hno => ?_) an5
    exact fun hr => hpair i j (inAB i hi) (inAB j hj) hno hr
  have ch1 := perm_chain2 rk (σ1 ++ A.filter p) A e H eA HA sA hperm1 R1 chA
  obtain ⟨e1, H1, c1, c2⟩ := chain_split ch1
  have hap : ∀ i ∈ A.filter p, ∀ oa, ops[i]? = some oa → apartC ops hn oc oa = true := by
    intro i hi oa hoa
    have hi2 : i ∈ σ2 := by have := (List.mem_filter.1 hi).2; simpa [p] using this
    have k := List.all_eq_true.1 h8 i (List.mem_filter.1 hi).1
    rw [an4 i hi2, hoa] at k
    simpa using k
  obtain ⟨rfl, hev, hch⟩ := chain_apart hap c2
  have hcall1 := opw_congr (ρ' := ev gl e1) hev hcall
  refine chain_then hd σ1 g e H a w.drew hst' c1 fun g1 a1 w1 s1 x1 => ?_
  refine op_then hd hoc hgd s1 hcall1 fun x H' g2 a2 w2 hx s2 x2 => ?_
  obtain ⟨e2, H2, cB, hq⟩ := hx
  have ch2 := perm_chain2 rk σ2 (A.filter p ++ B) _ _ _ _ sPB hperm2 R2 (chain_join (hch x H') cB)
  have := chain_sound hd σ2 g2 _ _ a2 w2 s2 ch2
  refine wpOps_mono _ ?_ _ _ this
  rintro ex a' w' ⟨g', rfl, k1, k2⟩
  exact ⟨.normal, g', e2, H2, trivial, k1, (Ext.drew g H w).trans (x1.trans (x2.trans k2)), hq⟩
/-- the same, as a piece of code -/
def oneL (B : Bool → Prop → Prop → Prop) (P : Program) (gl : Glob) (T : Tab) (hn : Oper → Nat) (cd : Code) (c : Nat) (A Bs : List Nat) : LSp := fun e H Q => oneW B P gl T hn (opsOf cd) c A Bs e H (Q .normal)
theorem oneL_ok {P : Program} {gl : Glob} {n : Nat} {T : Tab} (hT : TabOk P gl T) {hn : Oper → Nat} {cd : Code} (hd : isDraw cd = true) {c : Nat} {A B : List Nat} (hok : okOne (opsOf cd) hn c A B = true) :
    ∀ e H Q, oneL br P gl T hn cd c A B e H Q → AW P gl n cd Q e H := by
  intro e H Q h
  cases cd <;> try (simp only [isDraw] at hd; cases hd; done)
  rename_i id ops d
  have hd : d = true := hd
  subst hd
  exact aw_one hT c A B hok h
#print axioms oneL_ok
end Go.AM

/-! AM, part 53: a call that makes a whole, and a cell that names it. -/
namespace Go.AM
open Go
theorem book_make2 {P : Program} {gl : Glob} (hgl : GlobLow gl) {f : FuncId} {args : List PV} {H : Heap} {R : Rep} (hargs : ∀ x ∈ args, Low 0 x)
    (h : ACalls P gl f args [] (fun x H' => x = .ptr 1 0 ∧ H' = [.abs R, .cells [.ptr 0 0]])) : ACalls P gl f args H (fun x H' => x = .ptr (H.length + 1) 0 ∧ H' = H ++ [.abs R, .cells [.ptr H.length 0]]) := by
  have hsub : Sub (fun _ => 0) [] H := ⟨fun o h => absurd h (Nat.not_lt_zero _), fun o _ h => absurd h (Nat.not_lt_zero _), fun o a h => by simp at h⟩
  refine acalls_frame hgl hsub (RenL.low hargs) (acalls_to h fun x H' e => ?_)
  obtain ⟨rfl, rfl⟩ := e
  refine ⟨.ptr (H.length + 1) 0, H ++ [.abs R, .cells [.ptr H.length 0]], ⟨Nat.zero_le _, by simp, fun o a ho' => ?_, fun o hl _ => ?_⟩, ?_, rfl, rfl⟩
  · have k1 := (List.getElem?_eq_some_iff.1 ho').1
    simp at k1
    have : o = 0 ∨ o = 1 := by omega
    rcases this with rfl | rfl
    · cases ho'
      exact ⟨.abs R, by simp [ρext], .abs _, fun _ => rfl⟩
    · cases ho'
      refine ⟨.cells [.ptr H.length 0], by simp [ρext], .cells (.cons ?_ .nil), fun _ => rfl⟩
      have := Ren.ptr (ρ := ρext (fun _ => 0) ([] : Heap).length H.length) (n := 2) 0 0 (by decide)
      simpa [ρext] using this
  · rw [List.getElem?_append_left hl]
  · have := Ren.ptr (ρ := ρext (fun _ => 0) ([] : Heap).length H.length) (n := [Ob.abs R, Ob.cells [.ptr 0 0]].length) 1 0 (by simp)
    simpa [ρext] using this
theorem low_two {n : Nat} {a b : PV} (ha : Low n a) (hb : Low n b) : ∀ x ∈ [a, b], Low n x := by
  intro x hx; simp only [List.mem_cons, List.not_mem_nil, or_false] at hx; rcases hx with rfl | rfl <;> assumption
theorem low_three {n : Nat} {a b c : PV} (ha : Low n a) (hb : Low n b) (hc : Low n c) : ∀ x ∈ [a, b, c], Low n x := by
  intro x hx; simp only [List.mem_cons, List.not_mem_nil, or_false] at hx; rcases hx with rfl | rfl | rfl <;> assumption
theorem low_four {n : Nat} {a b c d : PV} (ha : Low n a) (hb : Low n b) (hc : Low n c) (hd : Low n d) : ∀ x ∈ [a, b, c, d], Low n x := by
  intro x hx; simp only [List.mem_cons, List.not_mem_nil, or_false] at hx; rcases hx with rfl | rfl | rfl | rfl <;> assumption
theorem low_one {n : Nat} {a : PV} (ha : Low n a) : ∀ x ∈ [a], Low n x := by
  intro x hx; rcases List.mem_singleton.1 hx with rfl; assumption
theorem low_zero {n : Nat} : ∀ x ∈ ([] : List PV), Low n x := fun _ h => nomatch h
end Go.AM

/-! AM, part 54: words for loops that grow a row. -/
namespace Go.AM
open Go
theorem appL_map {α : Type} {f : α → List PV} {sz by_ : Nat} (hf : ∀ a, (f a).length = sz) (l : List α) (a : α) (hb : (l.length + 1) * by_ ≤ 140737488355328) : AppL (l.map f) [f a] sz by_ :=
  ⟨uni_map hf l, (by intro e he; rcases List.mem_singleton.1 he with rfl; exact hf a), by rw [List.length_map]; exact hb⟩
theorem one_row {α : Type} {f : α → List PV} (h1 : ∀ a, ∀ y ∈ f a, y.one = true) (a : α) : (f a).all PV.one = true ∧ [f a] ≠ [] := ⟨List.all_eq_true.2 (h1 a), List.cons_ne_nil _ _⟩
theorem growQ_add {α σ : Type} {f : α → List PV} {acc : σ → List α} {I : σ → Prop} {m : σ → Nat} {Q : Ex → Env → Heap → Prop} {B : Heap} {slots : List Nat} {V : PV → σ → List PV} {s : σ} (s' : σ) {L : List α} {vs : List PV} {H' : Heap} (h1 : m s' < m s) (h2 : I s') (hacc : acc s' = L) (hne : L ≠ [])
    (X : Heap) (k : Nat) (hX : H' = B ++ X) (hk : (B ++ X)[k]? = some .tok) (hle : B.length ≤ k) (hv : vs = V (.list (L.map f) (.tok k)) s') : growQ f acc I m Q B slots V s .normal vs H' :=
  ⟨s', h1, h2, .inr ⟨by rw [hacc]; exact hne, X, k, hX, hk, hle, by rw [hacc]; exact hv⟩⟩
theorem growQ_none {α σ : Type} {f : α → List PV} {acc : σ → List α} {I : σ → Prop} {m : σ → Nat} {Q : Ex → Env → Heap → Prop} {B : Heap} {slots : List Nat} {V : PV → σ → List PV} {s : σ} (s' : σ) {vs : List PV} {H' : Heap} (h1 : m s' < m s) (h2 : I s') (hacc : acc s' = [])
    (X : Heap) (hX : H' = B ++ X) (hv : vs = V (.list [] .exact) s') : growQ f acc I m Q B slots V s .normal vs H' :=
  ⟨s', h1, h2, .inl ⟨hacc, X, hX, hv⟩⟩
theorem growQ_exit {α σ : Type} {f : α → List PV} {acc : σ → List α} {I : σ → Prop} {m : σ → Nat} {Q : Ex → Env → Heap → Prop} {B : Heap} {slots : List Nat} {V : PV → σ → List PV} {s : σ} {j : Nat} {vs : List PV} {H' : Heap} (h : Q (.exit j) (envS slots vs) H') : growQ f acc I m Q B slots V s (.exit j) vs H' :=
  ⟨vs, H', .refl _, .refl _, h⟩
theorem growQ_end {α σ : Type} {f : α → List PV} {acc : σ → List α} {I : σ → Prop} {m : σ → Nat} {Q : Ex → Env → Heap → Prop} {B : Heap} {slots : List Nat} {V : PV → σ → List PV} {s : σ} {j : Nat} {vs vs2 : List PV} {H' H2 : Heap} (hw : WkL vs vs2) (hp : Pad H' H2) (h : Q (.exit j) (envS slots vs2) H2) : growQ f acc I m Q B slots V s (.exit j) vs H' :=
  ⟨vs2, H2, hw, hp, h⟩
theorem filter_take {α : Type} {p : α → Bool} {l : List α} {i : Nat} (d : α) (h : i < l.length) : (l.take (i + 1)).filter p = (l.take i).filter p ++ (if p (l.getD i d) = true then [l.getD i d] else []) := by
  rw [take_snoc d h, List.filter_append]
  congr 1
  by_cases c : p (l.getD i d) = true
  · rw [if_pos c, List.filter_cons_of_pos c]; rfl
  · rw [if_neg c, List.filter_cons_of_neg c]; rfl
theorem filter_take_le {α : Type} (p : α → Bool) (l : List α) (i : Nat) : ((l.take i).filter p).length ≤ i :=
  Nat.le_trans (List.length_filter_le _ _) (by rw [List.length_take]; omega)
theorem ne_snoc {α : Type} (l : List α) (a : α) : l ++ [a] ≠ [] := by simp
theorem low_rows {α : Type} {f : α → List PV} {n : Nat} (hf : ∀ a, ∀ x ∈ f a, Low n x) (l : List α) : Low n (.list (l.map f) .no) := low_list NT.no (low_map fun a _ => hf a)
theorem low_cells0 {n : Nat} : ∀ (o : Nat) cs, ([] : Heap)[o]? = some (.cells cs) → ∀ x ∈ cs, Low n x := fun o cs h => by simp at h
/-- objects whose cells name nothing -/
def LowH (B : Heap) : Prop := ∀ (o : Nat) cs, B[o]? = some (.cells cs) → ∀ x ∈ cs, Low B.length x
theorem lowH_of {B : Heap} (h : ∀ ob ∈ B, match ob with | .cells cs => ∀ x ∈ cs, Low B.length x | _ => True) : LowH B := by
  intro o cs ho
  have := h _ (List.mem_of_getElem? ho)
  exact this
end Go.AM

/-! AM, part 55: what lies behind is let go; the whole that a cell names. -/
namespace Go.AM
open Go
theorem tidy_tail {n0 : Nat} {vs : List PV} {X G : Heap} (hX : LidH X.length X) (hv : ∀ v ∈ vs, Lid X.length v) (hn : n0 ≤ X.length) : Tidy n0 vs (X ++ G) vs X :=
  ⟨vs, X ++ G, fun o => o, .refl _, .refl _, sub_tail hX, hn, fun _ _ => rfl, lid_renL (fun _ _ => rfl) hv⟩
def bookR (H : Heap) (q : Nat) : Option Nat := match H[q]? with
  | some (.cells [.ptr r 0]) => some r
  | _ => none
theorem bookR_spec {H : Heap} {q r : Nat} (h : bookR H q = some r) : H[q]? = some (.cells [.ptr r 0]) := by
  unfold bookR at h
  split at h
  · cases h; assumption
  · cases h
theorem bookR_is {H : Heap} {q r : Nat} {R : Rep} (h : bookR H q = some r) (ha : AbIs H r R) : BkIs H q r R := ⟨bookR_spec h, ha⟩
end Go.AM

/-! AM, part 56: rows of whole numbers in an object of the call's own; an element of rows laid anew; a row within a value, behind others. -/
namespace Go.AM
open Go
theorem over_row {α : Type} {f : α → List PV} {sz : Nat} (h : ∀ a, (f a).length = sz) {l : List α} {J : List PV} {k : Nat} {a : α} (d : α) (hk : k < l.length) : over ((l.map f).flatten ++ J) (k * sz) (f a) = ((l.set k a).map f).flatten ++ J := by
  have e1 : (l.map f).flatten ++ J = ((l.take k).map f).flatten ++ f (l.getD k d) ++ (((l.drop (k + 1)).map f).flatten ++ J) := by
    rw [rows_parts l k, List.drop_eq_getElem_cons hk, List.map_cons, List.flatten_cons, List.getD_eq_getElem?_getD, List.getElem?_eq_getElem hk]
    simp
  rw [over_mid e1 (by rw [rows_len h, List.length_take, Nat.min_eq_left (by omega)]) (by rw [h, h]), List.set_eq_take_append_cons_drop, if_pos hk]
  simp
def u1 (n : Int) : List PV := [.int .u32 n]
theorem u1_len (n : Int) : (u1 n).length = 1 := rfl
theorem low_u1 {k : Nat} (n : Int) : ∀ y ∈ u1 n, Low k y := low_one (.int _ _)
theorem one_u1 (n : Int) : ∀ y ∈ u1 n, y.one = true := by intro y hy; rcases List.mem_singleton.1 hy with rfl; rfl
theorem inL_u1 (l : List Int) (i : Nat) : InL (l.map u1) 1 (i : Int) = (i < l.length) := inL_map u1_len (by decide) l i
theorem en1_u1 (l : List Int) : en1 .u32 l = l.map u1 := rfl
theorem flat_u1 (l : List Int) : (l.map u1).flatten.length = l.length := by rw [rows_len u1_len, Nat.mul_one]
theorem low_fu1 {n : Nat} (l : List Int) {J : List PV} (h : ∀ y ∈ J, Low n y) : ∀ y ∈ (l.map u1).flatten ++ J, Low n y := low_flat (fun a _ => low_u1 a) h
/-- a call that makes a row of the caller's own within a value, whatever there is besides -/
theorem mk_agg2 {P : Program} {gl : Glob} (hgl : GlobLow gl) {f : FuncId} {args args' : List PV} {es : List (List PV)} {pre rest : List PV} (hw : WkL args args') (ha : ∀ x ∈ args', Low 0 x) (hl : ∀ x ∈ es.flatten, Low 0 x) (hpre : ∀ x ∈ pre, Low 0 x) (hrest : ∀ x ∈ rest, Low 0 x)
    (h : ACalls P gl f args' [] (fun x H' => (es = [] → x = .agg (pre ++ .list [] .exact :: rest)) ∧ (es ≠ [] → ∃ o, x = .agg (pre ++ .list es (.tok o) :: rest) ∧ H'[o]? = some .tok))) (H : Heap) :
    ACalls P gl f args H (fun x H' => (es = [] → x = .agg (pre ++ .list [] .exact :: rest) ∧ H' = H) ∧ (es ≠ [] → x = .agg (pre ++ .list es (.tok H.length) :: rest) ∧ H' = H ++ [.tok])) := by
  by_cases he : es = []
  · subst he
    have h1 : ACalls P gl f args' [] (fun x _ => x = .agg (pre ++ .list [] .exact :: rest)) := acalls_to h fun x H' e => e.1 rfl
    obtain ⟨r, h2, rfl⟩ := spure_w (K := fun r => r = PV.agg (pre ++ .list [] .exact :: rest)) hgl hw ha (.agg _ (by
      intro x hx
      rcases List.mem_append.1 hx with hx | hx
      · exact hpre x hx
      · rcases List.mem_cons.1 hx with rfl | hx
        · exact low_list NT.exact (by simp)
        · exact hrest x hx)) h1 rfl
    exact acalls_to (h2 H) fun x H' e => ⟨fun _ => e, fun hn => absurd rfl hn⟩
  · refine acalls_args hw (acalls_frame hgl (X := []) (ρ := fun o => o) ⟨fun o ho => absurd ho (Nat.not_lt_zero _), fun o _ ho => absurd ho (Nat.not_lt_zero _), fun o a ho => by simp at ho⟩ (RenL.low ha) (acalls_rename hgl (acalls_to h fun x H' e => ?_)))
    obtain ⟨o, rfl, ho⟩ := e.2 he
    have hol := (List.getElem?_eq_some_iff.1 ho).1
    have hren : ∀ {ρ : Nat → Nat} {n : Nat} (k : Nat) (hk : k < n), RenL ρ n (pre ++ .list es (.tok k) :: rest) (pre ++ .list es (.tok (ρ k)) :: rest) := by
      intro ρ n k hk
      exact (RenL.low hpre).append (.cons (.ltok es k hk hl) (RenL.low hrest))
    refine ⟨.agg (pre ++ .list es (.tok 0) :: rest), [.tok], fun _ => o, ⟨fun _ _ => hol, fun a b h1 h2 _ => by simp at h1 h2; omega, fun a ob h1 => ?_⟩, Nat.zero_le _, fun a ha => absurd ha (Nat.not_lt_zero _), ?_, ?_⟩
    · have k1 := (List.getElem?_eq_some_iff.1 h1).1
      simp at k1
      subst k1
      cases h1
      exact ⟨.tok, ho, .tok⟩
    · exact .aggL (hren (ρ := fun _ => o) 0 (by simp))
    · refine ⟨.agg (pre ++ .list es (.tok H.length) :: rest), H ++ [.tok], ⟨Nat.zero_le _, by simp, fun a ob h1 => ?_, fun a h1 _ => ?_⟩, ?_, fun hn => absurd hn he, fun _ => ⟨rfl, rfl⟩⟩
      · have k1 := (List.getElem?_eq_some_iff.1 h1).1
        simp at k1
        subst k1
        cases h1
        exact ⟨.tok, by simp [ρext], .tok, fun h => h⟩
      · rw [List.getElem?_append_left h1]
      · have := Ren.aggL (hren (ρ := ρext (fun o => o) ([] : Heap).length H.length) (n := [Ob.tok].length) 0 (by simp))
        simpa [ρext] using this
end Go.AM

/-! AM, part 57: a method of a book that answers with a row of the caller's own. -/
namespace Go.AM
open Go
theorem book_tok {P : Program} {gl : Glob} (hgl : GlobLow gl) {f : FuncId} {rest : List PV} {H : Heap} {q r : Nat} {R : Rep} {es : List (List PV)} (V : PV → PV) (ho : BkIs H q r R) (hrest : ∀ x ∈ rest, Low 0 x)
    (hren : ∀ (ρ : Nat → Nat) (n k : Nat), k < n → Ren ρ n (V (.list es (.tok k))) (V (.list es (.tok (ρ k)))))
    (h : ACalls P gl f (.ptr 0 0 :: rest) [.cells [.ptr 1 0], .abs R] (fun x H' => ∃ o G, x = V (.list es (.tok o)) ∧ H' = .cells [.ptr 1 0] :: .abs R :: G ∧ H'[o]? = some .tok)) :
    ACalls P gl f (.ptr q 0 :: rest) H (fun x H' => x = V (.list es (.tok H.length)) ∧ H' = H ++ [.tok]) := by
  have hq := (List.getElem?_eq_some_iff.1 ho.1).1
  have hr := (List.getElem?_eq_some_iff.1 ho.2).1
  have h1 : ACalls P gl f (.ptr 0 0 :: rest) [.cells [.ptr 1 0], .abs R] (fun x H' => x = V (.list es (.tok 2)) ∧ H' = [.cells [.ptr 1 0], .abs R, .tok]) := by
    refine acalls_rename hgl (acalls_to h fun x H' e => ?_)
    obtain ⟨o, G, rfl, rfl, hot⟩ := e
    have ho2 : 2 ≤ o := by
      rcases o with _ | _ | o
      · cases hot
      · cases hot
      · omega
    have hol := (List.getElem?_eq_some_iff.1 hot).1
    let ρ : Nat → Nat := fun k => if k = 2 then o else k
    refine ⟨V (.list es (.tok 2)), [.cells [.ptr 1 0], .abs R, .tok], ρ, ⟨fun k hk => ?_, fun a b ha hb e => ?_, fun k a hk => ?_⟩, by simp, fun k hk => ?_, ?_, rfl, rfl⟩
    · simp at hk
      simp only [ρ]
      split
      · exact hol
      · simp at hol ⊢; omega
    · simp at ha hb
      simp only [ρ] at e
      split at e <;> split at e <;> omega
    · have k1 := (List.getElem?_eq_some_iff.1 hk).1
      simp at k1
      have : k = 0 ∨ k = 1 ∨ k = 2 := by omega
      rcases this with rfl | rfl | rfl
      · cases hk
        refine ⟨_, rfl, .cells (.cons ?_ .nil)⟩
        have := Ren.ptr (ρ := ρ) (n := 3) 1 0 (by decide)
        exact this
      · cases hk
        exact ⟨_, rfl, .abs _⟩
      · cases hk
        exact ⟨.tok, hot, .tok⟩
    · simp at hk
      simp only [ρ]; rw [if_neg (by omega)]
    · have := hren ρ 3 2 (by decide)
      exact this
  refine acalls_frame hgl (book_sub ho) (.cons (.ptr (ρ := fun o => if o = 0 then q else r) 0 0 (by simp)) (RenL.low hrest)) (acalls_to h1 fun x H' e => ?_)
  obtain ⟨rfl, rfl⟩ := e
  have hsub := book_sub ho
  let ρ : Nat → Nat := ρext (fun o => if o = 0 then q else r) 2 H.length
  have e0 : ρ 0 = q := by simp [ρ, ρext]
  have e1 : ρ 1 = r := by simp [ρ, ρext]
  have e2 : ρ 2 = H.length := by simp [ρ, ρext]
  refine ⟨V (.list es (.tok H.length)), H ++ [.tok], ⟨by simp, by simp, fun o a ho' => ?_, fun o hl hn => ?_⟩, ?_, rfl, rfl⟩
  · have k1 := (List.getElem?_eq_some_iff.1 ho').1
    simp at k1
    have : o = 0 ∨ o = 1 ∨ o = 2 := by omega
    rcases this with rfl | rfl | rfl
    · cases ho'
      refine ⟨.cells [.ptr r 0], ?_, .cells (.cons ?_ .nil), fun _ => rfl⟩
      · show (H ++ [Ob.tok])[ρ 0]? = _
        rw [e0, List.getElem?_append_left hq]; exact ho.1
      · have := Ren.ptr (ρ := ρ) (n := 3) 1 0 (by decide)
        rw [e1] at this
        exact this
    · cases ho'
      refine ⟨.abs R, ?_, .abs _, fun _ => rfl⟩
      show (H ++ [Ob.tok])[ρ 1]? = _
      rw [e1, List.getElem?_append_left hr]; exact ho.2
    · cases ho'
      refine ⟨.tok, ?_, .tok, fun _ => rfl⟩
      show (H ++ [Ob.tok])[ρ 2]? = _
      rw [e2]; simp
  · rw [List.getElem?_append_left hl]
  · have := hren ρ 3 2 (by decide)
    rw [e2] at this
    exact this
/-- a result that says less, at what is left -/
theorem acalls_wk {P : Program} {gl : Glob} {f : FuncId} {args : List PV} {H : Heap} {K : PV → Heap → Prop} (h : ACalls P gl f args H (fun x H' => ∃ x', Wk x x' ∧ K x' H')) : ACalls P gl f args H K := acalls_weak h
end Go.AM

/-! AM, part 58: a loop whose rounds are told by what is held on to; a method of a whole that answers with an object of the caller's own. -/
namespace Go.AM
open Go

theorem lid_renUp {n m : Nat} {ρ : Nat → Nat} (hρ : ∀ o, o < n → ρ o = o) (hm : n ≤ m) : ∀ {xs : List PV}, (∀ x ∈ xs, Lid n x) → RenL ρ m xs xs
  | [], _ => .nil
  | x :: xs, h => by
    refine .cons ?_ (lid_renUp hρ hm fun y hy => h y (by simp [hy]))
    have hx := h x (by simp)
    cases hx with
    | low hx => exact .low hx
    | arr o off len cap hx =>
      have := Ren.arr (ρ := ρ) (n := m) o off len cap (by omega)
      rwa [hρ o hx] at this
    | ptr o off hx =>
      have := Ren.ptr (ρ := ρ) (n := m) o off (by omega)
      rwa [hρ o hx] at this
/-- the first objects are held on to; what the slots hold speaks of them alone -/
theorem wkH_refl (H : Heap) : WkH H H := .refl H
theorem tidy_base {B X : Heap} {vs' vs : List PV} (hB : LidH B.length B) (hw : WkL vs' vs) (hv : ∀ v ∈ vs, Lid B.length v) {n0 : Nat} (hn : n0 ≤ B.length) : Tidy n0 vs' (B ++ X) vs B :=
  ⟨vs, B ++ X, fun o => o, hw, .refl _, sub_tail hB, hn, fun _ _ => rfl, lid_renL (fun _ _ => rfl) hv⟩
/-- the same, where objects say less than they did -/
theorem tidy_wk {B B' X : Heap} {vs' vs : List PV} (hB : LidH B.length B) (hw : WkL vs' vs) (hh : WkH (B' ++ X) (B ++ X)) (hv : ∀ v ∈ vs, Lid B.length v) {n0 : Nat} (hn : n0 ≤ B.length) : Tidy n0 vs' (B' ++ X) vs B :=
  ⟨vs, B ++ X, fun o => o, hw, hh, sub_tail hB, hn, fun _ _ => rfl, lid_renL (fun _ _ => rfl) hv⟩
/-- a row with spare room in a cell of the only object that is held on to -/
theorem tidy_cell {pre rest : List PV} {es : List (List PV)} {X : Heap} {k : Nat} {vs : List PV} (hp : ∀ x ∈ pre, Low 0 x) (hr : ∀ x ∈ rest, Low 0 x) (hes : ∀ x ∈ es.flatten, Low 0 x) (hk : (.cells (pre ++ .list es (.tok k) :: rest) :: X : Heap)[k]? = some .tok) (hv : ∀ v ∈ vs, Lid 1 v) :
    Tidy 1 vs (.cells (pre ++ .list es (.tok k) :: rest) :: X) vs [.cells (pre ++ .list es (.tok 1) :: rest), .tok] := by
  have hkl := (List.getElem?_eq_some_iff.1 hk).1
  have hk0 : k ≠ 0 := fun e => by subst e; cases hk
  let ρ : Nat → Nat := fun o => if o = 0 then 0 else k
  refine ⟨vs, _, ρ, ?_, .refl _, ⟨fun o ho => ?_, fun o o' h1 h2 e => ?_, fun o a ho => ?_⟩, by simp, fun o ho => ?_, ?_⟩
  · exact WkL.refl vs
  · simp only [ρ]; split
    · simp
    · exact hkl
  · simp at h1 h2
    simp only [ρ] at e
    split at e <;> split at e <;> omega
  · have k1 := (List.getElem?_eq_some_iff.1 ho).1
    simp at k1
    have : o = 0 ∨ o = 1 := by omega
    rcases this with rfl | rfl
    · cases ho
      refine ⟨_, rfl, .cells ?_⟩
      have h1 : RenL ρ 2 (pre ++ .list es (.tok 1) :: rest) (pre ++ .list es (.tok (ρ 1)) :: rest) := (RenL.low hp).append (.cons (.ltok es 1 (by decide) hes) (RenL.low hr))
      exact h1
    · cases ho
      exact ⟨.tok, hk, .tok⟩
  · have : o = 0 := by omega
    subst this; rfl
  · exact lid_renUp (n := 1) (fun o ho => by rw [show o = 0 by omega]; rfl) (by simp) hv

/-- values that are alike but for the name of one row -/
inductive RA (k k' : Nat) : PV → PV → Prop where
  | low {x : PV} (h : Low 0 x) : RA k k' x x
  | arr (off len cap : Nat) : RA k k' (.arr k off len cap) (.arr k' off len cap)
  | agg (cs cs' : List PV) (hl : cs.length = cs'.length) (h : ∀ (q : Nat) (x y : PV), cs[q]? = some x → cs'[q]? = some y → RA k k' x y) : RA k k' (.agg cs) (.agg cs')
  | tup (cs cs' : List PV) (hl : cs.length = cs'.length) (h : ∀ (q : Nat) (x y : PV), cs[q]? = some x → cs'[q]? = some y → RA k k' x y) : RA k k' (.tup cs) (.tup cs')
inductive RAL (k k' : Nat) : List PV → List PV → Prop where
  | nil : RAL k k' [] []
  | cons {x y : PV} {xs ys : List PV} (h : RA k k' x y) (hs : RAL k k' xs ys) : RAL k k' (x :: xs) (y :: ys)
theorem RAL.length {k k' : Nat} {xs ys : List PV} (h : RAL k k' xs ys) : xs.length = ys.length := by
  induction h with
  | nil => rfl
  | cons _ _ ih => simp [ih]
theorem RAL.get {k k' : Nat} {xs ys : List PV} (h : RAL k k' xs ys) : ∀ (q : Nat) (x y : PV), xs[q]? = some x → ys[q]? = some y → RA k k' x y := by
  induction h with
  | nil => intro q x y h; simp at h
  | cons h _ ih =>
    intro q x y h1 h2
    cases q with
    | zero => simp at h1 h2; subst h1; subst h2; exact h
    | succ q => exact ih q x y (by simpa using h1) (by simpa using h2)
theorem RAL.low {k k' : Nat} : ∀ {xs : List PV}, (∀ x ∈ xs, Low 0 x) → RAL k k' xs xs
  | [], _ => .nil
  | x :: xs, h => .cons (.low (h x (by simp))) (RAL.low fun y hy => h y (by simp [hy]))
theorem RA.aggL {k k' : Nat} {xs ys : List PV} (h : RAL k k' xs ys) : RA k k' (.agg xs) (.agg ys) := .agg _ _ h.length h.get
theorem RA.tupL {k k' : Nat} {xs ys : List PV} (h : RAL k k' xs ys) : RA k k' (.tup xs) (.tup ys) := .tup _ _ h.length h.get
theorem RA.to {k k' : Nat} {x y : PV} (hr : RA k k' x y) {g g' : Gh} {w : World} (hi : g'.imm = g.imm) (hb : g'.bk k' = g.bk k) (hk : k' < g'.n) : ∀ {v : Value}, Rel g w x v → Rel g' w y v := by
  induction hr with
  | low h => intro v hv; exact low_cong hv h hi
  | arr off len cap =>
    intro v hv
    cases hv
    rw [← hb]; exact .arr _ off len cap hk
  | agg cs cs' hl _ ih =>
    intro v hv
    obtain ⟨vs, rfl, h1⟩ := Rel.agg_iff.1 hv
    refine Rel.agg_iff.2 ⟨vs, rfl, by rw [← hl]; exact h1.1, fun q y u hy hu => ?_⟩
    have hq : q < cs.length := by rw [hl]; exact (List.getElem?_eq_some_iff.1 hy).1
    exact ih q cs[q] y (List.getElem?_eq_getElem hq) hy (h1.2 q _ u (List.getElem?_eq_getElem hq) hu)
  | tup cs cs' hl _ ih =>
    intro v hv
    obtain ⟨vs, rfl, h1⟩ := Rel.tup_iff.1 hv
    refine Rel.tup_iff.2 ⟨vs, rfl, by rw [← hl]; exact h1.1, fun q y u hy hu => ?_⟩
    have hq : q < cs.length := by rw [hl]; exact (List.getElem?_eq_some_iff.1 hy).1
    exact ih q cs[q] y (List.getElem?_eq_getElem hq) hy (h1.2 q _ u (List.getElem?_eq_getElem hq) hu)
theorem RA.ren {k k' : Nat} {x y : PV} (hr : RA k k' x y) {ρ : Nat → Nat} {n : Nat} (hk : k < n) (hρ : ρ k = k') : Ren ρ n x y := by
  induction hr with
  | low h => exact .low h
  | arr off len cap => rw [← hρ]; exact .arr _ _ _ _ hk
  | agg cs cs' hl _ ih => exact .agg _ _ hl ih
  | tup cs cs' hl _ ih => exact .tup _ _ hl ih

/-- some of the objects, and behind them one that becomes the caller's -/
def RestAnd (I : Heap → Prop) (cs : List PV) (k : Nat) (H : Heap) : Prop := ∃ (X : Heap) (ρ : Nat → Nat), Sub ρ (X ++ [.cells cs]) H ∧ ρ 0 = 0 ∧ ρ X.length = k ∧ LidH X.length X ∧ I (noTok X) ∧ Root X

/-- A WHOLE IS OPENED for a call that answers with an object of the caller's own -/
theorem acalls_open_new {P : Program} {gl : Glob} (hgl : GlobLow gl) {f : FuncId} {args : List PV} {I : Heap → Prop} {K : PV → Heap → Prop} (V : PV → PV) (hargs : ∀ x ∈ args, Low 0 x ∨ ∃ off, x = .ptr 0 off)
    (hV : ∀ (k k' len cap : Nat), RA k k' (V (.arr k 0 len cap)) (V (.arr k' 0 len cap)))
    (h : ∀ hh, I hh → Root hh → ACalls P gl f args hh (fun x H' => ∃ (I' : Heap → Prop) (k len cap : Nat) (cs : List PV), x = V (.arr k 0 len cap) ∧ (∀ x ∈ cs, Low 0 x) ∧ RestAnd I' cs k H' ∧ K (V (.arr 1 0 len cap)) [.abs (whole I'), .cells cs])) : ACalls P gl f args [.abs (whole I)] K := by
  intro g w vs hS hG hR
  obtain ⟨⟨g0, hh, h1, h2, h3, h4, h5, h6, h7⟩, h8, h9⟩ := hS.abs 0 _ rfl
  have hn0 : 0 < hh.length := by obtain ⟨cs, e⟩ := h5; exact (List.getElem?_eq_some_iff.1 e).1
  have hgn : g.n = 1 := hS.n
  have toR : ∀ {x : PV} {v : Value}, (Low 0 x ∨ ∃ off, x = .ptr 0 off) → Rel g w x v → Rel g0 w x v := by
    rintro x v (hl | ⟨off, rfl⟩) hr
    · exact low_cong hr hl h4
    · cases hr
      rw [← h6]; exact .ptr 0 off (by rw [h2.n]; exact hn0)
  have hG0 : GlobOk g0 w gl := fun k cs hk => by
    refine ⟨(hG k cs hk).1, fun q x hx => ?_⟩
    obtain ⟨k1, c, k2, k3⟩ := (hG k cs hk).2 q x hx
    exact ⟨by rw [h4]; exact k1, c, k2, low_cong k3 (hgl k cs hk x (List.mem_iff_getElem?.2 ⟨q, hx⟩)) h4⟩
  refine (h hh h1 h5 g0 w vs h2 hG0 ⟨hR.1, fun q x v hx hv => toR (hargs x (List.mem_iff_getElem?.2 ⟨q, hx⟩)) (hR.2 q x v hx hv)⟩).mono ?_
  rintro e w' ⟨v, g1, H', x, rfl, hS1, hX, hv, I', k, len, cap, cs, rfl, hcs, ⟨X, ρ, hsub, hρ0, hρk, hlid, hI, hroot⟩, hk⟩
  have hXn : 0 < X.length := by obtain ⟨cs, e⟩ := hroot; exact (List.getElem?_eq_some_iff.1 e).1
  have hbk1 : g1.bk 0 = g.bk 0 := (hX.gx.bk 0 (by rw [h2.n]; exact hn0)).trans h6
  -- the objects that are held on to
  let g3 : Gh := g1.through ρ (X ++ [Ob.cells cs]).length
  have hS3 : Sim g3 (X ++ [.cells cs]) w' := hsub.sim hS1
  let g4 : Gh := g3.through (fun o => o) X.length
  have hS4 : Sim g4 X w' := (sub_tail hlid).sim hS3
  have hSn := hS4.noTok
  have hb3 : g3.bk X.length = g1.bk k := by show g1.bk (ρ X.length) = _; rw [hρk]
  have hb0 : g3.bk 0 = g.bk 0 := by show g1.bk (ρ 0) = _; rw [hρ0]; exact hbk1
  have hlast : (X ++ [Ob.cells cs])[X.length]? = some (.cells cs) := by simp
  let g2 : Gh := ⟨2, fun o => if o = 0 then g3.bk 0 else g3.bk X.length, fun o => if o = 0 then g.en 0 else g3.en X.length, fun o => if o = 0 then g.sz 0 else g3.sz X.length, g1.imm, fun _ => own g4 (noTok X)⟩
  obtain ⟨cs0, hcs0⟩ := hroot.noTok
  have ownX : ∀ b, own g4 (noTok X) b → own g3 (X ++ [.cells cs]) b := fun b k => (sub_tail hlid).own (own_noTok k)
  have apart : ∀ b, own g4 (noTok X) b → b ≠ g3.bk X.length := by
    rintro b hb rfl
    obtain ⟨o, ob, k1, k2, k3⟩ := own_noTok hb
    have ho := (List.getElem?_eq_some_iff.1 k1).1
    have := hS3.inj o X.length ob (.cells cs) (g3.bk X.length) (get_pre k1) hlast k2 rfl (by cases ob <;> exact k3) rfl
    omega
  have own2 : ∀ b, own g2 [.abs (whole I'), .cells cs] b → own g1 H' b := by
    rintro b ⟨o, ob, k1, k2, k3⟩
    have ho := (List.getElem?_eq_some_iff.1 k1).1
    simp at ho
    have : o = 0 ∨ o = 1 := by omega
    rcases this with rfl | rfl
    · cases k1
      exact hsub.own (ownX b k3)
    · cases k1
      exact hsub.own (g := g1) ⟨X.length, .cells cs, hlast, rfl, k3⟩
  have own0 : ∀ b, own g0 hh b → own g [.abs (whole I)] b := fun b k => ⟨0, _, rfl, rfl, (h7 b).2 k⟩
  have hgx : Gext g w g2 w' := by
    refine ⟨by rw [hgn]; show 1 ≤ 2; decide, fun o ho => ?_, fun o ho => ?_, fun o ho => ?_, fun b q k => ?_, fun b q k => ?_⟩
    · have : o = 0 := by omega
      subst this; exact hb0
    · have : o = 0 := by omega
      subst this; rfl
    · have : o = 0 := by omega
      subst this; rfl
    · exact hX.gx.imm b q (by rw [h4]; exact k)
    · exact hX.gx.cell b q (by rw [h4]; exact k)
  have hcell := hS3.cells X.length cs hlast
  refine ⟨v, g2, [.abs (whole I'), .cells cs], _, rfl, ?_, ?_, ?_, hk⟩
  · refine ⟨rfl, fun o o' ob ob' b k1 k2 _ _ k5 k6 => ?_, fun o cs' k1 => ?_, fun o k1 => ?_, hS1.imm, fun o r k1 => ?_⟩
    · have e1 := (List.getElem?_eq_some_iff.1 k1).1
      have e2 := (List.getElem?_eq_some_iff.1 k2).1
      simp at e1 e2
      have d1 : o = 0 ∨ o = 1 := by omega
      have d2 : o' = 0 ∨ o' = 1 := by omega
      rcases d1 with rfl | rfl <;> rcases d2 with rfl | rfl
      · rfl
      · cases k1; cases k2
        exact absurd k6.symm (apart b k5)
      · cases k1; cases k2
        exact absurd k5.symm (apart b k6)
      · rfl
    · have e1 := (List.getElem?_eq_some_iff.1 k1).1
      simp at e1
      have d1 : o = 0 ∨ o = 1 := by omega
      rcases d1 with rfl | rfl
      · cases k1
      · cases k1
        obtain ⟨⟨C, ty, e1, e2⟩, e3⟩ := hcell
        exact ⟨⟨C, ty, e1, e2.1, fun q x v hx hv => low_cong (e2.2 q x v hx hv) (hcs x (List.mem_iff_getElem?.2 ⟨q, hx⟩)) rfl⟩, e3⟩
    · have e1 := (List.getElem?_eq_some_iff.1 k1).1
      simp at e1
      have d1 : o = 0 ∨ o = 1 := by omega
      rcases d1 with rfl | rfl <;> cases k1
    · have e1 := (List.getElem?_eq_some_iff.1 k1).1
      simp at e1
      have d1 : o = 0 ∨ o = 1 := by omega
      rcases d1 with rfl | rfl
      · cases k1
        exact ⟨⟨g4, noTok X, hI, hSn, noTok_no _, rfl, ⟨cs0, hcs0⟩, rfl, fun _ => Iff.rfl⟩, ⟨0, _, hcs0, rfl, rfl⟩, fun b hb => ⟨own_lt hSn hb, fun q => own_fresh hSn (noTok_no _) hb q⟩⟩
      · cases k1
  · exact ⟨hgx, hX.size, fun b hb ho => own0 b (hX.ow b hb (own2 b ho)), fun b hb ho => hX.frame b hb (fun k => ho (own0 b k)), hX.os, hX.tape, hX.output,
      fun b q hb hi => (hX.im b q hb hi).elim (fun k => .inl (by rw [← h4]; exact k)) (fun k => .inr (own0 b k))⟩
  · exact (hV k 1 len cap).to (g := g1) (g' := g2) rfl hb3 (show 1 < 2 by decide) hv

/-- a method that reads, and answers with an object of the caller's own -/
theorem meth_new {P : Program} {gl : Glob} (hgl : GlobLow gl) {f : FuncId} {rest : List PV} {H : Heap} {q : Nat} {I I' : Heap → Prop} {K : PV → Heap → Prop} (V : PV → PV) (ho : AbIs H q (whole I)) (hrest : ∀ x ∈ rest, Low 0 x)
    (hV : ∀ (k k' len cap : Nat), RA k k' (V (.arr k 0 len cap)) (V (.arr k' 0 len cap)))
    (h : ∀ hh, I hh → ACalls P gl f (.ptr 0 0 :: rest) hh (fun x H' => ∃ (k len cap : Nat) (cs : List PV), x = V (.arr k 0 len cap) ∧ (∀ x ∈ cs, Low 0 x) ∧ RestAnd I' cs k H' ∧ K (V (.arr H.length 0 len cap)) (H.set q (.abs (whole I')) ++ [.cells cs]))) : ACalls P gl f (.ptr q 0 :: rest) H K := by
  have hol : q < H.length := (List.getElem?_eq_some_iff.1 ho).1
  have hsub : Sub (fun _ => q) [.abs (whole I)] H := by
    refine ⟨fun _ _ => hol, fun a b h1 h2 _ => ?_, fun j a h1 => ?_⟩
    · simp at h1 h2; omega
    · have e1 := (List.getElem?_eq_some_iff.1 h1).1
      have : j = 0 := by simpa using e1
      subst this; cases h1
      exact ⟨_, ho, .abs _⟩
  refine acalls_frame hgl hsub (ren_self q hrest) (acalls_open_new hgl V (args_self hrest) hV fun hh h1 _ => acalls_to (h hh h1) fun x H' e => ?_)
  obtain ⟨k, len, cap, cs, rfl, hcs, hra, hk⟩ := e
  refine ⟨I', k, len, cap, cs, rfl, hcs, hra, V (.arr H.length 0 len cap), H.set q (.abs (whole I')) ++ [.cells cs], ⟨by simp, by simp, fun j a h1 => ?_, fun o' h1 h2 => ?_⟩, ?_, hk⟩
  · have e1 := (List.getElem?_eq_some_iff.1 h1).1
    simp at e1
    have : j = 0 ∨ j = 1 := by omega
    rcases this with rfl | rfl
    · cases h1
      refine ⟨.abs (whole I'), ?_, .abs _, fun _ => rfl⟩
      show (H.set q _ ++ [_])[q]? = _
      rw [List.getElem?_append_left (by simp [hol])]
      simp [hol]
    · cases h1
      refine ⟨.cells cs, ?_, .cells (RenL.low hcs), fun _ => rfl⟩
      simp [ρext]
  · rw [List.getElem?_append_left (by simpa using h1), List.getElem?_set_ne]
    exact h2 0 (by simp)
  · exact (hV 1 H.length len cap).ren (by simp) (by simp [ρext])
#print axioms meth_new
#print axioms tidy_cell
end Go.AM

/-! AM, part 59: a call that reads one cell; an answer that holds a row of its own, which from then on never changes. -/
namespace Go.AM
open Go

theorem read_cell {P : Program} {gl : Glob} (hgl : GlobLow gl) {f : FuncId} {pre cs : List PV} {H : Heap} {b : Nat} {r : PV} (hc : CeIs H b cs) (hcs : ∀ x ∈ cs, Low 0 x) (hp : ∀ x ∈ pre, Low 0 x) (hr : Low 0 r)
    (h : ACalls P gl f (pre ++ [.ptr 0 0]) [.cells cs] (fun x H' => x = r ∧ ∃ G, H' = [.cells cs] ++ G)) : ACalls P gl f (pre ++ [.ptr b 0]) H (fun x H' => x = r ∧ H' = H) := by
  have hb : b < H.length := (List.getElem?_eq_some_iff.1 hc).1
  have h1 : ACalls P gl f (pre ++ [.ptr 0 0]) [.cells cs] (fun x H' => x = r ∧ H' = [.cells cs]) := ACalls.same hr.up h
  have hsub : Sub (fun _ => b) [.cells cs] H := by
    refine ⟨fun _ _ => hb, fun a c h1 h2 _ => ?_, fun j a h1 => ?_⟩
    · simp at h1 h2; omega
    · have e1 := (List.getElem?_eq_some_iff.1 h1).1
      have : j = 0 := by simpa using e1
      subst this; cases h1
      exact ⟨_, hc, .cells (RenL.low hcs)⟩
  refine acalls_frame hgl hsub ((RenL.low hp).append (.cons (.ptr (ρ := fun _ => b) 0 0 Nat.zero_lt_one) .nil)) (acalls_to h1 fun x H' e => ?_)
  obtain ⟨rfl, rfl⟩ := e
  refine ⟨x, H, ⟨Nat.le_refl _, by simp, fun j a h1 => ?_, fun o' _ _ => rfl⟩, .low hr, rfl, rfl⟩
  have e1 := (List.getElem?_eq_some_iff.1 h1).1
  have : j = 0 := by simpa using e1
  subst this; cases h1
  exact ⟨.cells cs, hc, .cells (RenL.low hcs), fun _ => rfl⟩

/-- values that are alike but for a row, which the second one holds itself -/
inductive RF (o : Nat) (es : List (List PV)) : PV → PV → Prop where
  | low {x : PV} (h : Low 0 x) : RF o es x x
  | arr (cap : Nat) (hc : es.length ≤ cap) : RF o es (.arr o 0 es.length cap) (.list es .no)
  | agg (cs cs' : List PV) (hl : cs.length = cs'.length) (h : ∀ (q : Nat) (x y : PV), cs[q]? = some x → cs'[q]? = some y → RF o es x y) : RF o es (.agg cs) (.agg cs')
  | tup (cs cs' : List PV) (hl : cs.length = cs'.length) (h : ∀ (q : Nat) (x y : PV), cs[q]? = some x → cs'[q]? = some y → RF o es x y) : RF o es (.tup cs) (.tup cs')
inductive RFL (o : Nat) (es : List (List PV)) : List PV → List PV → Prop where
  | nil : RFL o es [] []
  | cons {x y : PV} {xs ys : List PV} (h : RF o es x y) (hs : RFL o es xs ys) : RFL o es (x :: xs) (y :: ys)
theorem RFL.length {o : Nat} {es : List (List PV)} {xs ys : List PV} (h : RFL o es xs ys) : xs.length = ys.length := by
  induction h with
  | nil => rfl
  | cons _ _ ih => simp [ih]
theorem RFL.get {o : Nat} {es : List (List PV)} {xs ys : List PV} (h : RFL o es xs ys) : ∀ (q : Nat) (x y : PV), xs[q]? = some x → ys[q]? = some y → RF o es x y := by
  induction h with
  | nil => intro q x y h; simp at h
  | cons h _ ih =>
    intro q x y h1 h2
    cases q with
    | zero => simp at h1 h2; subst h1; subst h2; exact h
    | succ q => exact ih q x y (by simpa using h1) (by simpa using h2)
theorem RF.aggL {o : Nat} {es : List (List PV)} {xs ys : List PV} (h : RFL o es xs ys) : RF o es (.agg xs) (.agg ys) := .agg _ _ h.length h.get
theorem RF.tupL {o : Nat} {es : List (List PV)} {xs ys : List PV} (h : RFL o es xs ys) : RF o es (.tup xs) (.tup ys) := .tup _ _ h.length h.get
theorem RF.to {o : Nat} {es : List (List PV)} {x y : PV} (hr : RF o es x y) {g g' : Gh} {w : World} (hx : Gext g w g' w) {sz : Nat} (hu : uni sz es) {rest : List PV} (hi : ImmRow g' w ⟨g.bk o, 0, none⟩ (es.flatten ++ rest)) : ∀ {v : Value}, Rel g w x v → Rel g' w y v := by
  induction hr with
  | low h => intro v hv; exact hv.mono hx
  | arr cap hc =>
    intro v hv
    cases hv
    exact Rel.list_iff.2 ⟨some ⟨g.bk o, 0, none⟩, cap, rfl, uni_eq hu, hc, trivial, .inr ⟨_, rfl, hi.front⟩⟩
  | agg cs cs' hl _ ih =>
    intro v hv
    obtain ⟨vs, rfl, h1⟩ := Rel.agg_iff.1 hv
    refine Rel.agg_iff.2 ⟨vs, rfl, by rw [← hl]; exact h1.1, fun q y u hy hu => ?_⟩
    have hq : q < cs.length := by rw [hl]; exact (List.getElem?_eq_some_iff.1 hy).1
    exact ih q cs[q] y (List.getElem?_eq_getElem hq) hy (h1.2 q _ u (List.getElem?_eq_getElem hq) hu)
  | tup cs cs' hl _ ih =>
    intro v hv
    obtain ⟨vs, rfl, h1⟩ := Rel.tup_iff.1 hv
    refine Rel.tup_iff.2 ⟨vs, rfl, by rw [← hl]; exact h1.1, fun q y u hy hu => ?_⟩
    have hq : q < cs.length := by rw [hl]; exact (List.getElem?_eq_some_iff.1 hy).1
    exact ih q cs[q] y (List.getElem?_eq_getElem hq) hy (h1.2 q _ u (List.getElem?_eq_getElem hq) hu)

/-- the answer's row never changes any more -/
theorem acalls_freeze_in {P : Program} {gl : Glob} {f : FuncId} {args : List PV} {H : Heap} {K : PV → Heap → Prop}
    (h : ACalls P gl f args H (fun x H' => ∃ (o sz : Nat) (es : List (List PV)) (rest : List PV) (y : PV), RF o es x y ∧ H'[o]? = some (.cells (es.flatten ++ rest)) ∧ uni sz es ∧ K y (H'.set o .dead))) : ACalls P gl f args H K := by
  intro g w vs hS hG hR
  refine (h g w vs hS hG hR).mono ?_
  rintro e w' ⟨v, g', H', x, rfl, hS', hX, hr, o, sz, es, rest, y, hrf, ho, hu, hk⟩
  obtain ⟨g2, k1, k2, k3⟩ := hS'.freeze ho
  exact ⟨_, g2, _, y, rfl, k1, hX.trans k2, hrf.to k2.gx hu k3 hr, hk⟩
/-- a call that makes an object of the caller's own, whatever there is besides -/
theorem mk_arr {P : Program} {gl : Glob} (hgl : GlobLow gl) {f : FuncId} {args args' : List PV} {K : PV → Heap → Prop} {H : Heap} (V : PV → PV) (hw : WkL args args') (ha : ∀ x ∈ args', Low 0 x) (hV : ∀ (k k' len cap : Nat), RA k k' (V (.arr k 0 len cap)) (V (.arr k' 0 len cap)))
    (h : ACalls P gl f args' [] (fun x H' => ∃ (k len cap : Nat) (cs : List PV), x = V (.arr k 0 len cap) ∧ H'[k]? = some (.cells cs) ∧ (∀ x ∈ cs, Low 0 x) ∧ K (V (.arr H.length 0 len cap)) (H ++ [.cells cs]))) : ACalls P gl f args H K := by
  refine acalls_args hw (acalls_frame hgl (X := []) (ρ := fun o => o) ⟨fun o ho => absurd ho (Nat.not_lt_zero _), fun o _ ho => absurd ho (Nat.not_lt_zero _), fun o a ho => by simp at ho⟩ (RenL.low ha) (acalls_rename hgl (acalls_to h fun x H' e => ?_)))
  obtain ⟨k, len, cap, cs, rfl, ho, hcs, hk⟩ := e
  have hol := (List.getElem?_eq_some_iff.1 ho).1
  refine ⟨V (.arr 0 0 len cap), [.cells cs], fun _ => k, ⟨fun _ _ => hol, fun a b h1 h2 _ => by simp at h1 h2; omega, fun a ob h1 => ?_⟩, Nat.zero_le _, fun a ha => absurd ha (Nat.not_lt_zero _), ?_, ?_⟩
  · have k1 := (List.getElem?_eq_some_iff.1 h1).1
    simp at k1
    subst k1
    cases h1
    exact ⟨.cells cs, ho, .cells (RenL.low hcs)⟩
  · exact (hV 0 k len cap).ren (by simp) rfl
  · refine ⟨V (.arr H.length 0 len cap), H ++ [.cells cs], ⟨Nat.zero_le _, by simp, fun a ob h1 => ?_, fun a h1 _ => ?_⟩, ?_, hk⟩
    · have k1 := (List.getElem?_eq_some_iff.1 h1).1
      simp at k1
      subst k1
      cases h1
      exact ⟨.cells cs, by simp [ρext], .cells (RenL.low hcs), fun h => h⟩
    · rw [List.getElem?_append_left h1]
    · exact (hV 0 H.length len cap).ren (by simp) (by simp [ρext])
/-- a loop behind whose rounds objects get other names; rounds as they are -/
theorem aw_loop9 {P : Program} {gl : Glob} (hgl : GlobLow gl) {n : Nat} {x : Code} {Q : Ex → Env → Heap → Prop} {e : Env} {H : Heap} {σ : Type} (slots : List Nat) (I : σ → Prop) (V : σ → List PV) (Hp : σ → Heap) (m : σ → Nat) (s0 : σ)
    (h0 : I s0) (he : slots.map e = V s0) (hH : H = Hp s0)
    (round : ∀ s, I s → AW P gl n x (fun ex e' H' => loopY Q H.length slots I V Hp m s ex (slots.map e') H') (envS slots (V s)) (Hp s)) : AW P gl n (.loop x) Q e H := by
  intro hd g a w hst
  simp only [dstAll] at hd
  have hng : g.n = H.length := hst.sim.n
  refine wp_loop_ghost (fun k a' w' => ∃ g' s, k = m s ∧ I s ∧ St gl n g' (envS slots (V s)) (Hp s) a' w' ∧ Ext g H w g' (Hp s) w') (m s0) ⟨g, s0, rfl, h0, by rw [← hH, ← he]; exact hst.weaken (envS_le e slots), by rw [← hH]; exact .refl g H w⟩ ?_
  rintro k a1 w1 ⟨g1, s, rfl, hI, hst1, hx1⟩
  refine wp_mono (round s hI hd g1 a1 w1 hst1) ?_
  rintro ex a' w' ⟨ex', g', e', H', k0, k1, k2, k3⟩
  have k1' := k1.weaken (envS_le e' slots)
  cases ex <;> cases ex' <;> first | exact k0.elim | skip
  · obtain ⟨s', hm, hI', hr⟩ := k3
    obtain ⟨g3, j1, j2⟩ := k1'.tidy hgl (hx1.trans k2) hng hr
    exact ⟨m s', hm, g3, s', rfl, hI', j1, j2⟩
  · obtain ⟨vs2, H2, j1, j3⟩ := k3
    obtain ⟨g3, j4, j5⟩ := k1'.tidy hgl (hx1.trans k2) hng j1
    exact ⟨.exit _, g3, _, H2, k0, j4, j5, j3⟩
  · obtain ⟨vs2, H2, j1, j3⟩ := k3
    obtain ⟨g3, j4, j5⟩ := k1'.tidy hgl (hx1.trans k2) hng j1
    exact ⟨.ret, g3, _, H2, k0, j4, j5, j3⟩
#print axioms aw_loop9
#print axioms mk_arr
#print axioms acalls_freeze_in
#print axioms read_cell
end Go.AM

/-! AM, part 60: a row that was made in a piece becomes an object of the call's own again. -/
namespace Go.AM
open Go

/-- values that stand as they are when row o is taken back -/
inductive Sf (o : Nat) (H : Heap) : PV → PV → Prop where
  | int (k : IntKind) (n : Int) : Sf o H (.int k n) (.int k n)
  | bool (b : Bool) : Sf o H (.bool b) (.bool b)
  | nil (t : Tail) (ht : NT t) : Sf o H (.list [] t) (.list [] t)
  | tok (k : IntKind) (ns : List Int) (p : Nat) (hp : H[p]? = some .tok) (hne : p ≠ o) : Sf o H (.list (en1 k ns) (.tok p)) (.list (en1 k ns) (.tok p))
  | ptr (q off : Nat) : Sf o H (.ptr q off) (.ptr q off)
  | arr (q off len cap : Nat) : Sf o H (.arr q off len cap) (.arr q off len cap)
  | any (x : PV) : Sf o H x .any
inductive SfL (o : Nat) (H : Heap) : List PV → List PV → Prop where
  | nil : SfL o H [] []
  | cons {x y : PV} {xs ys : List PV} (h : Sf o H x y) (hs : SfL o H xs ys) : SfL o H (x :: xs) (y :: ys)
theorem SfL.length {o : Nat} {H : Heap} {xs ys : List PV} (h : SfL o H xs ys) : xs.length = ys.length := by
  induction h with
  | nil => rfl
  | cons _ _ ih => simp [ih]
theorem SfL.get {o : Nat} {H : Heap} {xs ys : List PV} (h : SfL o H xs ys) : ∀ (q : Nat) (x y : PV), xs[q]? = some x → ys[q]? = some y → Sf o H x y := by
  induction h with
  | nil => intro q x y h; simp at h
  | cons h _ ih =>
    intro q x y h1 h2
    cases q with
    | zero => simp at h1 h2; subst h1; subst h2; exact h
    | succ q => exact ih q x y (by simpa using h1) (by simpa using h2)

/-- the ghost without a row -/
def Gh.less (g : Gh) (b0 : Nat) : Gh := { g with imm := fun b q => g.imm b q ∧ b ≠ b0 }

theorem Sf.to {o : Nat} {H : Heap} {x y : PV} (h : Sf o H x y) {g : Gh} {w : World} (hS : Sim g H w) (ho : H[o]? = some .tok) : ∀ {v : Value}, Rel g w x v → Rel (g.less (g.bk o)) w y v := by
  cases h with
  | int k n => intro v hv; cases hv; exact .int _ _
  | bool b => intro v hv; cases hv; exact .bool _
  | nil t ht =>
    intro v hv
    obtain ⟨a, cap, rfl, h1, h2, h3, _⟩ := Rel.list_iff.1 hv
    refine Rel.list_iff.2 ⟨a, cap, rfl, h1, h2, ?_, .inl rfl⟩
    cases t with
    | no => trivial
    | exact => exact h3
    | tok p => exact absurd rfl (ht p)
  | tok k ns p hp hne =>
    intro v hv
    obtain ⟨a, cap, rfl, h1, h2, h3, h4⟩ := Rel.list_iff.1 hv
    obtain ⟨k1, A, s, k2, k3, k4, k5, k6, k7, k8⟩ := h3
    refine Rel.list_iff.2 ⟨a, cap, rfl, h1, h2, ⟨k1, A, s, k2, k3, k4, k5, k6, k7, k8⟩, h4.imp id ?_⟩
    rintro ⟨A', e1, e2, e3⟩
    refine ⟨A', e1, e2, fun q x hq => ?_⟩
    obtain ⟨j1, c, j2, j3⟩ := e3 q x hq
    rw [k2] at e1
    cases e1
    refine ⟨⟨j1, fun e => hne ?_⟩, c, j2, ?_⟩
    · exact hS.inj p o _ _ (g.bk o) hp ho rfl rfl (show g.bk p = g.bk o by rw [← k4]; exact e) rfl
    · have := List.mem_iff_getElem?.2 ⟨q, hq⟩
      rw [en1_flat] at this
      obtain ⟨m, _, rfl⟩ := List.mem_map.1 this
      cases j3; exact .int _ _
  | ptr q off => intro v hv; cases hv with | ptr _ _ hq => exact .ptr (g := g.less (g.bk o)) q off hq
  | arr q off len cap => intro v hv; cases hv with | arr _ _ _ _ hq => exact .arr (g := g.less (g.bk o)) q off len cap hq
  | any x => intro v _; exact .any v
theorem SfL.to {o : Nat} {H : Heap} {xs ys : List PV} (h : SfL o H xs ys) {g : Gh} {w : World} (hS : Sim g H w) (ho : H[o]? = some .tok) {vs : List Value} (hr : RelL g w xs vs) : RelL (g.less (g.bk o)) w ys vs := by
  refine ⟨by rw [← h.length]; exact hr.1, fun q y u hy hu => ?_⟩
  have hq : q < xs.length := by rw [h.length]; exact (List.getElem?_eq_some_iff.1 hy).1
  exact (h.get q xs[q] y (List.getElem?_eq_getElem hq) hy).to hS ho (hr.2 q _ u (List.getElem?_eq_getElem hq) hu)

/-- objects, when row o of these numbers, held in object p at place j, is taken back -/
structure Thaw (o p : Nat) (k : IntKind) (ns : List Int) (pre post pre2 post2 : List PV) (H' : Heap) : Prop where
  ne : ns ≠ []
  tok : H'[o]? = some .tok
  at_ : H'[p]? = some (.cells (pre ++ .list (en1 k ns) (.tok o) :: post))
  pre_ : SfL o H' pre pre2
  post_ : SfL o H' post post2
/-- the objects behind it -/
structure Thawed (o p : Nat) (H' H2 : Heap) (cs C : List PV) : Prop where
  len : H2.length = H'.length
  row : H2[o]? = some (.cells C)
  hold : H2[p]? = some (.cells cs)
  rest : ∀ (i : Nat) (b : Ob), i ≠ o → i ≠ p → H2[i]? = some b → b = .dead ∨ (b = .tok ∧ H'[i]? = some .tok) ∨ ∃ c c2, b = .cells c2 ∧ H'[i]? = some (.cells c) ∧ SfL o H' c c2

theorem Thawed.alive {o p : Nat} {H' H2 : Heap} {cs C : List PV} (h : Thawed o p H' H2 cs C) {k : IntKind} {ns : List Int} {pre post pre2 post2 : List PV} (t : Thaw o p k ns pre post pre2 post2 H') {i : Nat} {b : Ob} (hb : H2[i]? = some b) (ha : b.alive = true) :
    ∃ a, H'[i]? = some a ∧ a.alive = true ∧ (∀ g : Gh, ∀ x, blk g b i x ↔ g.bk i = x) ∧ (∀ g : Gh, ∀ x, blk g a i x ↔ g.bk i = x) := by
  by_cases e1 : i = o
  · subst e1
    rw [h.row] at hb; cases hb
    exact ⟨_, t.tok, rfl, fun _ _ => Iff.rfl, fun _ _ => Iff.rfl⟩
  by_cases e2 : i = p
  · subst e2
    rw [h.hold] at hb; cases hb
    exact ⟨_, t.at_, rfl, fun _ _ => Iff.rfl, fun _ _ => Iff.rfl⟩
  rcases h.rest i b e1 e2 hb with rfl | ⟨rfl, k1⟩ | ⟨c, c2, rfl, k1, _⟩
  · cases ha
  · exact ⟨_, k1, rfl, fun _ _ => Iff.rfl, fun _ _ => Iff.rfl⟩
  · exact ⟨_, k1, rfl, fun _ _ => Iff.rfl, fun _ _ => Iff.rfl⟩
theorem envS_sf {o : Nat} {H : Heap} {g : Gh} {w : World} (hS : Sim g H w) (ho : H[o]? = some .tok) : ∀ {ts : List Nat} {vs vs2 : List PV}, SfL o H vs vs2 → ∀ t v, Rel g w (envS ts vs t) v → Rel (g.less (g.bk o)) w (envS ts vs2 t) v
  | [], _, _, _, t, v, _ => by unfold envS; exact .any v
  | k :: ts, _, _, .nil, t, v, _ => by unfold envS; exact .any v
  | k :: ts, _, _, .cons h hs, t, v, hr => by
    simp only [envS] at hr ⊢
    cases hk : t == k with
    | true => rw [hk] at hr; exact h.to hS ho hr
    | false => rw [hk] at hr; exact envS_sf hS ho hs t v hr
theorem relL_split {g : Gh} {w : World} {xs ys : List PV} {vs : List Value} (h : RelL g w (xs ++ ys) vs) : RelL g w xs (vs.take xs.length) ∧ RelL g w ys (vs.drop xs.length) := by
  have h1 := h.take xs.length
  have h2 := h.drop xs.length
  rw [List.take_left'] at h1
  rw [List.drop_left'] at h2
  · exact ⟨h1, h2⟩
  · rfl
  · rfl

theorem AW.thaw {P : Program} {gl : Glob} {n : Nat} {c : Code} {Q : Ex → Env → Heap → Prop} {e : Env} {H : Heap} (slots : List Nat)
    (hH : ∀ (o : Nat) (r : Rep), H[o]? ≠ some (.abs r))
    (h : AW P gl n c (fun ex e' H' => ∃ (o p : Nat) (k : IntKind) (ns : List Int) (pre post pre2 post2 : List PV), Thaw o p k ns pre post pre2 post2 H' ∧ H.length ≤ o ∧ (∀ q, q < H.length → ∃ cs, H'[q]? = some (.cells cs)) ∧
      ∀ (off cap : Nat) (A B : List PV), (∀ x ∈ A, x = .any) → (∀ x ∈ B, x = .any) → A.length = off → ns.length ≤ cap → ∃ vs H2, SfL o H' (slots.map e') vs ∧ Thawed o p H' H2 (pre2 ++ .arr o off ns.length cap :: post2) (A ++ (ns.map (PV.int k) ++ B)) ∧ Q ex (envS slots vs) H2) e H) : AW P gl n c Q e H := by
  intro hd g a w hst
  refine wp_mono (h hd g a w hst) ?_
  rintro ex a' w' ⟨ex', g', e', H', k0, k1, hX, o, p, k, ns, pre, post, pre2, post2, th, hlo, hkeep, hk⟩
  have k1 := k1.weaken (envS_le e' slots)
  have hS := k1.sim
  have fresh : w.heap.size ≤ g'.bk o := by
    refine Nat.le_of_not_lt fun hlt => ?_
    obtain ⟨q, ob, h1, h2, h3⟩ := hX.ow _ hlt ⟨o, .tok, th.tok, rfl, rfl⟩
    have hq : q < H.length := (List.getElem?_eq_some_iff.1 h1).1
    obtain ⟨cs, h4⟩ := hkeep q hq
    have h5 : g.bk q = g'.bk o := by
      cases ob with
      | abs r => exact absurd h1 (hH q r)
      | cells _ => exact h3
      | tok => exact h3
      | dead => exact h3
    have h6 := hX.gx.bk q (by rw [hst.sim.n]; exact hq)
    have := hS.inj q o _ _ (g'.bk o) h4 th.tok rfl rfl (h6.trans h5) rfl
    omega
  obtain ⟨⟨C, ty, hC, hsz⟩, himm⟩ := hS.tok o th.tok
  obtain ⟨⟨Cp, typ, hCp, hrel⟩, himp⟩ := hS.cells p _ th.at_
  have hne : p ≠ o := by rintro rfl; have := th.tok; rw [th.at_] at this; cases this
  obtain ⟨hr1, hr2⟩ := relL_split hrel
  obtain ⟨v0, hv0, hvr⟩ := hr2.get (q := 0) (x := .list (en1 k ns) (.tok o)) rfl
  obtain ⟨ad, cap, rfl, _, hcap, ⟨_, A, s, rfl, hspot, hblk, hen, _, hfl, hle⟩, hrow⟩ := Rel.list_iff.1 hvr
  have hl1 : (en1 k ns).flatten.length = ns.length := by rw [en1_flat, List.length_map]
  rw [en1_length] at hcap hfl
  rw [hl1] at hen hfl
  have hnp : 0 < ns.length := List.length_pos_iff.2 th.ne
  have hs1 : s = 1 := by
    have := Nat.eq_of_mul_eq_mul_left hnp (show ns.length * s = ns.length * 1 by omega)
    exact this
  subst hs1
  have hrow' : ImmRow g' w' A (en1 k ns).flatten := by
    rcases hrow with h0 | ⟨A', e1, h0⟩
    · rw [h0] at hl1; simp at hl1; omega
    · cases e1; exact h0
  have hcell : ∀ q, q < ns.length → ∃ m, ns[q]? = some m ∧ C[A.off + q]? = some (.int k m) := by
    intro q hq
    have h1 : (en1 k ns).flatten[q]? = some (.int k ns[q]) := by rw [en1_flat, List.getElem?_map, List.getElem?_eq_getElem hq]; rfl
    obtain ⟨_, cv, h2, h3⟩ := hrow'.2 q _ h1
    cases h3
    refine ⟨ns[q], List.getElem?_eq_getElem hq, ?_⟩
    have : w'.cell? (At A q) = C[A.off + q]? := by
      unfold At
      rw [hblk]
      exact cell_of_block hC _
    rw [← this]; exact h2
  have hbound : A.off + cap ≤ C.size := by rw [hsz]; omega
  obtain ⟨vs, H2, hvs, htd, hQ⟩ := hk A.off cap (List.replicate A.off .any) (List.replicate (C.size - A.off - ns.length) .any) (fun x hx => (List.mem_replicate.1 hx).2) (fun x hx => (List.mem_replicate.1 hx).2) List.length_replicate hcap
  let g2 : Gh := g'.less (g'.bk o)
  have hgx : Gext g w g2 w' := ⟨hX.gx.n, hX.gx.bk, hX.gx.en, hX.gx.sz, fun b q hi => ⟨hX.gx.imm b q hi, fun e => by have := hst.sim.imm b q hi; omega⟩, hX.gx.cell⟩
  have hown : ∀ b, own g2 H2 b → own g' H' b := by
    rintro b ⟨i, ob, h1, h2, h3⟩
    obtain ⟨x, k2, k3, k4, k5⟩ := htd.alive th h1 h2
    exact ⟨i, x, k2, k3, (k5 g' b).2 ((k4 g2 b).1 h3)⟩
  have hintrel : RelL g2 w' (List.replicate A.off .any ++ (ns.map (PV.int k) ++ List.replicate (C.size - A.off - ns.length) .any)) C.toList := by
    refine ⟨by simp; omega, fun q x v hx hv => ?_⟩
    by_cases c1 : q < A.off
    · rw [List.getElem?_append_left (by simpa using c1), List.getElem?_replicate, if_pos c1] at hx
      cases hx; exact .any v
    · rw [List.getElem?_append_right (by simp; omega), List.length_replicate] at hx
      by_cases c2 : q - A.off < ns.length
      · rw [List.getElem?_append_left (by simpa using c2), List.getElem?_map] at hx
        obtain ⟨m, h1, h2⟩ := hcell (q - A.off) c2
        rw [h1] at hx
        cases hx
        rw [show A.off + (q - A.off) = q by omega] at h2
        rw [Array.getElem?_toList, h2] at hv
        cases hv
        exact .int _ _
      · rw [List.getElem?_append_right (by simp; omega), List.getElem?_replicate] at hx
        split at hx
        · cases hx; exact .any v
        · cases hx
  have hholdrel : RelL g2 w' (pre2 ++ .arr o A.off ns.length cap :: post2) Cp.toList := by
    have e1 : Cp.toList = Cp.toList.take pre.length ++ Cp.toList.drop pre.length := (List.take_append_drop _ _).symm
    obtain ⟨h3, h4⟩ := relL_split (xs := [.list (en1 k ns) (.tok o)]) (ys := post) hr2
    have e2 : (Cp.toList.drop pre.length) = .slice (some A) (en1 k ns).length cap :: (Cp.toList.drop pre.length).drop 1 := by
      cases hz : Cp.toList.drop pre.length with
      | nil => rw [hz] at hv0; cases hv0
      | cons a l => rw [hz] at hv0; cases hv0; rfl
    rw [e1, e2]
    refine (th.pre_.to hS th.tok hr1).append (.cons ?_ (th.post_.to hS th.tok h4))
    rw [en1_length]
    have hA : A = ⟨g2.bk o, A.off, none⟩ := by
      obtain ⟨ab, ao, asp⟩ := A
      simp only at hspot hblk
      subst hspot; subst hblk; rfl
    have := Rel.arr (g := g2) (w := w') o A.off ns.length cap (by rw [show g2.n = H'.length from hS.n]; exact (List.getElem?_eq_some_iff.1 th.tok).1)
    rw [← hA] at this
    exact this
  refine ⟨ex', g2, envS slots vs, H2, k0, ⟨⟨by rw [htd.len]; exact hS.n, fun i j oi oj b h1 h2 h3 h4 h5 h6 => ?_, fun i cs h1 => ?_, fun i h1 => ?_, fun b q hi => hS.imm b q hi.1, fun i r h1 => ?_⟩, hst.glob.mono hgx, ⟨k1.env.1, fun t => envS_sf hS th.tok hvs t _ (k1.env.2 t)⟩, k1.dfr⟩, ?_, hQ⟩
  · obtain ⟨x1, e1, e2, e3, e4⟩ := htd.alive th h1 h3
    obtain ⟨x2, f1, f2, f3, f4⟩ := htd.alive th h2 h4
    exact hS.inj i j x1 x2 b e1 f1 e2 f2 ((e4 g' b).2 ((e3 g2 b).1 h5)) ((f4 g' b).2 ((f3 g2 b).1 h6))
  · by_cases e1 : i = o
    · subst e1
      rw [htd.row] at h1; cases h1
      exact ⟨⟨C, ty, hC, hintrel⟩, fun q hi => hi.2 rfl⟩
    by_cases e2 : i = p
    · subst e2
      rw [htd.hold] at h1; cases h1
      exact ⟨⟨Cp, typ, hCp, hholdrel⟩, fun q hi => himp q hi.1⟩
    rcases htd.rest i _ e1 e2 h1 with h2 | ⟨h2, _⟩ | ⟨c1, c2, h2, h3, h4⟩
    · cases h2
    · cases h2
    · cases h2
      obtain ⟨⟨C1, ty1, f1, f2⟩, f3⟩ := hS.cells i c1 h3
      exact ⟨⟨C1, ty1, f1, h4.to hS th.tok f2⟩, fun q hi => f3 q hi.1⟩
  · by_cases e1 : i = o
    · subst e1; rw [htd.row] at h1; cases h1
    by_cases e2 : i = p
    · subst e2; rw [htd.hold] at h1; cases h1
    rcases htd.rest i _ e1 e2 h1 with h2 | ⟨_, h3⟩ | ⟨c1, c2, h2, _, _⟩
    · cases h2
    · obtain ⟨f1, f2⟩ := hS.tok i h3
      exact ⟨f1, fun q hq hi => f2 q hq hi.1⟩
    · cases h2
  · by_cases e1 : i = o
    · subst e1; rw [htd.row] at h1; cases h1
    by_cases e2 : i = p
    · subst e2; rw [htd.hold] at h1; cases h1
    rcases htd.rest i _ e1 e2 h1 with h2 | ⟨h2, _⟩ | ⟨c1, c2, h2, _, _⟩ <;> cases h2
  · exact ⟨hgx, hX.size, fun b hb ho => hX.ow b hb (hown b ho), hX.frame, hX.os, hX.tape, hX.output, fun b q hb hi => hX.im b q hb hi.1⟩
#print axioms AW.thaw
end Go.AM

