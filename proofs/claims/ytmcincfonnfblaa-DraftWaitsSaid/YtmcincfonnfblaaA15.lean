/-
  An abstract machine over values without memory, proved against the model; part 15. A tool for the proofs of this claim; it states nothing of the program.
-/
import Derived.Test.YtmcincfonnfblaaA14
/-! AM, part 15: whatever order is drawn comes to the same. -/
namespace Go.AM
open Go

/-- one operation of a row, its guard with it -/
def SD (P : Program) (gl : Glob) (hn : Oper → Nat) (ops : Array Oper) (o : Oper) (e : Env) (H : Heap) (e' : Env) (H' : Heap) : Prop :=
  (∃ r, e' = upd e o.dst r ∧ Step1 P gl o.op (hn o) (ev gl e) H r H' ∧ match o.guard with
    | none => True
    | some (j, want) => ∃ d, (ops[j]?).bind (·.dst) = some d ∧ e d = .bool want) ∨
  (e' = upd e o.dst (.tup []) ∧ H' = H ∧ ∃ j want d, o.guard = some (j, want) ∧ (ops[j]?).bind (·.dst) = some d ∧ (e d = .bool (!want) ∨ e d = .tup []))

inductive Chain (P : Program) (gl : Glob) (hn : Oper → Nat) (ops : Array Oper) : List Nat → Env → Heap → Env → Heap → Prop where
  | nil (e : Env) (H : Heap) : Chain P gl hn ops [] e H e H
  | cons {i : Nat} {is : List Nat} {o : Oper} {e e1 e2 : Env} {H H1 H2 : Heap} (ho : ops[i]? = some o) (h : SD P gl hn ops o e H e1 H1) (hs : Chain P gl hn ops is e1 H1 e2 H2) : Chain P gl hn ops (i :: is) e H e2 H2

/-- the slots that an operation looks at -/
def looks (ops : Array Oper) (o : Oper) : List Nat :=
  (o.op.operands.toList.filterMap fun x => match x with | .tmp t => some t | _ => none) ++ (match o.guard with | some (j, _) => ((ops[j]?).bind (·.dst)).toList | none => [])

/-- two stores whose hints say that they write different cells -/
def apartH (m1 m2 : Nat) : Bool :=
  Nat.ble 1000 m1 && Nat.ble 1000 m2 &&
    (!((m1 - 1000) / 100000 == (m2 - 1000) / 100000) || Nat.ble ((m1 - 1000) / 100 % 1000 + (m1 - 1000) % 100) ((m2 - 1000) / 100 % 1000) || Nat.ble ((m2 - 1000) / 100 % 1000 + (m2 - 1000) % 100) ((m1 - 1000) / 100 % 1000))
def isStore : Op → Bool
  | .store .. => true
  | _ => false

def isLoad : Op → Bool
  | .load .. => true
  | _ => false

theorem hint_dec {m o off sz : Nat} (hm : 1000 ≤ m) (h : hintOk m o off sz = true) : (m - 1000) / 100000 = o ∧ (m - 1000) / 100 % 1000 = off ∧ (m - 1000) % 100 = sz := by
  unfold hintOk at h
  simp only [Bool.or_eq_true, Bool.and_eq_true, Nat.blt_eq, beq_iff_eq] at h
  rcases h with h | ⟨⟨h1, h2⟩, h3⟩
  · omega
  · omega

theorem over_get {α : Type} {C vs : List α} {off : Nat} (h : off + vs.length ≤ C.length) (q : Nat) : (over C off vs)[q]? = if q < off then C[q]? else if q < off + vs.length then vs[q - off]? else C[q]? := by
  unfold over
  by_cases h1 : q < off
  · rw [if_pos h1, List.append_assoc, List.getElem?_append_left (by simp; omega), List.getElem?_take, if_pos h1]
  · rw [if_neg h1, List.append_assoc, List.getElem?_append_right (by simp; omega)]
    have e : (List.take off C).length = off := by simp; omega
    rw [e]
    by_cases h2 : q < off + vs.length
    · rw [if_pos h2, List.getElem?_append_left (by omega)]
    · rw [if_neg h2, List.getElem?_append_right (by omega), List.getElem?_drop]
      congr 1; omega

theorem over_comm {α : Type} {C us vs : List α} {a b : Nat} (ha : a + us.length ≤ C.length) (hb : b + vs.length ≤ C.length) (h : a + us.length ≤ b ∨ b + vs.length ≤ a) : over (over C a us) b vs = over (over C b vs) a us := by
  apply List.ext_getElem?
  intro q
  rw [over_get (C := over C a us) (by rw [over_length ha]; exact hb), over_get (C := over C b vs) (by rw [over_length hb]; exact ha), over_get (C := C) ha, over_get (C := C) hb]
  by_cases c1 : q < b <;> by_cases c2 : q < b + vs.length <;> by_cases c3 : q < a <;> by_cases c4 : q < a + us.length <;> simp only [c1, c2, c3, c4, if_true, if_false] <;> omega

/-- may the second be done ahead of the first? (the first stands ahead in the text) -/
def indep (ops : Array Oper) (hn : Oper → Nat) (o1 o2 : Oper) : Bool :=
  (match o1.dst with | some d => !(looks ops o2).contains d && o2.dst != some d | none => true) &&
  (match o2.dst with | some d => !(looks ops o1).contains d | none => true) &&
  match cl (hn o1) o1.op, cl (hn o2) o2.op with
  | some .p, some _ | some _, some .p => true
  | some .l, some .l | some .l, some .r | some .r, some .l | some .r, some .r => true
  | some .l, some .a => true
  | some .w, some .w => isStore o1.op && isStore o2.op && apartH (hn o1) (hn o2)
  | some .l, some .w => isLoad o1.op && isStore o2.op && (hn o1 == 900 || apartH (hn o1) (hn o2))
  | some .w, some .l => isStore o1.op && isLoad o2.op && (hn o2 == 900 || apartH (hn o1) (hn o2))
  | _, _ => false

theorem ev_upd {gl : Glob} {e : Env} {d : Option Tmp} {x : PV} {y : Operand} (h : ∀ t, d = some t → y ≠ .tmp t) : ev gl (upd e d x) y = ev gl e y := by
  cases y with
  | tmp k =>
    cases d with
    | none => rfl
    | some t =>
      simp only [ev, upd]
      rw [if_neg]
      intro e; subst e; exact h _ rfl rfl
  | const v => rfl
  | global k => rfl
  | func f => rfl

theorem upd_comm (e : Env) (d1 d2 : Option Tmp) (x y : PV) (h : ∀ t, d1 = some t → d2 ≠ some t) : upd (upd e d1 x) d2 y = upd (upd e d2 y) d1 x := by
  cases d1 with
  | none => rfl
  | some a =>
    cases d2 with
    | none => rfl
    | some b =>
      have : b ≠ a := fun e => h a rfl (by rw [e])
      funext k
      simp only [upd]
      by_cases h1 : k = b
      · subst h1; rw [if_pos rfl, if_neg this, if_pos rfl]
      · rw [if_neg h1, if_neg h1]

theorem upd_ne (e : Env) (d : Option Tmp) (x : PV) (k : Nat) (h : d ≠ some k) : upd e d x k = e k := by
  cases d with
  | none => rfl
  | some t =>
    simp only [upd]
    rw [if_neg]
    intro e; subst e; exact h rfl

/-- a step looks at no more than it says -/
theorem step1_env {P : Program} {gl : Glob} {op : Op} {m : Nat} {ρ ρ' : Operand → PV} {H H' : Heap} {r : PV} (hρ : ∀ x ∈ op.operands, ρ x = ρ' x) (h : Step1 P gl op m ρ H r H') : Step1 P gl op m ρ' H r H' := by
  refine ⟨opw_congr hρ h.1, ?_⟩
  have h2 := h.2
  split at h2
  · exact ⟨h2.1, fun H2 => opw_congr hρ (h2.2 H2)⟩
  all_goals exact h2

theorem looks_op {ops : Array Oper} {o : Oper} {d : Option Tmp} (h : ∀ t, d = some t → (looks ops o).contains t = false) {gl : Glob} {e : Env} {x : PV} : ∀ y ∈ o.op.operands, ev gl (upd e d x) y = ev gl e y := by
  intro y hy
  refine ev_upd ?_
  rintro t ht rfl
  have := h t ht
  simp only [looks, List.contains_eq_mem, List.mem_append, List.mem_filterMap, decide_eq_false_iff_not, not_or] at this
  exact this.1 ⟨.tmp t, by simpa using hy, rfl⟩

theorem looks_guard {ops : Array Oper} {o : Oper} {d : Option Tmp} (h : ∀ t, d = some t → (looks ops o).contains t = false) {j : Nat} {want : Bool} {k : Tmp} (hg : o.guard = some (j, want)) (hk : (ops[j]?).bind (·.dst) = some k) (e : Env) (x : PV) :
    upd e d x k = e k := by
  refine upd_ne _ _ _ _ ?_
  intro hd
  have := h k hd
  simp only [looks, hg, hk, List.contains_eq_mem, List.mem_append, decide_eq_false_iff_not, not_or] at this
  exact this.2 (by simp)

theorem sd_env {P : Program} {gl : Glob} {hn : Oper → Nat} {ops : Array Oper} {o : Oper} {d : Option Tmp} {x : PV} {e e' : Env} {H H' : Heap} (hl : ∀ t, d = some t → (looks ops o).contains t = false) (hd : ∀ t, d = some t → o.dst ≠ some t)
    (h : SD P gl hn ops o (upd e d x) H e' H') : ∃ e1, SD P gl hn ops o e H e1 H' ∧ e' = upd e1 d x := by
  rcases h with ⟨r, rfl, hs, hg⟩ | ⟨rfl, rfl, j, want, k, hg, hk, he⟩
  · refine ⟨upd e o.dst r, .inl ⟨r, rfl, step1_env (looks_op hl) hs, ?_⟩, upd_comm e d o.dst x r hd⟩
    split at hg
    · trivial
    · rename_i j want hgd
      obtain ⟨k, hk, he⟩ := hg
      exact ⟨k, hk, by rw [← looks_guard hl hgd hk e x]; exact he⟩
  · exact ⟨upd e o.dst (.tup []), .inr ⟨rfl, rfl, j, want, k, hg, hk, by rw [← looks_guard hl hg hk e x]; exact he⟩, upd_comm e d o.dst x _ hd⟩

theorem sd_env' {P : Program} {gl : Glob} {hn : Oper → Nat} {ops : Array Oper} {o : Oper} {d : Option Tmp} {x : PV} {e e1 : Env} {H H' : Heap} (hl : ∀ t, d = some t → (looks ops o).contains t = false) (hd : ∀ t, d = some t → o.dst ≠ some t)
    (h : SD P gl hn ops o e H e1 H') : SD P gl hn ops o (upd e d x) H (upd e1 d x) H' := by
  rcases h with ⟨r, rfl, hs, hg⟩ | ⟨rfl, rfl, j, want, k, hg, hk, he⟩
  · refine .inl ⟨r, (upd_comm e d o.dst x r hd).symm, step1_env (fun y hy => (looks_op hl y hy).symm) hs, ?_⟩
    split at hg
    · trivial
    · rename_i j want hgd
      obtain ⟨k, hk, he⟩ := hg
      exact ⟨k, hk, by rw [looks_guard hl hgd hk e x]; exact he⟩
  · exact .inr ⟨(upd_comm e d o.dst x _ hd).symm, rfl, j, want, k, hg, hk, by rw [looks_guard hl hg hk e x]; exact he⟩

/-- a look behind something new -/
theorem load_keeps {P : Program} {gl : Glob} {op : Op} {m : Nat} {ρ : Operand → PV} {H H' : Heap} {r : PV} (hc : cl m op = some .l) (hk : keeps H H') (h : opw P gl op m ρ H (fun x H1 => x = r ∧ H1 = H)) : opw P gl op m ρ H' (fun x H1 => x = r ∧ H1 = H') := by
  cases op <;> try (simp [cl] at hc; done)
  case load t a =>
    simp only [opw] at h ⊢
    split at h
    · rename_i cs b sz hb ht
      have hb' : behind H' (ρ a) = some cs := by
        unfold behind at hb ⊢
        split at hb
        · exact hb
        · rename_i o off _
          split at hb
          · rename_i cs' ho
            rw [hk o cs' ho]; exact hb
          · cases hb
        · cases hb
      rw [hb', ht]
      simp only
      split at h
      · rename_i y hl
        exact ⟨h.1, h.2.1, trivial⟩
      · exact h.elim
    · exact h.elim
  case call c =>
    simp only [cl] at hc
    split at hc
    · (repeat' split at hc) <;> simp at hc
    · split at hc <;> first | (simp at hc; done) | skip
      split at hc
      · simp at hc
      · (repeat' split at hc) <;> simp at hc
    · simp at hc

/-- a store, one step -/
theorem store_step {P : Program} {gl : Glob} {op : Op} {m : Nat} {ρ : Operand → PV} {H H' : Heap} {r : PV} (hs : isStore op = true) (h : opw P gl op m ρ H (fun x H1 => x = r ∧ H1 = H')) :
    ∃ (o off sz : Nat) (xs cs : List PV), H[o]? = some (.cells cs) ∧ off + sz ≤ cs.length ∧ xs.length = sz ∧ hintOk m o off sz = true ∧ r = .tup [] ∧ H' = H.set o (.cells (over cs off xs)) ∧
      ∀ (H2 : Heap) (cs2 : List PV), H2[o]? = some (.cells cs2) → off + sz ≤ cs2.length → opw P gl op m ρ H2 (fun x H1 => x = .tup [] ∧ H1 = H2.set o (.cells (over cs2 off xs))) := by
  cases op <;> try (cases hs; done)
  case store t a x =>
    simp only [opw] at h
    split at h
    · rename_i o off b sz xs ha ht hx
      split at h
      · rename_i cs ho
        obtain ⟨h1, h2, ⟨h3, h4⟩, h5, h6⟩ := h
        refine ⟨o, off, sz, xs, cs, ho, h3, h1, h4, h5.symm, h6.symm, fun H2 cs2 k1 k2 => ?_⟩
        simp only [opw, ha, ht, hx, k1]
        exact ⟨h1, h2, ⟨k2, h4⟩, trivial, trivial⟩
      · exact h.elim
    · exact h.elim

theorem loadPV_over {b : Bool} {off sz off2 : Nat} {cs xs : List PV} (h2 : off2 + xs.length ≤ cs.length) (h0 : 0 < sz) (hd : off + sz ≤ off2 ∨ off2 + xs.length ≤ off) : loadPV b sz ((over cs off2 xs).drop off) = loadPV b sz (cs.drop off) := by
  have hl : ((over cs off2 xs).drop off).length = (cs.drop off).length := by rw [List.length_drop, List.length_drop, over_length h2]
  have hg : ∀ q, q < sz → ((over cs off2 xs).drop off)[q]? = (cs.drop off)[q]? := fun q hq => by
    rw [List.getElem?_drop, List.getElem?_drop, over_get h2]
    by_cases c1 : off + q < off2
    · rw [if_pos c1]
    · rw [if_neg c1, if_neg (by omega)]
  unfold loadPV
  cases b with
  | true =>
    simp only [if_true, hl]
    have ht : ((over cs off2 xs).drop off).take sz = (cs.drop off).take sz := by
      apply List.ext_getElem?
      intro q
      rw [List.getElem?_take, List.getElem?_take]
      by_cases c : q < sz
      · rw [if_pos c, if_pos c, hg q c]
      · rw [if_neg c, if_neg c]
    rw [ht]
  | false =>
    simp only [Bool.false_eq_true, if_false]
    exact hg 0 h0

/-- a load, and a store into other cells: behind the store, or ahead of it, alike -/
theorem load_store {P : Program} {gl : Glob} {op : Op} {m m2 : Nat} {ρ : Operand → PV} {H : Heap} {r : PV} (hs : isLoad op = true) {o2 off2 sz2 : Nat} {cs2 xs2 : List PV} (ho : H[o2]? = some (.cells cs2)) (hfit : off2 + sz2 ≤ cs2.length) (hx : xs2.length = sz2) (hh : hintOk m2 o2 off2 sz2 = true)
    (hap : (m == 900 || apartH m m2) = true ∨ (m == 900 || apartH m2 m) = true) :
    opw P gl op m ρ H (fun x H1 => x = r ∧ H1 = H) ↔ opw P gl op m ρ (H.set o2 (.cells (over cs2 off2 xs2))) (fun x H1 => x = r ∧ H1 = H.set o2 (.cells (over cs2 off2 xs2))) := by
  cases op <;> try (cases hs; done)
  case load t a =>
    have hol : o2 < H.length := (List.getElem?_eq_some_iff.1 ho).1
    subst hx
    -- what stands behind the address, before and behind the store
    have key : ∀ (b : Bool) (sz : Nat), hintL m (ρ a) sz = true → (behind H (ρ a)).bind (loadPV b sz) = (behind (H.set o2 (.cells (over cs2 off2 xs2))) (ρ a)).bind (loadPV b sz) := by
      intro b sz hl
      unfold hintL at hl
      split at hl
      · split at hl
        · rename_i cs hx; rw [hx]; rfl
        · cases hl
      · rename_i h9
        have hm : 1000 ≤ m := by
          rcases hap with h | h <;> rw [h9, Bool.false_or] at h <;> simp only [apartH, Bool.and_eq_true, Nat.ble_eq] at h
          · exact h.1.1
          · exact h.1.2
        have hm2 : 1000 ≤ m2 := by
          rcases hap with h | h <;> rw [h9, Bool.false_or] at h <;> simp only [apartH, Bool.and_eq_true, Nat.ble_eq] at h
          · exact h.1.2
          · exact h.1.1
        simp only [Bool.or_eq_true, Nat.blt_eq] at hl
        rcases hl with hl | hl
        · omega
        · split at hl
          · rename_i o off hx
            simp only [Bool.and_eq_true, Nat.blt_eq] at hl
            obtain ⟨d1, d2, d3⟩ := hint_dec hm hl.1
            obtain ⟨d4, d5, d6⟩ := hint_dec hm2 hh
            have hd : o ≠ o2 ∨ off + sz ≤ off2 ∨ off2 + xs2.length ≤ off := by
              rcases hap with h | h <;> rw [h9, Bool.false_or] at h <;> simp only [apartH, Bool.and_eq_true, Nat.ble_eq, Bool.or_eq_true, Bool.not_eq_true', beq_eq_false_iff_ne, d1, d2, d3, d4, d5, d6] at h
              · rcases h.2 with (k | k) | k
                · exact .inl k
                · exact .inr (.inl k)
                · exact .inr (.inr k)
              · rcases h.2 with (k | k) | k
                · exact .inl (Ne.symm k)
                · exact .inr (.inr k)
                · exact .inr (.inl k)
            rw [hx]
            simp only [behind]
            by_cases hoo : o = o2
            · subst hoo
              rw [ho, List.getElem?_set_self hol]
              simp only [Option.bind_some]
              rcases hd with k | k
              · exact absurd rfl k
              · exact (loadPV_over hfit hl.2 k).symm
            · rw [List.getElem?_set_ne (fun e => hoo e.symm)]
          · cases hl
    simp only [opw]
    cases ht : tyA P t with
    | none => cases behind H (ρ a) <;> cases behind (H.set o2 (.cells (over cs2 off2 xs2))) (ρ a) <;> exact ⟨fun h => h.elim, fun h => h.elim⟩
    | some p =>
      obtain ⟨b, sz⟩ := p
      by_cases hl : hintL m (ρ a) sz = true
      · have k := key b sz hl
        constructor
        · intro h
          split at h
          · rename_i cs b' sz' hb ht'
            cases ht'
            split at h
            · rename_i y hy
              rw [hb] at k
              simp only [Option.bind_some, hy] at k
              obtain ⟨cs', hb', hy'⟩ := Option.bind_eq_some_iff.1 k.symm
              rw [hb']; simp only [hy']
              exact ⟨hl, h.2.1, trivial⟩
            · exact h.elim
          · exact h.elim
        · intro h
          split at h
          · rename_i cs b' sz' hb ht'
            cases ht'
            split at h
            · rename_i y hy
              rw [hb] at k
              simp only [Option.bind_some, hy] at k
              obtain ⟨cs', hb', hy'⟩ := Option.bind_eq_some_iff.1 k
              rw [hb']; simp only [hy']
              exact ⟨hl, h.2.1, trivial⟩
            · exact h.elim
          · exact h.elim
      · constructor
        · intro h
          split at h
          · rename_i cs b' sz' hb ht'
            cases ht'
            split at h
            · exact absurd h.1 hl
            · exact h.elim
          · exact h.elim
        · intro h
          split at h
          · rename_i cs b' sz' hb ht'
            cases ht'
            split at h
            · exact absurd h.1 hl
            · exact h.elim
          · exact h.elim

theorem swap {P : Program} {gl : Glob} {hn : Oper → Nat} {ops : Array Oper} {o1 o2 : Oper} (hi : indep ops hn o1 o2 = true) {e e1 e2 : Env} {H H1 H2 : Heap} (h1 : SD P gl hn ops o1 e H e1 H1) (h2 : SD P gl hn ops o2 e1 H1 e2 H2) :
    ∃ e1' H1', SD P gl hn ops o2 e H e1' H1' ∧ SD P gl hn ops o1 e1' H1' e2 H2 := by
  simp only [indep, Bool.and_eq_true] at hi
  obtain ⟨⟨hi1, hi2⟩, hi3⟩ := hi
  have hl2 : ∀ t, o1.dst = some t → (looks ops o2).contains t = false := by
    intro t ht; rw [ht] at hi1; simp at hi1; simpa using hi1.1
  have hd : ∀ t, o1.dst = some t → o2.dst ≠ some t := by
    intro t ht; rw [ht] at hi1; simp at hi1; exact hi1.2
  have hl1 : ∀ t, o2.dst = some t → (looks ops o1).contains t = false := by
    intro t ht; rw [ht] at hi2; simpa using hi2
  have hd' : ∀ t, o2.dst = some t → o1.dst ≠ some t := fun t ht ht' => hd t ht' ht
  -- the slot that the first writes
  obtain ⟨r1, hr1⟩ : ∃ r1, e1 = upd e o1.dst r1 := by
    rcases h1 with ⟨r, rfl, _⟩ | ⟨rfl, _⟩
    · exact ⟨r, rfl⟩
    · exact ⟨_, rfl⟩
  subst hr1
  obtain ⟨ea, ha, rfl⟩ := sd_env hl2 hd h2
  obtain ⟨r2, hr2⟩ : ∃ r2, ea = upd e o2.dst r2 := by
    rcases ha with ⟨r, rfl, _⟩ | ⟨rfl, _⟩
    · exact ⟨r, rfl⟩
    · exact ⟨_, rfl⟩
  subst hr2
  -- memory
  have hfin : ∀ Ha, SD P gl hn ops o2 e H (upd e o2.dst r2) Ha → SD P gl hn ops o1 e Ha (upd e o1.dst r1) H2 →
      ∃ e1' H1', SD P gl hn ops o2 e H e1' H1' ∧ SD P gl hn ops o1 e1' H1' (upd (upd e o2.dst r2) o1.dst r1) H2 := by
    intro Ha k1 k2
    have k3 := sd_env' (d := o2.dst) (x := r2) hl1 hd' k2
    refine ⟨_, Ha, k1, ?_⟩
    rwa [← upd_comm e o2.dst o1.dst r2 r1 hd'] at k3
  -- a step that does nothing goes anywhere
  have stay : ∀ {o : Oper} {r : PV} {Hx Hy : Heap}, SD P gl hn ops o e Hx (upd e o.dst r) Hx → (∀ {r'}, Step1 P gl o.op (hn o) (ev gl e) Hx r' Hx → Step1 P gl o.op (hn o) (ev gl e) Hy r' Hy) → SD P gl hn ops o e Hy (upd e o.dst r) Hy := by
    intro o r Hx Hy h hs
    rcases h with ⟨r', he, h1, hg⟩ | ⟨he, _, hg⟩
    · exact .inl ⟨r', he, hs h1, hg⟩
    · exact .inr ⟨he, rfl, hg⟩
  have pstay : ∀ {o : Oper} {Hx Hy : Heap} {r' : PV}, cl (hn o) o.op = some .p → Step1 P gl o.op (hn o) (ev gl e) Hx r' Hx → Step1 P gl o.op (hn o) (ev gl e) Hy r' Hy := by
    intro o Hx Hy r' hc h
    have := h.2
    rw [hc] at this
    exact step1_p hc this.2
  -- which memory do steps without change leave
  have same : ∀ {o : Oper} {Hx Hy : Heap} {r : PV}, (cl (hn o) o.op = some .p ∨ cl (hn o) o.op = some .l ∨ cl (hn o) o.op = some .r) → SD P gl hn ops o e Hx (upd e o.dst r) Hy → Hy = Hx := by
    intro o Hx Hy r hc h
    rcases h with ⟨r', _, h1, _⟩ | ⟨_, he, _⟩
    · have := h1.2
      rcases hc with hc | hc | hc <;> rw [hc] at this
      · exact this.1
      · exact this
      · exact this
    · exact he
  split at hi3
  · -- the first is without memory
    rename_i c2 hc1 hc2
    have := same (.inl hc1) h1
    subst this
    exact hfin H2 ha (stay h1 (pstay hc1))
  · rename_i c1 hc1 hc2
    have := same (.inl hc2) ha
    subst this
    exact hfin H (stay ha (pstay hc2)) h1
  · rename_i hc1 hc2
    have := same (.inr (.inl hc1)) h1
    subst this
    have := same (.inr (.inl hc2)) ha
    subst this
    exact hfin _ ha h1
  · rename_i hc1 hc2
    have := same (.inr (.inl hc1)) h1
    subst this
    have := same (.inr (.inr hc2)) ha
    subst this
    exact hfin _ ha h1
  · rename_i hc1 hc2
    have := same (.inr (.inr hc1)) h1
    subst this
    have := same (.inr (.inl hc2)) ha
    subst this
    exact hfin _ ha h1
  · rename_i hc1 hc2
    have := same (.inr (.inr hc1)) h1
    subst this
    have := same (.inr (.inr hc2)) ha
    subst this
    exact hfin _ ha h1
  · -- a look, then something new
    rename_i hc1 hc2
    have := same (.inr (.inl hc1)) h1
    subst this
    have hk : keeps H1 H2 := by
      rcases ha with ⟨r', _, hs, _⟩ | ⟨_, he, _⟩
      · have := hs.2; rw [hc2] at this; exact this
      · subst he; exact fun _ _ h => h
    exact hfin H2 ha (stay h1 (fun {r'} hs => ⟨load_keeps hc1 hk hs.1, by rw [hc1]⟩))
  · -- two stores into different cells
    rename_i hc1 hc2
    simp only [Bool.and_eq_true] at hi3
    obtain ⟨⟨hs1, hs2⟩, hap⟩ := hi3
    rcases h1 with ⟨ra, hea, k1, hg1⟩ | ⟨hea, rfl, hg1⟩
    · rcases ha with ⟨rb, heb, k2, hg2⟩ | ⟨heb, rfl, hg2⟩
      · obtain ⟨oa, offa, sza, xa, ca, a1, a2, a3, a4, rfl, a6, a7⟩ := store_step hs1 k1.1
        obtain ⟨ob, offb, szb, xb, cb, b1, b2, b3, b4, rfl, b6, b7⟩ := store_step hs2 k2.1
        simp only [apartH, Bool.and_eq_true, Nat.ble_eq, Bool.or_eq_true, Bool.not_eq_true', beq_eq_false_iff_ne] at hap
        obtain ⟨⟨m1, m2⟩, hap⟩ := hap
        obtain ⟨d1, d2, d3⟩ := hint_dec m1 a4
        obtain ⟨d4, d5, d6⟩ := hint_dec m2 b4
        rw [d1, d2, d3, d4, d5, d6] at hap
        subst a6
        subst a3
        subst b3
        by_cases hoo : oa = ob
        · subst hoo
          have hol : oa < H.length := (List.getElem?_eq_some_iff.1 a1).1
          have hcb : cb = over ca offa xa := by
            rw [List.getElem?_set_self hol] at b1
            cases b1; rfl
          subst hcb
          have hlb : offb + xb.length ≤ ca.length := by rw [over_length a2] at b2; exact b2
          have hdis : offa + xa.length ≤ offb ∨ offb + xb.length ≤ offa := by
            rcases hap with (h | h) | h
            · exact absurd rfl h
            · exact .inl h
            · exact .inr h
          have e1 : H2 = (H.set oa (.cells (over ca offb xb))).set oa (.cells (over (over ca offb xb) offa xa)) := by
            rw [b6, List.set_set, List.set_set, over_comm a2 hlb hdis]
          refine hfin (H.set oa (.cells (over ca offb xb))) (.inl ⟨_, heb, ⟨b7 H ca a1 hlb, by rw [hc2]; trivial⟩, hg2⟩) (.inl ⟨_, hea, ⟨?_, by rw [hc1]; trivial⟩, hg1⟩)
          rw [e1]
          exact a7 _ _ (List.getElem?_set_self hol) (by rw [over_length hlb]; exact a2)
        · have b1' : H[ob]? = some (.cells cb) := by rw [List.getElem?_set_ne hoo] at b1; exact b1
          refine hfin (H.set ob (.cells (over cb offb xb))) (.inl ⟨_, heb, ⟨b7 H cb b1' b2, by rw [hc2]; trivial⟩, hg2⟩) (.inl ⟨_, hea, ⟨?_, by rw [hc1]; trivial⟩, hg1⟩)
          rw [b6, List.set_comm _ _ (fun e => hoo e)]
          exact a7 _ _ (by rw [List.getElem?_set_ne (fun e => hoo e.symm)]; exact a1) a2
      · exact hfin H (.inr ⟨heb, rfl, hg2⟩) (.inl ⟨ra, hea, k1, hg1⟩)
    · exact hfin H2 ha (.inr ⟨hea, rfl, hg1⟩)
  · -- a look, then a store into other cells
    rename_i hc1 hc2
    simp only [Bool.and_eq_true] at hi3
    obtain ⟨⟨hs1, hs2⟩, hap⟩ := hi3
    have := same (.inr (.inl hc1)) h1
    subst this
    rcases ha with ⟨rb, heb, k2, hg2⟩ | ⟨heb, rfl, hg2⟩
    · obtain ⟨ob, offb, szb, xb, cb, b1, b2, b3, b4, rfl, b6, b7⟩ := store_step hs2 k2.1
      have kk := k2
      subst b6
      exact hfin _ (.inl ⟨_, heb, kk, hg2⟩) (stay h1 (fun {r'} hs => ⟨(load_store hs1 b1 b2 b3 b4 (.inl hap)).1 hs.1, by rw [hc1]⟩))
    · exact hfin _ (.inr ⟨heb, rfl, hg2⟩) h1
  · -- a store, then a look at other cells
    rename_i hc1 hc2
    simp only [Bool.and_eq_true] at hi3
    obtain ⟨⟨hs1, hs2⟩, hap⟩ := hi3
    have := same (.inr (.inl hc2)) ha
    subst this
    rcases h1 with ⟨ra, hea, k1, hg1⟩ | ⟨hea, rfl, hg1⟩
    · obtain ⟨oa, offa, sza, xa, ca, a1, a2, a3, a4, rfl, a6, a7⟩ := store_step hs1 k1.1
      have kk := k1
      subst a6
      refine hfin H ?_ (.inl ⟨_, hea, kk, hg1⟩)
      exact stay ha (fun {r'} hs => ⟨(load_store hs2 a1 a2 a3 a4 (.inr hap)).2 hs.1, by rw [hc2]⟩)
    · exact hfin H2 ha (.inr ⟨hea, rfl, hg1⟩)
  · cases hi3

theorem bubble {P : Program} {gl : Glob} {hn : Oper → Nat} {ops : Array Oper} {i : Nat} {B : List Nat} : ∀ (A : List Nat) (e : Env) (H : Heap) (e2 : Env) (H2 : Heap),
    (∀ k ∈ A, ∀ ok oi, ops[k]? = some ok → ops[i]? = some oi → indep ops hn ok oi = true) → Chain P gl hn ops (A ++ i :: B) e H e2 H2 → Chain P gl hn ops (i :: (A ++ B)) e H e2 H2 := by
  intro A
  induction A with
  | nil => intro e H e2 H2 _ h; exact h
  | cons k A ih =>
    intro e H e2 H2 hi h
    rw [List.cons_append] at h
    cases h with
    | cons ho h1 hs =>
      have hs' := ih _ _ _ _ (fun q hq => hi q (by simp [hq])) hs
      cases hs' with
      | cons ho' h2 hs2 =>
        obtain ⟨ea, Ha, k1, k2⟩ := swap (hi k (by simp) _ _ ho ho') h1 h2
        exact .cons ho' k1 (.cons ho k2 hs2)

/-- the order of a row that has been drawn, held against the text's -/
def RespR (ops : Array Oper) (hn : Oper → Nat) (i j : Nat) : Prop := j < i → ∀ oj oi, ops[j]? = some oj → ops[i]? = some oi → indep ops hn oj oi = true

theorem perm_chain {P : Program} {gl : Glob} {hn : Oper → Nat} {ops : Array Oper} : ∀ (σ L : List Nat) (e : Env) (H : Heap) (e2 : Env) (H2 : Heap),
    L.Pairwise (· < ·) → σ.Perm L → σ.Pairwise (RespR ops hn) → Chain P gl hn ops L e H e2 H2 → Chain P gl hn ops σ e H e2 H2 := by
  intro σ
  induction σ with
  | nil =>
    intro L e H e2 H2 _ hp _ h
    have : L = [] := List.Perm.eq_nil hp.symm
    subst this; exact h
  | cons i σ ih =>
    intro L e H e2 H2 hL hp hR h
    have hi : i ∈ L := hp.subset (by simp)
    obtain ⟨A, B, rfl⟩ := List.append_of_mem hi
    have hb := bubble A e H e2 H2 (fun k hk ok oi h1 h2 => by
      have hlt : k < i := by
        have := (List.pairwise_append.1 hL).2.2 k hk i (by simp)
        exact this
      have hkσ : k ∈ σ := by
        have : k ∈ i :: σ := hp.symm.subset (by simp [hk])
        rcases List.mem_cons.1 this with e | h
        · omega
        · exact h
      exact (List.pairwise_cons.1 hR).1 k hkσ hlt ok oi h1 h2) h
    cases hb with
    | cons ho h1 hs =>
      refine .cons ho h1 (ih (A ++ B) _ _ _ _ ?_ ?_ (List.pairwise_cons.1 hR).2 hs)
      · exact hL.sublist (by simp)
      · exact (List.perm_cons i).1 (hp.trans (List.perm_middle))

/-- a list in which each stands behind what it waits for -/
def Closed (md : Region.Mode) (ops : Array Oper) (l : List Nat) : Prop :=
  ∀ (p i : Nat) (o : Oper), l[p]? = some i → ops[i]? = some o → ∀ e ∈ o.after, Region.binds md e = true → e.on ∈ l.take p

/-- what binds at all binds to what stands ahead in the text -/
def backEdges (ops : Array Oper) : Bool := (List.range ops.size).all fun i => match ops[i]? with
  | some o => o.after.toList.all fun e => !Region.binds .any e || decide (e.on < i)
  | none => true

theorem backEdges_spec {ops : Array Oper} (h : backEdges ops = true) {i : Nat} {o : Oper} (ho : ops[i]? = some o) {e : Edge} (he : e ∈ o.after) (hb : Region.binds .any e = true) : e.on < i := by
  have hi : i < ops.size := (Array.getElem?_eq_some_iff.1 ho).1
  have := List.all_eq_true.1 h i (by simpa using hi)
  rw [ho] at this
  simp only [List.all_eq_true, Bool.or_eq_true, decide_eq_true_eq, Bool.not_eq_true'] at this
  rcases this e (by simpa using he) with h | h
  · rw [hb] at h; cases h
  · exact h

/-- an order in which each stands behind what it waits for, as a number for each -/
def rankB (md : Region.Mode) (ops : Array Oper) (rk : List Nat) : Bool := (List.range ops.size).all fun i => match ops[i]? with
  | some o => o.after.toList.all fun e => decide (e.on < ops.size) && (!Region.binds md e || decide (rk.getD e.on 0 < rk.getD i 0))
  | none => true

theorem rankB_spec {md : Region.Mode} {ops : Array Oper} {rk : List Nat} (h : rankB md ops rk = true) {i : Nat} {o : Oper} (ho : ops[i]? = some o) {e : Edge} (he : e ∈ o.after) :
    e.on < ops.size ∧ (Region.binds md e = true → rk.getD e.on 0 < rk.getD i 0) := by
  have hi : i < ops.size := (Array.getElem?_eq_some_iff.1 ho).1
  have := List.all_eq_true.1 h i (by simpa using hi)
  rw [ho] at this
  simp only [List.all_eq_true, Bool.and_eq_true, Bool.or_eq_true, decide_eq_true_eq, Bool.not_eq_true'] at this
  obtain ⟨h1, h2⟩ := this e (by simpa using he)
  refine ⟨h1, fun hb => ?_⟩
  rcases h2 with h2 | h2
  · rw [hb] at h2; cases h2
  · exact h2

/-- the places of a first try -/
def ranks (md : Region.Mode) (ops : Array Oper) : List Nat :=
  let l := Region.linearise md ops 0
  (List.range ops.size).map fun i => l.idxOf i

theorem lin_go {md : Region.Mode} {ops : Array Oper} {rk : List Nat} (hb : rankB md ops rk = true) : ∀ (fuel t : Nat) (listed : Array Bool) (acc : List Nat), listed.size = ops.size → (∀ i, i < ops.size → (listed.getD i true = true ↔ i ∈ acc)) →
    acc.Nodup → (∀ i ∈ acc, i < ops.size) → Closed md ops acc.reverse → acc.length + fuel = ops.size →
    (Region.linearise.go md ops fuel t listed acc).Nodup ∧ (∀ i ∈ Region.linearise.go md ops fuel t listed acc, i < ops.size) ∧ Closed md ops (Region.linearise.go md ops fuel t listed acc) ∧
      (Region.linearise.go md ops fuel t listed acc).length = ops.size := by
  intro fuel
  induction fuel with
  | zero =>
    intro t listed acc _ _ h3 h4 h5 h6
    simp only [Region.linearise.go]
    exact ⟨(List.reverse_perm acc).nodup_iff.2 h3, fun i hi => h4 i (by simpa using hi), h5, by simpa using h6⟩
  | succ fuel ih =>
    intro t listed acc h1 h2 h3 h4 h5 h6
    simp only [Region.linearise.go]
    generalize hrs : ((List.range ops.size).filter fun i => !listed.getD i true && ((ops[i]?).map (·.after.all fun e => !Region.binds md e || listed.getD e.on false)).getD false) = rs
    -- something is ready
    have hne : 0 < rs.length := by
      -- the least that isn't listed
      have hex : ∃ i, i < ops.size ∧ i ∉ acc := by
        rcases Classical.em (∃ i, i < ops.size ∧ i ∉ acc) with h | h
        · exact h
        · exfalso
          have hall : ∀ i ∈ List.range ops.size, i ∈ acc := by
            intro i hi
            rcases Classical.em (i ∈ acc) with h' | h'
            · exact h'
            · exact absurd ⟨i, by simpa using hi, h'⟩ h
          have := List.Nodup.length_le_of_subset (List.nodup_range) hall
          simp at this
          omega
      obtain ⟨r, ⟨i, hi, hri⟩, hmin0⟩ := exists_least (p := fun r => ∃ i, (i < ops.size ∧ i ∉ acc) ∧ rk.getD i 0 = r) (by obtain ⟨i, hi⟩ := hex; exact ⟨_, i, hi, rfl⟩)
      have hmin : ∀ k, k < ops.size ∧ k ∉ acc → r ≤ rk.getD k 0 := fun k hk => hmin0 _ ⟨k, hk, rfl⟩
      have hmem : i ∈ rs := by
        rw [← hrs]
        simp only [List.mem_filter, List.mem_range, Bool.and_eq_true, Bool.not_eq_true']
        refine ⟨hi.1, ?_, ?_⟩
        · cases hl : listed.getD i true
          · rfl
          · exact absurd ((h2 i hi.1).1 hl) hi.2
        · rw [Array.getElem?_eq_getElem hi.1]
          simp only [Option.map_some, Option.getD_some]
          rw [Array.all_eq_true']
          intro e he
          obtain ⟨hos, hlt⟩ := rankB_spec hb (Array.getElem?_eq_getElem hi.1) he
          cases hbe : Region.binds md e with
          | false => simp
          | true =>
          have hlt := hlt hbe
          have hin : e.on ∈ acc := by
            rcases Classical.em (e.on ∈ acc) with h' | h'
            · exact h'
            · exact absurd (hmin e.on ⟨hos, h'⟩) (by omega)
          have hl := (h2 e.on hos).2 hin
          have : listed.getD e.on false = true := by
            have hs : e.on < listed.size := by omega
            simp only [Array.getD, hs, dif_pos] at hl ⊢
            exact hl
          simp [this]
      exact List.length_pos_of_mem hmem
    have hlt : t % rs.length < rs.length := Nat.mod_lt _ hne
    rw [List.getElem?_eq_getElem hlt]
    simp only
    generalize hi : rs[t % rs.length] = i
    have hmem : i ∈ rs := by rw [← hi]; exact List.getElem_mem hlt
    rw [← hrs] at hmem
    simp only [List.mem_filter, List.mem_range, Bool.and_eq_true, Bool.not_eq_true'] at hmem
    obtain ⟨hio, hnl, hrd⟩ := hmem
    have hnot : i ∉ acc := by
      intro h'
      have := (h2 i hio).2 h'
      rw [this] at hnl; cases hnl
    refine ih (t / rs.length) (listed.setIfInBounds i true) (i :: acc) (by simpa using h1) ?_ (List.nodup_cons.2 ⟨hnot, h3⟩) ?_ ?_ (by simp; omega)
    · intro k hk
      by_cases hki : k = i
      · subst hki
        have : k < listed.size := by omega
        simp [Array.getD, this]
      · have h7 := h2 k hk
        simp only [Array.getD_eq_getD_getElem?] at h7 ⊢
        rw [Array.getElem?_setIfInBounds_ne (Ne.symm hki), h7]
        simp [hki]
    · intro k hk
      rcases List.mem_cons.1 hk with rfl | hk
      · exact hio
      · exact h4 k hk
    · intro p k o hp ho e he hbe
      rw [List.reverse_cons] at hp ⊢
      rcases getElem?_snoc _ _ _ _ hp with ⟨hp, hpl⟩ | ⟨rfl, rfl⟩
      · rw [List.take_append_of_le_length (by omega)]
        exact h5 p k o hp ho e he hbe
      · rw [List.take_left']
        · rw [ho] at hrd
          simp only [Option.map_some, Option.getD_some] at hrd
          have := Array.all_eq_true'.1 hrd e he
          rw [hbe] at this
          simp only [Bool.not_true, Bool.false_or] at this
          have hlt' : e.on < ops.size := (rankB_spec hb ho he).1
          have : listed.getD e.on true = true := by
            have hs : e.on < listed.size := by omega
            simp only [Array.getD, hs, dif_pos] at this ⊢
            exact this
          have := (h2 e.on (by omega)).1 this
          simpa using this
        · rfl

/-- what an operation waits for, at first and second hand -/
def addAll (acc : List (List Nat)) (o : Oper) : List Nat :=
  (o.after.toList.filter (Region.binds .any)).foldl (fun s e => s ++ (e.on :: acc.getD e.on []).filter (fun x => !s.contains x)) []

def ancB (ops : List Oper) : List (List Nat) := ops.foldl (fun acc o => acc ++ [addAll acc o]) []

theorem addAll_mem {acc : List (List Nat)} {o : Oper} {j : Nat} (h : j ∈ addAll acc o) : ∃ e ∈ o.after, Region.binds .any e = true ∧ (j = e.on ∨ j ∈ acc.getD e.on []) := by
  unfold addAll at h
  have gen : ∀ (es : List Edge) (s : List Nat), j ∈ es.foldl (fun s e => s ++ (e.on :: acc.getD e.on []).filter (fun x => !s.contains x)) s → j ∈ s ∨ ∃ e ∈ es, j = e.on ∨ j ∈ acc.getD e.on [] := by
    intro es
    induction es with
    | nil => intro s h; exact .inl h
    | cons e es ih =>
      intro s h
      rcases ih _ h with h | ⟨e', he', h⟩
      · rcases List.mem_append.1 h with h | h
        · exact .inl h
        · have := (List.mem_filter.1 h).1
          exact .inr ⟨e, by simp, List.mem_cons.1 this⟩
      · exact .inr ⟨e', by simp [he'], h⟩
  rcases gen _ _ h with h | ⟨e, he, h⟩
  · cases h
  · have := List.mem_filter.1 he
    exact ⟨e, by simpa using this.1, this.2, h⟩

theorem ancB_snoc (l : List Oper) (o : Oper) : ancB (l ++ [o]) = ancB l ++ [addAll (ancB l) o] := by
  simp [ancB, List.foldl_append]

theorem ancB_length : ∀ (l : List Oper), (ancB l).length = l.length := by
  intro l
  have gen : ∀ (l : List Oper) (acc : List (List Nat)), (l.foldl (fun acc o => acc ++ [addAll acc o]) acc).length = acc.length + l.length := by
    intro l
    induction l with
    | nil => intro acc; rfl
    | cons o l ih => intro acc; simp only [List.foldl_cons, ih]; simp; omega
  have := gen l []
  simpa [ancB] using this

theorem ancB_mem (ops : List Oper) : ∀ (n : Nat), n ≤ ops.length → ∀ (i j : Nat) (o : Oper), i < n → ops[i]? = some o → (∀ e ∈ o.after, Region.binds .any e = true → e.on < i) → j ∈ (ancB (ops.take n)).getD i [] →
    ∃ e ∈ o.after, Region.binds .any e = true ∧ (j = e.on ∨ j ∈ (ancB (ops.take n)).getD e.on []) := by
  intro n
  induction n with
  | zero => intro _ i j o hi; omega
  | succ n ih =>
    intro hn i j o hi ho hback hj
    have hlt : n < ops.length := by omega
    have htake : ops.take (n + 1) = ops.take n ++ [ops[n]] := by
      rw [List.take_succ_eq_append_getElem hlt]
    rw [htake, ancB_snoc] at hj ⊢
    have hlen : (ancB (ops.take n)).length = n := by rw [ancB_length]; simp; omega
    have hget : ∀ k, k < n → (ancB (ops.take n) ++ [addAll (ancB (ops.take n)) ops[n]]).getD k [] = (ancB (ops.take n)).getD k [] := by
      intro k hk
      simp only [List.getD_eq_getElem?_getD]
      rw [List.getElem?_append_left (by omega)]
    by_cases hin : i < n
    · rw [hget i hin] at hj
      obtain ⟨e, he, hb, h⟩ := ih (by omega) i j o hin ho hback hj
      refine ⟨e, he, hb, ?_⟩
      have := hback e he hb
      rw [hget e.on (by omega)]; exact h
    · have hieq : i = n := by omega
      subst hieq
      have ho' : ops[i] = o := by rw [List.getElem?_eq_getElem hlt] at ho; exact Option.some.inj ho
      have : (ancB (ops.take i) ++ [addAll (ancB (ops.take i)) ops[i]]).getD i [] = addAll (ancB (ops.take i)) ops[i] := by
        simp only [List.getD_eq_getElem?_getD]
        rw [List.getElem?_append_right (by omega), hlen]; simp
      rw [this, ho'] at hj
      obtain ⟨e, he, hb, h⟩ := addAll_mem hj
      refine ⟨e, he, hb, ?_⟩
      have := hback e he hb
      rw [hget e.on (by omega)]; exact h

theorem closed_anc {md : Region.Mode} {ops : Array Oper} (hb : backEdges ops = true) {l : List Nat} (hl : Closed md ops l) (hr : ∀ i ∈ l, i < ops.size) :
    ∀ (p i : Nat), l[p]? = some i → ∀ j ∈ (ancB ops.toList).getD i [], j ∈ l.take p := by
  intro p
  induction p using Nat.strongRecOn with
  | _ p ih =>
    intro i hp j hj
    have hi : i < ops.size := hr i (List.mem_of_getElem? hp)
    have hm := ancB_mem ops.toList ops.size (by simp) i j ops[i] hi (by simp) (fun e he hbe => backEdges_spec hb (Array.getElem?_eq_getElem hi) he hbe)
    have htk : ops.toList.take ops.size = ops.toList := by rw [List.take_of_length_le (by simp)]
    rw [htk] at hm
    obtain ⟨e, he, hbe, h⟩ := hm hj
    have hbe' : Region.binds md e = true := by
      unfold Region.binds at hbe ⊢
      split <;> simp_all
    have hin := hl p i ops[i] hp (Array.getElem?_eq_getElem hi) e he hbe'
    rcases h with rfl | h
    · exact hin
    · obtain ⟨p', hp'⟩ := List.mem_iff_getElem?.1 hin
      have hlt : p' < p := by
        have := (List.getElem?_eq_some_iff.1 hp').1
        simp at this; omega
      rw [List.getElem?_take, if_pos hlt] at hp'
      have := ih p' hlt e.on hp' j h
      exact (List.take_subset_take_left l (Nat.le_of_lt hlt)) this

/-- a row whose order may be drawn: each two that hang together stand in order -/
def okOrder (ops : Array Oper) (hn : Oper → Nat) : Bool :=
  (backEdges ops && rankB .any ops (ranks .any ops) && (!Region.departs ops || rankB .text ops (ranks .text ops)) && (!Region.departs ops || rankB .gc ops (ranks .gc ops))) && (ops.toList.all fun o => (cl (hn o) o.op).isSome) &&
  (let anc := ancB ops.toList
   (List.range ops.size).all fun i => (List.range i).all fun j => match ops[j]?, ops[i]? with
    | some oj, some oi => indep ops hn oj oi || (anc.getD i []).contains j
    | _, _ => true)

theorem schedule_ok {ops : Array Oper} {hn : Oper → Nat} (h : okOrder ops hn = true) (mixed : Bool) (t : Nat) :
    (Region.schedule mixed ops t).Perm (List.range ops.size) ∧ (Region.schedule mixed ops t).Pairwise (RespR ops hn) := by
  simp only [okOrder, Bool.and_eq_true] at h
  obtain ⟨⟨⟨⟨⟨hb, hra⟩, hrt⟩, hrg⟩, _⟩, hd⟩ := h
  have main : ∀ md t, rankB md ops (ranks md ops) = true → (Region.linearise md ops t).Perm (List.range ops.size) ∧ (Region.linearise md ops t).Pairwise (RespR ops hn) := by
    intro md t hrk
    unfold Region.linearise
    obtain ⟨k1, k2, k3, k4⟩ := lin_go (md := md) hrk ops.size t (Array.replicate ops.size false) [] (by simp) (fun i hi => by simp [Array.getD, hi]) (by simp) (by simp) (fun p i o hp => by simp at hp) (by simp)
    generalize Region.linearise.go md ops ops.size t (Array.replicate ops.size false) [] = l at k1 k2 k3 k4
    refine ⟨?_, ?_⟩
    · refine (List.perm_ext_iff_of_nodup k1 List.nodup_range).2 fun a => ⟨fun ha => by simpa using k2 a ha, fun ha => ?_⟩
      rcases Classical.em (a ∈ l) with h | h
      · exact h
      · exfalso
        have h1 : (a :: l).Nodup := List.nodup_cons.2 ⟨h, k1⟩
        have h2 : (a :: l) ⊆ List.range ops.size := by
          intro x hx
          rcases List.mem_cons.1 hx with rfl | hx
          · exact ha
          · simpa using k2 x hx
        have := List.Nodup.length_le_of_subset h1 h2
        simp at this
        omega
    · rw [List.pairwise_iff_getElem]
      intro p q hp hq hpq hlt oj oi hoj hoi
      have hiq := k2 _ (List.getElem_mem hp)
      have hc := List.all_eq_true.1 hd (l[p]) (by simpa using hiq)
      have hc := List.all_eq_true.1 hc (l[q]) (by simpa using hlt)
      rw [hoj, hoi] at hc
      simp only [Bool.or_eq_true] at hc
      rcases hc with hc | hc
      · exact hc
      · exfalso
        have := closed_anc hb k3 k2 p l[p] (List.getElem?_eq_getElem hp) l[q] (by simpa using hc)
        obtain ⟨r, hr⟩ := List.mem_iff_getElem?.1 this
        have hrp : r < p := by
          have := (List.getElem?_eq_some_iff.1 hr).1
          simp at this; omega
        rw [List.getElem?_take, if_pos hrp] at hr
        have hrl : r < l.length := by omega
        rw [List.getElem?_eq_getElem hrl] at hr
        have := (List.getElem_inj k1).1 (Option.some.inj hr)
        omega
  unfold Region.schedule
  split
  · exact main _ _ hra
  · rename_i hdep
    have hdp : Region.departs ops = true := by
      revert hdep
      cases mixed <;> cases Region.departs ops <;> simp
    rw [hdp] at hrt hrg
    simp only [Bool.not_true, Bool.false_or] at hrt hrg
    split
    · exact main _ _ hrt
    · exact main _ _ hrg

end Go.AM
