/-
  An abstract machine over values without memory, proved against the model; part 7. A tool for the proofs of this claim; it states nothing of the program.
-/
import Derived.Test.YthabdpaipgclpaaA6
/-! AM, part 35: words for objects; rows of a kind of their own. -/
namespace Go.AM
open Go

/-- such a whole stands there -/
def AbIs (H : Heap) (o : Nat) (r : Rep) : Prop := H[o]? = some (.abs r)
/-- such cells stand there -/
def CeIs (H : Heap) (o : Nat) (cs : List PV) : Prop := H[o]? = some (.cells cs)

/-- rows out of a kind of their own -/
theorem inL_map {α : Type} {f : α → List PV} {sz : Nat} (hf : ∀ a, (f a).length = sz) (h0 : sz ≠ 0) (l : List α) (i : Nat) : InL (l.map f) sz (i : Int) = (i < l.length) := by
  apply propext
  constructor
  · intro h; have := h.2.1; simpa using this
  · intro h
    refine ⟨by omega, by simpa using h, ?_, h0⟩
    intro e he
    simp only [List.mem_map] at he
    obtain ⟨a, _, rfl⟩ := he
    exact hf a
theorem inL_map_int {α : Type} {f : α → List PV} {sz : Nat} (hf : ∀ a, (f a).length = sz) (h0 : sz ≠ 0) (l : List α) (i : Int) : InL (l.map f) sz i = (0 ≤ i ∧ i < l.length) := by
  apply propext
  constructor
  · intro h; have h1 := h.1; have := h.2.1; simp at this; omega
  · intro h
    refine ⟨h.1, by simp; omega, ?_, h0⟩
    intro e he
    simp only [List.mem_map] at he
    obtain ⟨a, _, rfl⟩ := he
    exact hf a
theorem getD_map {α : Type} {f : α → List PV} {l : List α} {i : Nat} (d : α) (h : i < l.length) : (l.map f).getD i [] = f (l.getD i d) := by
  rw [List.getD_eq_getElem?_getD, List.getElem?_map, List.getElem?_eq_getElem h, List.getD_eq_getElem?_getD, List.getElem?_eq_getElem h]; rfl
theorem uni_map {α : Type} {f : α → List PV} {sz : Nat} (hf : ∀ a, (f a).length = sz) (l : List α) : uni sz (l.map f) := by
  intro e he
  simp only [List.mem_map] at he
  obtain ⟨a, _, rfl⟩ := he
  exact hf a
theorem low_map {α : Type} {f : α → List PV} {n : Nat} {l : List α} (hf : ∀ a ∈ l, ∀ x ∈ f a, Low n x) : ∀ x ∈ (l.map f).flatten, Low n x := by
  intro x hx
  obtain ⟨e, he, hx⟩ := List.mem_flatten.1 hx
  simp only [List.mem_map] at he
  obtain ⟨a, ha, rfl⟩ := he
  exact hf a ha x hx
theorem flat_len {α : Type} {f : α → List PV} {sz : Nat} (hf : ∀ a, (f a).length = sz) : ∀ l : List α, (l.map f).flatten.length = l.length * sz
  | [] => by simp
  | a :: l => by rw [List.map_cons, List.flatten_cons, List.length_append, hf, flat_len hf l, List.length_cons, Nat.succ_mul]; omega

/-- a whole number, said to be one -/
abbrev iI (n : Int) : Int := n
theorem bt (b : Bool) : ((b == true) = true) = (b = true) := by cases b <;> simp
theorem bf (b : Bool) : ((b == false) = true) = (b = false) := by cases b <;> simp
theorem beq_S (a b : ByteArray) : ((a == b) = true) = (a = b) := by
  cases a with | mk a => cases b with | mk b =>
  apply propext
  show (a == b) = true ↔ _
  simp
theorem bne_S (a b : ByteArray) : ((a != b) = true) = (a ≠ b) := by
  rw [bne, Bool.not_eq_true', Bool.eq_false_iff, ne_eq, beq_S]
theorem beq_Sf (a b : ByteArray) : ((a == b) = false) = (a ≠ b) := by
  rw [Bool.eq_false_iff, ne_eq, beq_S]
theorem bne_Sf (a b : ByteArray) : ((a != b) = false) = (a = b) := by
  apply propext
  rw [Bool.eq_false_iff, ne_eq, bne_S]
  exact ⟨fun h => Classical.byContradiction h, fun h k => k h⟩
theorem beq_I (a b : Int) : ((a == b) = true) = (a = b) := by simp
theorem bne_I (a b : Int) : ((a != b) = true) = (a ≠ b) := by simp
theorem beq_If (a b : Int) : ((a == b) = false) = (a ≠ b) := by simp
theorem bne_If (a b : Int) : ((a != b) = false) = (a = b) := by simp
theorem dt (p : Prop) [Decidable p] : (decide p = true) = p := by simp
theorem df (p : Prop) [Decidable p] : (decide p = false) = (¬ p) := by simp

theorem if_or {α : Type} (p q : Prop) [Decidable p] [Decidable q] (x y : α) : (if p ∨ q then x else y) = (if p then x else if q then x else y) := by
  by_cases h : p
  · rw [if_pos (.inl h), if_pos h]
  · by_cases k : q
    · rw [if_pos (.inr k), if_neg h, if_pos k]
    · rw [if_neg (fun e => e.elim h k), if_neg h, if_neg k]

theorem ite_bool {α : Type} (b : Bool) (x y : α) : (if b = true then x else y) = (match b with | true => x | false => y) := by cases b <;> rfl

end Go.AM

/-! AM, part 36: a loop that makes rows, whose end is told alike however often it went round. -/
namespace Go.AM
open Go

/-- objects are let go, and names that stand for nothing are laid behind -/
structure Pad (H H2 : Heap) : Prop where
  len : H.length ≤ H2.length
  ob : ∀ (o : Nat) (ob : Ob), H2[o]? = some ob → ob.alive = true → H[o]? = some ob

theorem Pad.refl (H : Heap) : Pad H H := ⟨Nat.le_refl _, fun _ _ h _ => h⟩

theorem pad_dead (H : Heap) : Pad H (H ++ [.dead]) := by
  refine ⟨by simp, fun o ob h ha => ?_⟩
  rcases getElem?_snoc _ _ _ _ h with ⟨h1, _⟩ | ⟨_, rfl⟩
  · exact h1
  · cases ha
theorem pad_kill (H : Heap) (x : Ob) : Pad (H ++ [x]) (H ++ [.dead]) := by
  refine ⟨by simp, fun o ob h ha => ?_⟩
  rcases getElem?_snoc _ _ _ _ h with ⟨h1, h2⟩ | ⟨_, rfl⟩
  · rw [List.getElem?_append_left h2]; exact h1
  · cases ha

theorem St.pad {gl : Glob} {n : Nat} {g g0 : Gh} {e : Env} {H H0 H2 : Heap} {a : Act} {w w0 : World} (hst : St gl n g e H a w) (hx : Ext g0 H0 w0 g H w) (hp : Pad H H2) : ∃ g', St gl n g' e H2 a w ∧ Ext g0 H0 w0 g' H2 w := by
  let g' : Gh := ⟨H2.length, g.bk, g.en, g.sz, g.imm, g.fp⟩
  have hb : blk g' = blk g := by funext ob o b; cases ob <;> rfl
  have hn : g.n = H.length := hst.sim.n
  have hgx : Gext g w g' w := ⟨by show g.n ≤ H2.length; rw [hn]; exact hp.len, fun _ _ => rfl, fun _ _ => rfl, fun _ _ => rfl, fun _ _ h => h, fun _ _ _ => rfl⟩
  have hS := hst.sim
  refine ⟨g', ⟨⟨rfl, fun o o' ob ob' b h1 h2 h3 h4 => by rw [hb]; exact hS.inj o o' ob ob' b (hp.ob _ _ h1 h3) (hp.ob _ _ h2 h4) h3 h4, fun o cs h1 => ?_, fun o h1 => hS.tok o (hp.ob _ _ h1 rfl), hS.imm, fun o r h1 => hS.abs o r (hp.ob _ _ h1 rfl)⟩, hst.glob.mono hgx, hst.env.mono hgx, hst.dfr⟩, ?_⟩
  · obtain ⟨⟨C, ty, e1, e2⟩, e3⟩ := hS.cells o cs (hp.ob _ _ h1 rfl)
    exact ⟨⟨C, ty, e1, e2.mono hgx⟩, e3⟩
  · refine ⟨hx.gx.trans hgx, hx.size, fun b hb' ho => ?_, hx.frame, hx.os, hx.tape, hx.output, hx.im⟩
    obtain ⟨o, ob, h1, h2, h3⟩ := ho
    rw [hb] at h3
    exact hx.ow b hb' ⟨o, ob, hp.ob _ _ h1 h2, h2, h3⟩

theorem envS_wk {g : Gh} {w : World} : ∀ {ts : List Nat} {vs vs2 : List PV}, WkL vs vs2 → ∀ t v, Rel g w (envS ts vs t) v → Rel g w (envS ts vs2 t) v
  | [], _, _, _, t, v, _ => by unfold envS; exact .any v
  | k :: ts, _, _, .nil, t, v, _ => by unfold envS; exact .any v
  | k :: ts, _, _, .cons h hs, t, v, hr => by
    simp only [envS] at hr ⊢
    cases hk : t == k with
    | true => rw [hk] at hr; exact h g w v hr
    | false => rw [hk] at hr; exact envS_wk hs t v hr

/-- what a round of such a loop must bring -/
def loopP {σ : Type} (Q : Ex → Env → Heap → Prop) (n0 : Nat) (slots : List Nat) (I : σ → Prop) (V : σ → List PV) (Hp : σ → Heap) (m : σ → Nat) (s : σ) : Ex → List PV → Heap → Prop := fun ex vs H' => match ex with
  | .normal => ∃ s', m s' < m s ∧ I s' ∧ Relab n0 vs H' (V s') (Hp s')
  | .exit i => ∃ vs2 H2, WkL vs vs2 ∧ Pad H' H2 ∧ Q (.exit i) (envS slots vs2) H2
  | .ret => ∃ vs2 H2, WkL vs vs2 ∧ Pad H' H2 ∧ Q .ret (envS slots vs2) H2

theorem aw_loop6a {P : Program} {gl : Glob} (hgl : GlobLow gl) {n : Nat} {x : Code} {Q : Ex → Env → Heap → Prop} {e : Env} {H : Heap} {σ : Type} (slots : List Nat) (I : σ → Prop) (V : σ → List PV) (Hp : σ → Heap) (m : σ → Nat) (s0 : σ)
    (h0 : I s0) (he : slots.map e = V s0) (hH : H = Hp s0)
    (round : ∀ s, I s → AW P gl n x (fun ex e' H' => loopP Q H.length slots I V Hp m s ex (slots.map e') H') (envS slots (V s)) (Hp s)) : AW P gl n (.loop x) Q e H := by
  intro hd g a w hst
  simp only [dstAll] at hd
  have hng : g.n = H.length := hst.sim.n
  refine wp_loop_ghost (fun k a' w' => ∃ g' s, k = m s ∧ I s ∧ St gl n g' (envS slots (V s)) (Hp s) a' w' ∧ Ext g H w g' (Hp s) w') (m s0) ⟨g, s0, rfl, h0, by rw [← hH, ← he]; exact hst.weaken (envS_le e slots), by rw [← hH]; exact .refl g H w⟩ ?_
  rintro k a1 w1 ⟨g1, s, rfl, hI, hst1, hx1⟩
  refine wp_mono (round s hI hd g1 a1 w1 hst1) ?_
  rintro ex a' w' ⟨ex', g', e', H', k0, k1, k2, k3⟩
  have k1' := k1.weaken (envS_le e' slots)
  have wk : ∀ {vs2 : List PV} {H2 : Heap}, WkL (slots.map e') vs2 → Pad H' H2 → ∃ g3, St gl n g3 (envS slots vs2) H2 a' w' ∧ Ext g H w g3 H2 w' := fun h1 h2 => by
    have k4 : St gl n g' (envS slots _) H' a' w' := ⟨k1'.sim, k1'.glob, ⟨k1'.env.1, fun t => envS_wk h1 t _ (k1'.env.2 t)⟩, k1'.dfr⟩
    exact k4.pad (hx1.trans k2) h2
  cases ex <;> cases ex' <;> first | exact k0.elim | skip
  · obtain ⟨s', hm, hI', hr⟩ := k3
    obtain ⟨g3, j1, j2⟩ := k1'.relab hgl (hx1.trans k2) hng hr
    exact ⟨m s', hm, g3, s', rfl, hI', j1, j2⟩
  · obtain ⟨vs2, H2, j1, j2, j3⟩ := k3
    obtain ⟨g3, j4, j5⟩ := wk j1 j2
    exact ⟨.exit _, g3, _, H2, k0, j4, j5, j3⟩
  · obtain ⟨vs2, H2, j1, j2, j3⟩ := k3
    obtain ⟨g3, j4, j5⟩ := wk j1 j2
    exact ⟨.ret, g3, _, H2, k0, j4, j5, j3⟩

theorem aw_loop6 {P : Program} {gl : Glob} (hgl : GlobLow gl) {n : Nat} {T : Tab} (hT : TabOk P gl T) {L : LTab} {hn : Oper → Nat} {x : Code} (hL : LOk P gl n x [] L) {Q : Ex → Env → Heap → Prop} {e : Env} {H : Heap} {σ : Type} (slots : List Nat) (I : σ → Prop) (V : σ → List PV) (Hp : σ → Heap) (m : σ → Nat) (s0 : σ)
    (h0 : I s0) (he : slots.map e = V s0) (hH : H = Hp s0)
    (round : ∀ s, I s → Holds (wpc br P gl T L hn x [] (envS slots (V s)) (Hp s) (fun ex e' H' => loopP Q H.length slots I V Hp m s ex (slots.map e') H'))) : AW P gl n (.loop x) Q e H :=
  aw_loop6a hgl slots I V Hp m s0 h0 he hH fun s hI => wpc_sound hT x [] hL _ _ _ (round s hI).out

/-- the growing row's tail and objects, behind so many rounds -/
def tlG (n0 : Nat) : Nat → Tail
  | 0 => .exact
  | _ + 1 => .tok n0
def hpG (B : Heap) : Nat → Heap
  | 0 => B
  | _ + 1 => B ++ [.tok]
theorem hpG_len (B : Heap) (i : Nat) : B.length ≤ (hpG B i).length := by cases i <;> simp [hpG]
theorem pad_G (B : Heap) (i : Nat) : Pad (hpG B i) (B ++ [.dead]) := by
  cases i with
  | zero => exact pad_dead B
  | succ i => exact pad_kill B .tok
theorem wk_G (es : List (List PV)) (n0 i : Nat) : Wk (.list es (tlG n0 i)) (.list es .no) := .list es _

#print axioms aw_loop6
end Go.AM

/-! AM, part 37: a loop that lays one element a round behind a row. -/
namespace Go.AM
open Go

/-- what a round must bring -/
def growP {α : Type} (f : α → List PV) (T : List α) (Q : Ex → Env → Heap → Prop) (B : Heap) (slots : List Nat) (V : PV → Nat → List PV) (i : Nat) : Ex → List PV → Heap → Prop := fun ex vs H' => match ex with
  | .normal => i < T.length ∧ ∃ X k, H' = B ++ X ∧ (B ++ X)[k]? = some .tok ∧ B.length ≤ k ∧ vs = V (.list ((T.take (i + 1)).map f) (.tok k)) (i + 1)
  | .exit j => ∃ vs2 H2, WkL vs vs2 ∧ Pad H' H2 ∧ Q (.exit j) (envS slots vs2) H2
  | .ret => ∃ vs2 H2, WkL vs vs2 ∧ Pad H' H2 ∧ Q .ret (envS slots vs2) H2

theorem aw_grow {α : Type} {f : α → List PV} {T : List α} {P : Program} {gl : Glob} (hgl : GlobLow gl) {n : Nat} {Tb : Tab} (hT : TabOk P gl Tb) {L : LTab} {hn : Oper → Nat} {x : Code} (hL : LOk P gl n x [] L) {Q : Ex → Env → Heap → Prop} {e : Env} {H : Heap} (slots : List Nat) (V : PV → Nat → List PV) (B : Heap)
    (hlow : ∀ (o : Nat) cs, B[o]? = some (.cells cs) → ∀ x ∈ cs, Low B.length x) (hf : ∀ a ∈ T, ∀ x ∈ f a, Low B.length x)
    (hrv : ∀ (es : List (List PV)) (i k : Nat), (∀ y ∈ es.flatten, Low B.length y) → RVs B.length k (V (.list es (.tok k)) i) (V (.list es (.tok B.length)) i))
    (he : slots.map e = V (.list [] .exact) 0) (hH : H = B)
    (first : Holds (wpc br P gl Tb L hn x [] (envS slots (V (.list [] .exact) 0)) B (fun ex e' H' => growP f T Q B slots V 0 ex (slots.map e') H')))
    (later : ∀ i, 0 < i → i ≤ T.length → Holds (wpc br P gl Tb L hn x [] (envS slots (V (.list ((T.take i).map f) (.tok B.length)) i)) (B ++ [.tok]) (fun ex e' H' => growP f T Q B slots V i ex (slots.map e') H'))) : AW P gl n (.loop x) Q e H := by
  subst hH
  have key : ∀ i, i ≤ T.length → ∀ ex vs H', growP f T Q H slots V i ex vs H' → loopP Q H.length slots (fun i => i ≤ T.length) (fun i => V (.list ((T.take i).map f) (tlG H.length i)) i) (fun i => hpG H i) (fun i => T.length - i) i ex vs H' := by
    intro i hi ex vs H' h
    cases ex with
    | exit j => exact h
    | ret => exact h
    | normal =>
      obtain ⟨hlt, X, k, rfl, h2, h3, rfl⟩ := h
      refine ⟨i + 1, (show T.length - (i + 1) < T.length - i by omega), hlt, ?_⟩
      exact relab_row rfl hlow h3 h2 (hrv _ _ _ (low_map fun a ha => hf a (List.mem_of_mem_take ha)))
  refine aw_loop6a hgl (σ := Nat) slots (fun i => i ≤ T.length) (fun i => V (.list ((T.take i).map f) (tlG H.length i)) i) (fun i => hpG H i) (fun i => T.length - i) 0 (Nat.zero_le _) (by simpa [tlG] using he) rfl ?_
  intro i hi
  cases i with
  | zero => exact (wpc_sound hT x [] hL _ _ _ first.out).mono fun ex e' H' k => key 0 hi ex _ H' k
  | succ i => exact (wpc_sound hT x [] hL _ _ _ (later (i + 1) (Nat.succ_pos i) hi).out).mono fun ex e' H' k => key (i + 1) hi ex _ H' k
end Go.AM

/-! AM, part 38: a call whose arguments say more than is asked. -/
namespace Go.AM
open Go

theorem acalls_args {P : Program} {gl : Glob} {f : FuncId} {args args' : List PV} {H : Heap} {K : PV → Heap → Prop} (hw : WkL args args') (h : ACalls P gl f args' H K) : ACalls P gl f args H K := by
  intro g w vs hS hG hR
  exact h g w vs hS hG (hw.rel hR)

/-- a pure function's answer, where its arguments say more than it asks -/
theorem spure_w {P : Program} {gl : Glob} (hgl : GlobLow gl) {f : FuncId} {args args' : List PV} {r : PV} {K : PV → Prop} (hw : WkL args args') (ha : ∀ x ∈ args', Low 0 x) (hr : Low 0 r) (h : ACalls P gl f args' [] (fun x _ => x = r)) (hk : K r) : ∃ r, PCall P gl f args r ∧ K r :=
  ⟨r, fun H => acalls_args hw (PCall.alone hgl ha hr h H), hk⟩

#print axioms spure_w
end Go.AM

/-! AM, part 39: a region whose order is drawn, held against an order of one's own; two such orders, where two operations do not go past one another. -/
namespace Go.AM
open Go

/-- the order of a row that has been drawn, held against a rank -/
def RespK (rk : Nat → Nat) (ops : Array Oper) (hn : Oper → Nat) (i j : Nat) : Prop := rk j < rk i → ∀ oj oi, ops[j]? = some oj → ops[i]? = some oi → indep ops hn oj oi = true

theorem perm_chain2 {P : Program} {gl : Glob} {hn : Oper → Nat} {ops : Array Oper} (rk : Nat → Nat) : ∀ (σ L : List Nat) (e : Env) (H : Heap) (e2 : Env) (H2 : Heap),
    L.Pairwise (fun a b => rk a < rk b) → σ.Perm L → σ.Pairwise (RespK rk ops hn) → Chain P gl hn ops L e H e2 H2 → Chain P gl hn ops σ e H e2 H2 := by
  intro σ
  induction σ with
  | nil =>
    intro L e H e2 H2 _ hp _ h
    have : L = [] := List.Perm.eq_nil hp.symm
    subst this; exact h
  | cons i σ ih =>
    intro L e H e2 H2 hL hp hR h
    have hi : i ∈ L := hp.subset (by simp)
    obtain ⟨A, B, rfl⟩ := List.append_of_mem hi
    have hb := bubble A e H e2 H2 (fun k hk ok oi h1 h2 => by
      have hlt : rk k < rk i := (List.pairwise_append.1 hL).2.2 k hk i (by simp)
      have hkσ : k ∈ σ := by
        have : k ∈ i :: σ := hp.symm.subset (by simp [hk])
        rcases List.mem_cons.1 this with e | h
        · subst e; omega
        · exact h
      exact (List.pairwise_cons.1 hR).1 k hkσ hlt ok oi h1 h2) h
    cases hb with
    | cons ho h1 hs =>
      refine .cons ho h1 (ih (A ++ B) _ _ _ _ ?_ ?_ (List.pairwise_cons.1 hR).2 hs)
      · exact hL.sublist (by simp)
      · exact (List.perm_cons i).1 (hp.trans (List.perm_middle))

/-- what is asked of the edges -/
def okEdges (ops : Array Oper) : Bool :=
  backEdges ops && rankB .any ops (ranks .any ops) && (!Region.departs ops || rankB .text ops (ranks .text ops)) && (!Region.departs ops || rankB .gc ops (ranks .gc ops))

/-- each two that hang together stand as the rank says, but for 'y' ahead of 'x' -/
def okRank (ops : Array Oper) (hn : Oper → Nat) (rk : Nat → Nat) (x y : Nat) : Bool :=
  let anc := ancB ops.toList
  (List.range ops.size).all fun i => (List.range ops.size).all fun j => !Nat.blt (rk j) (rk i) || (match ops[j]?, ops[i]? with
    | some oj, some oi => indep ops hn oj oi || (anc.getD i []).contains j || (i == y && j == x)
    | _, _ => true)

/-- does 'y' stand ahead of 'x'? -/
def ahead (l : List Nat) (y x : Nat) : Prop := ∃ p q : Nat, p < q ∧ l[p]? = some y ∧ l[q]? = some x

theorem schedule_rank {ops : Array Oper} {hn : Oper → Nat} (h : okEdges ops = true) (mixed : Bool) (t : Nat) :
    (Region.schedule mixed ops t).Perm (List.range ops.size) ∧ ∀ rk x y, okRank ops hn rk x y = true → ¬ ahead (Region.schedule mixed ops t) y x → (Region.schedule mixed ops t).Pairwise (RespK rk ops hn) := by
  simp only [okEdges, Bool.and_eq_true] at h
  obtain ⟨⟨⟨hb, hra⟩, hrt⟩, hrg⟩ := h
  have main : ∀ md t, rankB md ops (ranks md ops) = true → (Region.linearise md ops t).Perm (List.range ops.size) ∧ ∀ rk x y, okRank ops hn rk x y = true → ¬ ahead (Region.linearise md ops t) y x → (Region.linearise md ops t).Pairwise (RespK rk ops hn) := by
    intro md t hrk
    unfold Region.linearise
    obtain ⟨k1, k2, k3, k4⟩ := lin_go (md := md) hrk ops.size t (Array.replicate ops.size false) [] (by simp) (fun i hi => by simp [Array.getD, hi]) (by simp) (by simp) (fun p i o hp => by simp at hp) (by simp)
    generalize Region.linearise.go md ops ops.size t (Array.replicate ops.size false) [] = l at k1 k2 k3 k4
    refine ⟨?_, ?_⟩
    · refine (List.perm_ext_iff_of_nodup k1 List.nodup_range).2 fun a => ⟨fun ha => by simpa using k2 a ha, fun ha => ?_⟩
      rcases Classical.em (a ∈ l) with h | h
      · exact h
      · exfalso
        have h1 : (a :: l).Nodup := List.nodup_cons.2 ⟨h, k1⟩
        have h2 : (a :: l) ⊆ List.range ops.size := by
          intro x hx
          rcases List.mem_cons.1 hx with rfl | hx
          · exact ha
          · simpa using k2 x hx
        have := List.Nodup.length_le_of_subset h1 h2
        simp at this
        omega
    · intro rk x y hd hah
      rw [List.pairwise_iff_getElem]
      intro p q hp hq hpq hlt oj oi hoj hoi
      have hiq := k2 _ (List.getElem_mem hp)
      have hjq := k2 _ (List.getElem_mem hq)
      have hc := List.all_eq_true.1 hd (l[p]) (by simpa using hiq)
      have hc := List.all_eq_true.1 hc (l[q]) (by simpa using hjq)
      rw [hoj, hoi] at hc
      have hbl : Nat.blt (rk l[q]) (rk l[p]) = true := by rw [Nat.blt_eq]; exact hlt
      rw [hbl] at hc
      simp only [Bool.not_true, Bool.false_or, Bool.or_eq_true, Bool.and_eq_true, beq_iff_eq] at hc
      rcases hc with (hc | hc) | ⟨e1, e2⟩
      · exact hc
      · exfalso
        have := closed_anc hb k3 k2 p l[p] (List.getElem?_eq_getElem hp) l[q] (by simpa using hc)
        obtain ⟨r, hr⟩ := List.mem_iff_getElem?.1 this
        have hrp : r < p := by
          have := (List.getElem?_eq_some_iff.1 hr).1
          simp at this; omega
        rw [List.getElem?_take, if_pos hrp] at hr
        have hrl : r < l.length := by omega
        rw [List.getElem?_eq_getElem hrl] at hr
        have := (List.getElem_inj k1).1 (Option.some.inj hr)
        omega
      · exact absurd ⟨p, q, hpq, by rw [List.getElem?_eq_getElem hp, e1], by rw [List.getElem?_eq_getElem hq, e2]⟩ hah
  unfold Region.schedule
  split
  · exact main _ _ hra
  · rename_i hdep
    have hdp : Region.departs ops = true := by
      revert hdep
      cases mixed <;> cases Region.departs ops <;> simp
    rw [hdp] at hrt hrg
    simp only [Bool.not_true, Bool.false_or] at hrt hrg
    split
    · exact main _ _ hrt
    · exact main _ _ hrg

/-- operations, in an order of one's own -/
def inOrder (ops : Array Oper) (is : List Nat) : List Oper := is.filterMap fun i => ops[i]?

theorem inOrder_map {ops : Array Oper} : ∀ {is : List Nat}, (∀ i ∈ is, i < ops.size) → is.map (fun i => ops[i]?) = (inOrder ops is).map some
  | [], _ => rfl
  | i :: is, h => by
    have h0 := h i (by simp)
    have ih := inOrder_map (is := is) fun j hj => h j (by simp [hj])
    unfold inOrder at ih ⊢
    rw [List.map_cons, ih, List.filterMap_cons]
    simp [Array.getElem?_eq_getElem h0]

theorem aw_region_draw2 {P : Program} {gl : Glob} {n : Nat} {id : Nat} {ops : Array Oper} {Q : Ex → Env → Heap → Prop} {e : Env} {H : Heap} (hn : Oper → Nat) (x y : Nat) (is js : List Nat) (ri rj : Nat → Nat)
    (he : okEdges ops = true) (hcl : (ops.toList.all fun o => (cl (hn o) o.op).isSome) = true) (pi : is.Perm (List.range ops.size)) (pj : js.Perm (List.range ops.size))
    (si : is.Pairwise (fun a b => ri a < ri b)) (sj : js.Pairwise (fun a b => rj a < rj b)) (oi : okRank ops hn ri x y = true) (oj : okRank ops hn rj y x = true)
    (hi : regd P gl hn ops (inOrder ops is) e H (Q .normal)) (hj : regd P gl hn ops (inOrder ops js) e H (Q .normal)) :
    AW P gl n (.region id ops true) Q e H := by
  intro hd g a w hst
  have hcl : ∀ o ∈ ops.toList, (cl (hn o) o.op).isSome = true := List.all_eq_true.1 hcl
  have mi : ∀ i ∈ is, i < ops.size := fun i hi => by simpa using pi.subset hi
  have mj : ∀ i ∈ js, i < ops.size := fun i hi => by simpa using pj.subset hi
  refine wp_region_draw fun t => ?_
  have hst' : St gl n g e H a w.drew := ⟨hst.sim.drew, hst.glob.mono (Gext.drew g w), hst.env.mono (Gext.drew g w), hst.dfr⟩
  obtain ⟨hp, hr⟩ := schedule_rank (hn := hn) he (P.follows .mixedOrders) t
  by_cases hah : ahead (Region.schedule (P.follows .mixedOrders) ops t) y x
  · have hno : ¬ ahead (Region.schedule (P.follows .mixedOrders) ops t) x y := by
      rintro ⟨p, q, hpq, h1, h2⟩
      obtain ⟨p', q', hpq', h1', h2'⟩ := hah
      have nd : (Region.schedule (P.follows .mixedOrders) ops t).Nodup := hp.nodup_iff.2 List.nodup_range
      have e1 : p = q' := by
        have a1 := (List.getElem?_eq_some_iff.1 h1); have a2 := (List.getElem?_eq_some_iff.1 h2')
        exact (List.getElem_inj nd).1 (a1.2.trans a2.2.symm)
      have e2 : q = p' := by
        have a1 := (List.getElem?_eq_some_iff.1 h2); have a2 := (List.getElem?_eq_some_iff.1 h1')
        exact (List.getElem_inj nd).1 (a1.2.trans a2.2.symm)
      omega
    obtain ⟨e2, H2, hch, hq⟩ := regd_chain hcl js _ e H (inOrder_map mj) hj
    have hch' := perm_chain2 rj _ js _ _ _ _ sj (hp.trans pj.symm) (hr rj y x oj hno) hch
    refine wpOps_mono _ ?_ _ _ (chain_sound hd _ g e H a w.drew hst' hch')
    rintro ex a' w' ⟨g', rfl, k1, k2⟩
    exact ⟨.normal, g', e2, H2, trivial, k1, (Ext.drew g H w).trans k2, hq⟩
  · obtain ⟨e2, H2, hch, hq⟩ := regd_chain hcl is _ e H (inOrder_map mi) hi
    have hch' := perm_chain2 ri _ is _ _ _ _ si (hp.trans pi.symm) (hr ri x y oi hah) hch
    refine wpOps_mono _ ?_ _ _ (chain_sound hd _ g e H a w.drew hst' hch')
    rintro ex a' w' ⟨g', rfl, k1, k2⟩
    exact ⟨.normal, g', e2, H2, trivial, k1, (Ext.drew g H w).trans k2, hq⟩

#print axioms aw_region_draw2
end Go.AM

/-! AM, part 40: a drawn region's piece, reckoned in two orders. -/
namespace Go.AM
open Go

def opsOf : Code → Array Oper
  | .region _ ops _ => ops
  | _ => #[]
def isDraw : Code → Bool
  | .region _ _ d => d
  | _ => false

/-- what is asked of two orders of one's own -/
def okTwo (ops : Array Oper) (hn : Oper → Nat) (x y : Nat) (is js : List Nat) : Bool :=
  okEdges ops && (ops.toList.all fun o => (cl (hn o) o.op).isSome) && is.isPerm (List.range ops.size) && js.isPerm (List.range ops.size) &&
  decide (is.Pairwise fun a b => is.idxOf a < is.idxOf b) && decide (js.Pairwise fun a b => js.idxOf a < js.idxOf b) && okRank ops hn (fun i => is.idxOf i) x y && okRank ops hn (fun i => js.idxOf i) y x

theorem aw_orders {P : Program} {gl : Glob} {n : Nat} {T : Tab} (hT : TabOk P gl T) {hn : Oper → Nat} {c : Code} {Q : Ex → Env → Heap → Prop} {e : Env} {H X : Heap} {slots outs : List Nat} {vals : List PV} (x y : Nat) (is js : List Nat)
    (hd : isDraw c = true) (hok : okTwo (opsOf c) hn x y is js = true) (he : SlIs (slots.map e) vals) (hH : HpIs H X)
    (hi : Holds (regc br P gl T hn true (opsOf c) (inOrder (opsOf c) is) (envS slots vals) X (fun e' H' => (fun vs H' => Q .normal (envS outs vs) H') (outs.map e') H')))
    (hj : Holds (regc br P gl T hn true (opsOf c) (inOrder (opsOf c) js) (envS slots vals) X (fun e' H' => (fun vs H' => Q .normal (envS outs vs) H') (outs.map e') H'))) : AW P gl n c Q e H := by
  cases c <;> try (simp only [isDraw] at hd; cases hd; done)
  rename_i id ops d
  have hd : d = true := hd
  subst hd
  have he : slots.map e = vals := he
  have hH : H = X := hH
  subst hH
  simp only [okTwo, Bool.and_eq_true, decide_eq_true_eq, List.isPerm_iff] at hok
  obtain ⟨⟨⟨⟨⟨⟨⟨h1, h2⟩, h3⟩, h4⟩, h5⟩, h6⟩, h7⟩, h8⟩ := hok
  refine AW.of_le (e1 := envS slots vals) (by rw [← he]; exact envS_le e slots) (AW.weaken ?_)
  refine (aw_region_draw2 (Q := fun ex e' H' => match ex with | .normal => Q .normal (envS outs (outs.map e')) H' | _ => False) hn x y is js _ _ h1 h2 h3 h4 h5 h6 h7 h8 (regc_sound_draw hT _ _ _ hi.out) (regc_sound_draw hT _ _ _ hj.out)).mono fun ex e' H' k => ?_
  cases ex with
  | normal => exact ⟨envS outs (outs.map e'), envS_le e' outs, k⟩
  | exit i => exact k.elim
  | ret => exact k.elim

#print axioms aw_orders
end Go.AM

/-! AM, part 41: a call that makes a row of the caller's own, with its spare room, whatever there is besides. -/
namespace Go.AM
open Go

theorem renL_low {ρ : Nat → Nat} {n : Nat} : ∀ {xs : List PV}, (∀ x ∈ xs, Low 0 x) → RenL ρ n xs xs
  | [], _ => .nil
  | x :: xs, h => .cons (.low (h x (by simp))) (renL_low fun y hy => h y (by simp [hy]))

theorem mk_of {P : Program} {gl : Glob} (hgl : GlobLow gl) {f : FuncId} {args args' : List PV} {es : List (List PV)} (hw : WkL args args') (ha : ∀ x ∈ args', Low 0 x) (hl : ∀ x ∈ es.flatten, Low 0 x)
    (h : ACalls P gl f args' [] (fun x H' => (es = [] → x = .list [] .exact) ∧ (es ≠ [] → ∃ o, x = .list es (.tok o) ∧ H'[o]? = some .tok))) (H : Heap) :
    ACalls P gl f args H (fun x H' => (es = [] → x = .list [] .exact ∧ H' = H) ∧ (es ≠ [] → x = .list es (.tok H.length) ∧ H' = H ++ [.tok])) := by
  refine acalls_args hw (acalls_frame hgl (X := []) (ρ := fun o => o) ⟨by simp, by simp, by simp⟩ (renL_low ha) (acalls_rename hgl (h.mono ?_)))
  rintro x H' ⟨h1, h2⟩
  by_cases h0 : es = []
  · refine ⟨.list [] .exact, [], fun o => o, ⟨by simp, by simp, by simp⟩, by simp, by simp, ?_, .list [] .exact, H, ⟨by simp, by simp, by simp, fun o _ _ => rfl⟩, ?_, fun _ => ⟨rfl, rfl⟩, fun k => absurd h0 k⟩
    · rw [h1 h0]; exact .low (.list _ _ (by intro o e; cases e) (by simp))
    · exact .low (.list _ _ (by intro o e; cases e) (by simp))
  · obtain ⟨o, rfl, ho⟩ := h2 h0
    have hol : o < H'.length := (List.getElem?_eq_some_iff.1 ho).1
    refine ⟨.list es (.tok 0), [.tok], fun _ => o, ⟨fun _ _ => hol, fun a b ha hb _ => by simp at ha hb; omega, fun j a h1 => ?_⟩, by simp, by simp, .ltok _ 0 (by simp) hl, .list es (.tok H.length), H ++ [.tok], ⟨by simp, by simp, fun j a h1 => ?_, fun o h1 _ => ?_⟩, ?_, fun k => absurd k h0, fun _ => ⟨rfl, rfl⟩⟩
    · have : j = 0 := by have := (List.getElem?_eq_some_iff.1 h1).1; simpa using this
      subst this; cases h1
      exact ⟨_, ho, .tok⟩
    · have : j = 0 := by have := (List.getElem?_eq_some_iff.1 h1).1; simpa using this
      subst this; cases h1
      exact ⟨.tok, by simp [ρext], .tok, fun _ => rfl⟩
    · rw [List.getElem?_append_left h1]
    · have := Ren.ltok (ρ := ρext (fun o => o) ([] : Heap).length H.length) (n := 1) es 0 (by omega) hl
      simpa [ρext] using this

#print axioms mk_of
end Go.AM

/-! AM, part 42: behind a piece of code objects get other names, some are let go, what is known of them is weakened; a drawn region in a family of orders. -/
namespace Go.AM
open Go

inductive WkO : Ob → Ob → Prop where
  | refl (x : Ob) : WkO x x
  | cells {cs cs' : List PV} (h : WkL cs cs') : WkO (.cells cs) (.cells cs')

structure WkH (H H1 : Heap) : Prop where
  len : H1.length = H.length
  ob : ∀ (o : Nat) (b : Ob), H1[o]? = some b → ∃ a, H[o]? = some a ∧ WkO a b

theorem WkH.refl (H : Heap) : WkH H H := ⟨rfl, fun _ b h => ⟨b, h, .refl b⟩⟩

theorem WkO.alive {a b : Ob} (h : WkO a b) (hb : b.alive = true) : a.alive = true := by cases h <;> first | exact hb | rfl
theorem WkO.blk {a b : Ob} (h : WkO a b) (g : Gh) (o k : Nat) : blk g b o k ↔ blk g a o k := by cases h <;> exact Iff.rfl

theorem WkH.sim {H H1 : Heap} (h : WkH H H1) {g : Gh} {w : World} (hS : Sim g H w) : Sim g H1 w := by
  refine ⟨by rw [h.len]; exact hS.n, fun o o' a a' k h1 h2 h3 h4 h5 h6 => ?_, fun o cs h1 => ?_, fun o h1 => ?_, hS.imm, fun o r h1 => ?_⟩
  · obtain ⟨b, k1, k2⟩ := h.ob o a h1
    obtain ⟨b', k3, k4⟩ := h.ob o' a' h2
    exact hS.inj o o' b b' k k1 k3 (k2.alive h3) (k4.alive h4) ((k2.blk g o k).1 h5) ((k4.blk g o' k).1 h6)
  · obtain ⟨b, k1, k2⟩ := h.ob o _ h1
    cases k2 with
    | refl => exact hS.cells o cs k1
    | cells hw =>
      obtain ⟨⟨C, ty, e1, e2⟩, e3⟩ := hS.cells o _ k1
      exact ⟨⟨C, ty, e1, hw.rel e2⟩, e3⟩
  · obtain ⟨b, k1, k2⟩ := h.ob o _ h1
    cases k2 with
    | refl => exact hS.tok o k1
  · obtain ⟨b, k1, k2⟩ := h.ob o _ h1
    cases k2 with
    | refl => exact hS.abs o r k1

theorem WkH.own {H H1 : Heap} (h : WkH H H1) {g : Gh} {b : Nat} (hb : own g H1 b) : own g H b := by
  obtain ⟨o, a, h1, h2, h3⟩ := hb
  obtain ⟨b', k1, k2⟩ := h.ob o a h1
  exact ⟨o, b', k1, k2.alive h2, (k2.blk g o b).1 h3⟩

/-- slots and objects, and what is held on to of them -/
def Tidy (n0 : Nat) (vs' : List PV) (H' : Heap) (vs : List PV) (H : Heap) : Prop :=
  ∃ (vs1 : List PV) (H1 : Heap) (ρ : Nat → Nat), WkL vs' vs1 ∧ WkH H' H1 ∧ Sub ρ H H1 ∧ n0 ≤ H.length ∧ (∀ o, o < n0 → ρ o = o) ∧ RenL ρ H.length vs vs1

theorem envS_ren {ρ : Nat → Nat} {n : Nat} {g0 g : Gh} {w : World} (hs : Seen ρ n g0 g) : ∀ {ts : List Nat} {vs vs1 : List PV}, RenL ρ n vs vs1 → ∀ t v, Rel g w (envS ts vs1 t) v → Rel g0 w (envS ts vs t) v
  | [], _, _, _, t, v, _ => by unfold envS; exact .any v
  | k :: ts, _, _, .nil, t, v, _ => by unfold envS; exact .any v
  | k :: ts, _, _, .cons h hs', t, v, hr => by
    simp only [envS] at hr ⊢
    cases hk : t == k with
    | true => rw [hk] at hr; exact h.back hs hr
    | false => rw [hk] at hr; exact envS_ren hs hs' t v hr

theorem St.tidy {gl : Glob} (hgl : GlobLow gl) {n : Nat} {g0 g : Gh} {H0 H' H : Heap} {w0 w : World} {slots : List Nat} {vs' vs : List PV} {a : Act} (hst : St gl n g (envS slots vs') H' a w) (hx : Ext g0 H0 w0 g H' w) (hn : g0.n = H0.length)
    (hr : Tidy H0.length vs' H' vs H) : ∃ g3, St gl n g3 (envS slots vs) H a w ∧ Ext g0 H0 w0 g3 H w := by
  obtain ⟨vs1, H1, ρ, hw, hh, hsub, hlen, hid, hren⟩ := hr
  have hS1 := hh.sim hst.sim
  have hs : Seen ρ H.length (g.through ρ H.length) g := seen_through fun o ho => by rw [hS1.n]; exact hsub.lt o ho
  refine ⟨g.through ρ H.length, ⟨hsub.sim hS1, fun k cs hk => ?_, ⟨hst.env.1, fun t => envS_ren hs hren t _ (envS_wk hw t _ (hst.env.2 t))⟩, hst.dfr⟩, ?_⟩
  · refine ⟨(hst.glob k cs hk).1, fun q x hq => ?_⟩
    obtain ⟨h1, c, h2, h3⟩ := (hst.glob k cs hk).2 q x hq
    exact ⟨h1, c, h2, low_cong h3 (hgl k cs hk x (List.mem_iff_getElem?.2 ⟨q, hq⟩)) rfl⟩
  · refine ⟨⟨by rw [hn]; exact hlen, fun o ho => ?_, fun o ho => ?_, fun o ho => ?_, hx.gx.imm, hx.gx.cell⟩, hx.size, fun b hb ho => hx.ow b hb (hh.own (hsub.own ho)), hx.frame, hx.os, hx.tape, hx.output, hx.im⟩
    · show g.bk (ρ o) = _; rw [hid o (by omega)]; exact hx.gx.bk o ho
    · show g.en (ρ o) = _; rw [hid o (by omega)]; exact hx.gx.en o ho
    · show g.sz (ρ o) = _; rw [hid o (by omega)]; exact hx.gx.sz o ho

theorem AW.tidy {P : Program} {gl : Glob} (hgl : GlobLow gl) {n : Nat} {c : Code} {Q : Ex → Env → Heap → Prop} {e : Env} {H : Heap} {slots : List Nat}
    (h : AW P gl n c (fun ex e' H' => ∃ vs H2, Tidy H.length (slots.map e') H' vs H2 ∧ Q ex (envS slots vs) H2) e H) : AW P gl n c Q e H := by
  intro hd g a w hst
  refine wp_mono (h hd g a w hst) ?_
  rintro ex a' w' ⟨ex', g', e', H', k0, k1, k2, vs, H2, k3, k4⟩
  obtain ⟨g3, j1, j2⟩ := (k1.weaken (envS_le e' slots)).tidy hgl k2 hst.sim.n k3
  exact ⟨ex', g3, _, H2, k0, j1, j2, k4⟩

/-- which of the rows are drawn, where some stand ahead of others -/
def covers (anc : Nat → Nat → Bool) : Nat → List (List Nat) → List Nat → Bool
  | 0, F, M => M.isEmpty && F.contains []
  | k + 1, F, M => M.all fun m => (M.any fun b => b != m && anc m b) || covers anc k (F.filterMap fun p => match p with | x :: q => if x == m then some q else none | [] => none) (M.erase m)

theorem covers_mem {anc : Nat → Nat → Bool} : ∀ (k : Nat) (F : List (List Nat)) (M p : List Nat), M.length = k → covers anc k F M = true → p.Perm M → p.Nodup → p.Pairwise (fun a b => anc a b = false) → p ∈ F
  | 0, F, M, p, hk, h, hp, _, _ => by
    have hM : M = [] := List.eq_nil_of_length_eq_zero hk
    subst hM
    have : p = [] := List.Perm.eq_nil hp
    subst this
    simp only [covers, Bool.and_eq_true, List.contains_eq_mem, decide_eq_true_eq] at h
    exact h.2
  | k + 1, F, M, p, hk, h, hp, hnd, hpw => by
    cases p with
    | nil => have := hp.length_eq; simp at this; omega
    | cons m q =>
      have hm : m ∈ M := hp.subset (by simp)
      rw [covers, List.all_eq_true] at h
      have h1 := h m hm
      rw [Bool.or_eq_true] at h1
      have hno : ¬ (M.any fun b => b != m && anc m b) = true := by
        intro e
        obtain ⟨b, hb, hc⟩ := List.any_eq_true.1 e
        rw [Bool.and_eq_true, bne_iff_ne] at hc
        have : b ∈ m :: q := hp.symm.subset hb
        rcases List.mem_cons.1 this with e' | hb'
        · exact hc.1 e'
        · have := (List.pairwise_cons.1 hpw).1 b hb'
          rw [hc.2] at this; cases this
      have h2 := h1.resolve_left hno
      have hq := covers_mem k _ (M.erase m) q (by rw [List.length_erase_of_mem hm]; omega) h2 ((List.perm_cons m).1 (hp.trans (List.perm_cons_erase hm))) (List.nodup_cons.1 hnd).2 (List.pairwise_cons.1 hpw).2
      obtain ⟨p', hp', he⟩ := List.mem_filterMap.1 hq
      cases p' with
      | nil => cases he
      | cons x q' =>
        simp only at he
        by_cases hx : (x == m) = true
        · rw [if_pos hx] at he
          cases he
          rw [eq_of_beq hx] at hp'; exact hp'
        · rw [if_neg hx] at he; cases he

/-- what is asked of one order of a family: what it changes stands among the named ones -/
def okRankM (ops : Array Oper) (hn : Oper → Nat) (rk : Nat → Nat) (M : List Nat) : Bool :=
  let anc := ancB ops.toList
  (List.range ops.size).all fun i => (List.range ops.size).all fun j => !Nat.blt (rk j) (rk i) || (match ops[j]?, ops[i]? with
    | some oj, some oi => indep ops hn oj oi || (anc.getD i []).contains j || (M.contains i && M.contains j)
    | _, _ => true)

/-- what is asked of a family of orders -/
def okFam (ops : Array Oper) (hn : Oper → Nat) (M : List Nat) (F : List (List Nat)) : Bool :=
  let anc := ancB ops.toList
  okEdges ops && (ops.toList.all fun o => (cl (hn o) o.op).isSome) && decide M.Nodup && (M.all fun m => Nat.blt m ops.size) &&
  (F.all fun is => is.isPerm (List.range ops.size) && decide (is.Pairwise fun a b => is.idxOf a < is.idxOf b) && okRankM ops hn (fun i => is.idxOf i) M) &&
  covers (fun a b => (anc.getD a []).contains b) M.length (F.map fun is => is.filter M.contains) M

theorem schedule_anc {ops : Array Oper} (h : okEdges ops = true) (mixed : Bool) (t : Nat) :
    (Region.schedule mixed ops t).Perm (List.range ops.size) ∧ (Region.schedule mixed ops t).Pairwise (fun a b => ((ancB ops.toList).getD a []).contains b = false) := by
  simp only [okEdges, Bool.and_eq_true] at h
  obtain ⟨⟨⟨hb, hra⟩, hrt⟩, hrg⟩ := h
  have main : ∀ md t, rankB md ops (ranks md ops) = true → (Region.linearise md ops t).Perm (List.range ops.size) ∧ (Region.linearise md ops t).Pairwise (fun a b => ((ancB ops.toList).getD a []).contains b = false) := by
    intro md t hrk
    unfold Region.linearise
    obtain ⟨k1, k2, k3, k4⟩ := lin_go (md := md) hrk ops.size t (Array.replicate ops.size false) [] (by simp) (fun i hi => by simp [Array.getD, hi]) (by simp) (by simp) (fun p i o hp => by simp at hp) (by simp)
    generalize Region.linearise.go md ops ops.size t (Array.replicate ops.size false) [] = l at k1 k2 k3 k4
    refine ⟨?_, ?_⟩
    · refine (List.perm_ext_iff_of_nodup k1 List.nodup_range).2 fun a => ⟨fun ha => by simpa using k2 a ha, fun ha => ?_⟩
      rcases Classical.em (a ∈ l) with h | h
      · exact h
      · exfalso
        have h1 : (a :: l).Nodup := List.nodup_cons.2 ⟨h, k1⟩
        have h2 : (a :: l) ⊆ List.range ops.size := by
          intro x hx
          rcases List.mem_cons.1 hx with rfl | hx
          · exact ha
          · simpa using k2 x hx
        have := List.Nodup.length_le_of_subset h1 h2
        simp at this
        omega
    · rw [List.pairwise_iff_getElem]
      intro p q hp hq hpq
      cases hc : ((ancB ops.toList).getD l[p] []).contains l[q] with
      | false => rfl
      | true =>
        exfalso
        have := closed_anc hb k3 k2 p l[p] (List.getElem?_eq_getElem hp) l[q] (by simpa using hc)
        obtain ⟨r, hr⟩ := List.mem_iff_getElem?.1 this
        have hrp : r < p := by
          have := (List.getElem?_eq_some_iff.1 hr).1
          simp at this; omega
        rw [List.getElem?_take, if_pos hrp] at hr
        have hrl : r < l.length := by omega
        rw [List.getElem?_eq_getElem hrl] at hr
        have := (List.getElem_inj k1).1 (Option.some.inj hr)
        omega
  unfold Region.schedule
  split
  · exact main _ _ hra
  · rename_i hdep
    have hdp : Region.departs ops = true := by
      revert hdep
      cases mixed <;> cases Region.departs ops <;> simp
    rw [hdp] at hrt hrg
    simp only [Bool.not_true, Bool.false_or] at hrt hrg
    split
    · exact main _ _ hrt
    · exact main _ _ hrg

theorem aw_family {P : Program} {gl : Glob} {n : Nat} {T : Tab} (hT : TabOk P gl T) {hn : Oper → Nat} {c : Code} {Q : Ex → Env → Heap → Prop} {e : Env} {H X : Heap} {slots outs : List Nat} {vals : List PV} (M : List Nat) (F : List (List Nat))
    (hd : isDraw c = true) (hok : okFam (opsOf c) hn M F = true) (he : SlIs (slots.map e) vals) (hH : HpIs H X)
    (hF : ∀ is ∈ F, Holds (regc br P gl T hn true (opsOf c) (inOrder (opsOf c) is) (envS slots vals) X (fun e' H' => (fun vs H' => Q .normal (envS outs vs) H') (outs.map e') H'))) : AW P gl n c Q e H := by
  cases c <;> try (simp only [isDraw] at hd; cases hd; done)
  rename_i id ops d
  have hd : d = true := hd
  subst hd
  have he : slots.map e = vals := he
  have hH : H = X := hH
  subst hH
  have hok : okFam ops hn M F = true := hok
  have hF : ∀ is ∈ F, Holds (regc br P gl T hn true ops (inOrder ops is) (envS slots vals) H (fun e' H' => (fun vs H' => Q .normal (envS outs vs) H') (outs.map e') H')) := hF
  simp only [okFam, Bool.and_eq_true, decide_eq_true_eq] at hok
  obtain ⟨⟨⟨⟨⟨h1, h2⟩, h3⟩, h4⟩, h5⟩, h6⟩ := hok
  have hcl : ∀ o ∈ ops.toList, (cl (hn o) o.op).isSome = true := List.all_eq_true.1 h2
  refine AW.of_le (e1 := envS slots vals) (by rw [← he]; exact envS_le e slots) (AW.weaken ?_)
  suffices hs : AW P gl n (.region id ops true) (fun ex e' H' => match ex with | .normal => Q .normal (envS outs (outs.map e')) H' | _ => False) (envS slots vals) H from
    hs.mono fun ex e' H' k => by
      cases ex with
      | normal => exact ⟨envS outs (outs.map e'), envS_le e' outs, k⟩
      | exit i => exact k.elim
      | ret => exact k.elim
  intro hd g a w hst
  refine wp_region_draw fun t => ?_
  have hst' : St gl n g (envS slots vals) H a w.drew := ⟨hst.sim.drew, hst.glob.mono (Gext.drew g w), hst.env.mono (Gext.drew g w), hst.dfr⟩
  obtain ⟨hp, hr⟩ := schedule_anc h1 (P.follows .mixedOrders) t
  generalize Region.schedule (P.follows .mixedOrders) ops t = σ at hp hr
  have nd : σ.Nodup := hp.nodup_iff.2 List.nodup_range
  have hM : ∀ m ∈ M, m < ops.size := fun m hm => by have := List.all_eq_true.1 h4 m hm; rwa [Nat.blt_eq] at this
  have hperm : (σ.filter M.contains).Perm M := by
    refine (List.perm_ext_iff_of_nodup (nd.filter _) h3).2 fun a => ⟨fun ha => ?_, fun ha => ?_⟩
    · have := (List.mem_filter.1 ha).2; simpa using this
    · exact List.mem_filter.2 ⟨hp.symm.subset (by simpa using hM a ha), by simpa using ha⟩
  have hmem := covers_mem M.length _ M (σ.filter M.contains) rfl h6 hperm (nd.filter _) (hr.sublist List.filter_sublist)
  obtain ⟨is, his, hisp⟩ := List.mem_map.1 hmem
  have h5' := List.all_eq_true.1 h5 is his
  simp only [Bool.and_eq_true, decide_eq_true_eq, List.isPerm_iff] at h5'
  obtain ⟨⟨pi, si⟩, oi⟩ := h5'
  have mi : ∀ i ∈ is, i < ops.size := fun i hi => by simpa using pi.subset hi
  obtain ⟨e2, H2, hch, hq⟩ := regd_chain hcl is _ _ H (inOrder_map mi) (regc_sound_draw hT _ _ _ (hF is his).out)
  have hresp : σ.Pairwise (RespK (fun i => is.idxOf i) ops hn) := by
    rw [List.pairwise_iff_forall_sublist]
    intro i j hij hlt oj oi' hoj hoi
    have hi : i < ops.size := by
      have : i ∈ σ := hij.subset (by simp)
      simpa using hp.subset this
    have hj : j < ops.size := by
      have : j ∈ σ := hij.subset (by simp)
      simpa using hp.subset this
    have hc := List.all_eq_true.1 oi i (by simpa using hi)
    have hc := List.all_eq_true.1 hc j (by simpa using hj)
    rw [hoj, hoi] at hc
    have hbl : Nat.blt (is.idxOf j) (is.idxOf i) = true := by rw [Nat.blt_eq]; exact hlt
    rw [hbl] at hc
    simp only [Bool.not_true, Bool.false_or, Bool.or_eq_true, Bool.and_eq_true] at hc
    rcases hc with (hc | hc) | ⟨e1, e2⟩
    · exact hc
    · have := (List.pairwise_iff_forall_sublist.1 hr) hij
      rw [hc] at this; cases this
    · exfalso
      have hf := hij.filter M.contains
      rw [List.filter_cons_of_pos e1, List.filter_cons_of_pos e2, List.filter_nil, ← hisp] at hf
      have := (List.pairwise_iff_forall_sublist.1 si) (hf.trans List.filter_sublist)
      simp only at hlt
      omega
  have hch' := perm_chain2 (fun i => is.idxOf i) _ is _ _ _ _ si (hp.trans pi.symm) hresp hch
  refine wpOps_mono _ ?_ _ _ (chain_sound hd _ g _ H a w.drew hst' hch')
  rintro ex a' w' ⟨g', rfl, k1, k2⟩
  exact ⟨.normal, g', e2, H2, trivial, k1, (Ext.drew g H w).trans k2, hq⟩

#print axioms AW.tidy
#print axioms aw_family
end Go.AM

/-! AM, part 43: a loop that lays an element behind a row in some of its rounds. -/
namespace Go.AM
open Go

theorem relab_base {n0 : Nat} {B X : Heap} {vs : List PV} (hB : B.length = n0) (hlow : ∀ (o : Nat) cs, B[o]? = some (.cells cs) → ∀ x ∈ cs, Low n0 x) (hv : ∀ v ∈ vs, Low n0 v) : Relab n0 vs (B ++ X) vs B := by
  refine ⟨by omega, fun o ho => ?_, fun _ => 0, fun o h1 h2 => by omega, fun o o' h1 h2 _ _ _ => by omega, rfl, fun q x' x h1 h2 => ?_, fun q es o h => ?_⟩
  · exact ⟨(List.getElem?_append_left (by omega)).symm, fun cs hc => hlow o cs hc⟩
  · rw [h1] at h2; cases h2
    exact .inl ⟨rfl, hv _ (List.mem_iff_getElem?.2 ⟨q, h1⟩)⟩
  · have := hv _ (List.mem_iff_getElem?.2 ⟨q, h⟩)
    cases this with
    | list _ _ ht _ => rw [hB]; exact ht o rfl

/-- the row's tail and the objects, by what the row holds -/
def tlL {α : Type} (n0 : Nat) : List α → Tail
  | [] => .exact
  | _ :: _ => .tok n0
def hpL {α : Type} (B : Heap) : List α → Heap
  | [] => B
  | _ :: _ => B ++ [.tok]
theorem hpL_len {α : Type} (B : Heap) (l : List α) : B.length ≤ (hpL B l).length := by cases l <;> simp [hpL]
theorem tlL_ne {α : Type} {n0 : Nat} {l : List α} (h : l ≠ []) : tlL n0 l = .tok n0 := by cases l <;> first | exact absurd rfl h | rfl
theorem hpL_ne {α : Type} {B : Heap} {l : List α} (h : l ≠ []) : hpL B l = B ++ [.tok] := by cases l <;> first | exact absurd rfl h | rfl
theorem pad_L {α : Type} (B : Heap) (l : List α) : Pad (hpL B l) (B ++ [.dead]) := by
  cases l with
  | nil => exact pad_dead B
  | cons a l => exact pad_kill B .tok

/-- what a round must bring -/
def growQ {α σ : Type} (f : α → List PV) (acc : σ → List α) (I : σ → Prop) (m : σ → Nat) (Q : Ex → Env → Heap → Prop) (B : Heap) (slots : List Nat) (V : PV → σ → List PV) (s : σ) : Ex → List PV → Heap → Prop := fun ex vs H' => match ex with
  | .normal => ∃ s', m s' < m s ∧ I s' ∧ ((acc s' = [] ∧ ∃ X, H' = B ++ X ∧ vs = V (.list [] .exact) s') ∨ (acc s' ≠ [] ∧ ∃ X k, H' = B ++ X ∧ (B ++ X)[k]? = some .tok ∧ B.length ≤ k ∧ vs = V (.list ((acc s').map f) (.tok k)) s'))
  | .exit j => ∃ vs2 H2, WkL vs vs2 ∧ Pad H' H2 ∧ Q (.exit j) (envS slots vs2) H2
  | .ret => ∃ vs2 H2, WkL vs vs2 ∧ Pad H' H2 ∧ Q .ret (envS slots vs2) H2

theorem aw_growif {α σ : Type} {f : α → List PV} {acc : σ → List α} {I : σ → Prop} {m : σ → Nat} {P : Program} {gl : Glob} (hgl : GlobLow gl) {n : Nat} {Tb : Tab} (hT : TabOk P gl Tb) {L : LTab} {hn : Oper → Nat} {x : Code} (hL : LOk P gl n x [] L) {Q : Ex → Env → Heap → Prop} {e : Env} {H : Heap} (slots : List Nat) (V : PV → σ → List PV) (B : Heap) (s0 : σ)
    (hlow : ∀ (o : Nat) cs, B[o]? = some (.cells cs) → ∀ x ∈ cs, Low B.length x) (hf : ∀ s, I s → ∀ a ∈ acc s, ∀ x ∈ f a, Low B.length x)
    (hrv : ∀ (es : List (List PV)) (s : σ) (k : Nat), I s → (∀ y ∈ es.flatten, Low B.length y) → RVs B.length k (V (.list es (.tok k)) s) (V (.list es (.tok B.length)) s))
    (hv : ∀ s, I s → ∀ v ∈ V (.list [] .exact) s, Low B.length v)
    (h0 : I s0) (ha : acc s0 = []) (he : slots.map e = V (.list [] .exact) s0) (hH : H = B)
    (none : ∀ s, I s → acc s = [] → Holds (wpc br P gl Tb L hn x [] (envS slots (V (.list [] .exact) s)) B (fun ex e' H' => growQ f acc I m Q B slots V s ex (slots.map e') H')))
    (some : ∀ s, I s → acc s ≠ [] → Holds (wpc br P gl Tb L hn x [] (envS slots (V (.list ((acc s).map f) (.tok B.length)) s)) (B ++ [.tok]) (fun ex e' H' => growQ f acc I m Q B slots V s ex (slots.map e') H'))) : AW P gl n (.loop x) Q e H := by
  subst hH
  have key : ∀ s, I s → ∀ ex vs H', growQ f acc I m Q H slots V s ex vs H' → loopP Q H.length slots I (fun s => V (.list ((acc s).map f) (tlL H.length (acc s))) s) (fun s => hpL H (acc s)) m s ex vs H' := by
    intro s hs ex vs H' h
    cases ex with
    | exit j => exact h
    | ret => exact h
    | normal =>
      obtain ⟨s', h1, h2, h3⟩ := h
      refine ⟨s', h1, h2, ?_⟩
      rcases h3 with ⟨h3, X, rfl, rfl⟩ | ⟨h3, X, k, rfl, h5, h6, rfl⟩
      · simp only [h3, List.map_nil, tlL, hpL]
        exact relab_base rfl hlow (hv s' h2)
      · have r := relab_row (X := X) rfl hlow h6 h5 (hrv _ _ _ h2 (low_map fun a ha => hf s' h2 a ha))
        have e1 := tlL_ne (n0 := H.length) h3
        have e2 := hpL_ne (B := H) h3
        rw [← e1, ← e2] at r
        exact r
  refine aw_loop6a hgl (σ := σ) slots I (fun s => V (.list ((acc s).map f) (tlL H.length (acc s))) s) (fun s => hpL H (acc s)) m s0 h0 (by rw [ha]; exact he) (by rw [ha]; rfl) ?_
  intro s hs
  cases hq : acc s with
  | nil => exact (wpc_sound hT x [] hL _ _ _ (none s hs hq).out).mono fun ex e' H' k => key s hs ex _ H' k
  | cons a l =>
    have hne : acc s ≠ [] := by rw [hq]; simp
    have := (wpc_sound hT x [] hL _ _ _ (some s hs hne).out).mono fun ex e' H' k => key s hs ex _ H' k
    rw [hq] at this
    exact this

#print axioms aw_growif
end Go.AM

/-! AM, part 44: what is known of slots and objects is weakened ahead of a piece and behind a call; one box of many new objects is held on to. -/
namespace Go.AM
open Go

theorem AW.wkin {P : Program} {gl : Glob} {n : Nat} {c : Code} {Q : Ex → Env → Heap → Prop} {e : Env} {H : Heap} {slots : List Nat} {vs : List PV} (hw : WkL (slots.map e) vs) (h : AW P gl n c Q (envS slots vs) H) : AW P gl n c Q e H := by
  intro hd g a w hst
  have h1 := hst.weaken (envS_le e slots)
  exact h hd g a w ⟨h1.sim, h1.glob, ⟨h1.env.1, fun t => envS_wk hw t _ (h1.env.2 t)⟩, h1.dfr⟩

theorem acalls_heapwk {P : Program} {gl : Glob} {f : FuncId} {args : List PV} {H H1 : Heap} {K : PV → Heap → Prop} (hw : WkH H H1) (h : ACalls P gl f args H1 K) : ACalls P gl f args H K := by
  intro g w vs hS hG hR
  refine (h g w vs (hw.sim hS) hG hR).mono ?_
  rintro e w' ⟨v, g', H', x, rfl, hS', hX, hr, hk⟩
  exact ⟨v, g', H', x, rfl, hS', ⟨hX.gx, hX.size, fun b hb ho => hw.own (hX.ow b hb ho), fun b hb ho => hX.frame b hb fun k => ho (hw.own k), hX.os, hX.tape, hX.output, fun b q hb hi => (hX.im b q hb hi).imp id hw.own⟩, hr, hk⟩

theorem acalls_wkout {P : Program} {gl : Glob} {f : FuncId} {args : List PV} {H : Heap} {K : PV → Heap → Prop} (h : ACalls P gl f args H (fun x H' => ∃ x1 H1, Wk x x1 ∧ WkH H' H1 ∧ K x1 H1)) : ACalls P gl f args H K := by
  intro g w vs hS hG hR
  refine (h g w vs hS hG hR).mono ?_
  rintro e w' ⟨v, g', H', x, rfl, hS', hX, hr, x1, H1, hw, hh, hk⟩
  exact ⟨v, g', H1, x1, rfl, hh.sim hS', ⟨hX.gx, hX.size, fun b hb ho => hX.ow b hb (hh.own ho), hX.frame, hX.os, hX.tape, hX.output, hX.im⟩, hw _ _ _ hr, hk⟩

theorem wkH_set {H : Heap} {q : Nat} {cs cs1 : List PV} (h : H[q]? = some (.cells cs)) (hw : WkL cs cs1) : WkH H (H.set q (.cells cs1)) := by
  refine ⟨by simp, fun o b hb => ?_⟩
  rw [List.getElem?_set] at hb
  by_cases e : q = o
  · subst e
    rw [if_pos rfl] at hb
    split at hb
    · cases hb; exact ⟨_, h, .cells hw⟩
    · cases hb
  · rw [if_neg e] at hb
    exact ⟨b, hb, .refl b⟩

/-- slots, where one name is changed -/
inductive RVb (n0 k : Nat) : List PV → List PV → Prop where
  | nil : RVb n0 k [] []
  | same {x : PV} {xs xs' : List PV} (h : Low 0 x) (hs : RVb n0 k xs' xs) : RVb n0 k (x :: xs') (x :: xs)
  | keep {o off : Nat} {xs xs' : List PV} (h : o < n0) (hs : RVb n0 k xs' xs) : RVb n0 k (.ptr o off :: xs') (.ptr o off :: xs)
  | box {off : Nat} {xs xs' : List PV} (hs : RVb n0 k xs' xs) : RVb n0 k (.ptr k off :: xs') (.ptr n0 off :: xs)

theorem tidy_box {B X : Heap} {k : Nat} {cs cs1 vs' vs : List PV} (hB : ∀ (o : Nat) cs, B[o]? = some (.cells cs) → ∀ x ∈ cs, Low 0 x) (hk : B.length ≤ k) (hX : (B ++ X)[k]? = some (.cells cs)) (hw : WkL cs cs1) (hl : ∀ x ∈ cs1, Low 0 x) (hv : RVb B.length k vs' vs) :
    Tidy B.length vs' (B ++ X) vs (B ++ [.cells cs1]) := by
  have hkl : k < (B ++ X).length := (List.getElem?_eq_some_iff.1 hX).1
  let ρ : Nat → Nat := fun o => if o < B.length then o else k
  have lo : ∀ o, o < B.length → ρ o = o := fun o h => by simp only [ρ, if_pos h]
  have hi : ∀ o, ¬ o < B.length → ρ o = k := fun o h => by simp only [ρ, if_neg h]
  refine ⟨vs', (B ++ X).set k (.cells cs1), ρ, ?_, wkH_set hX hw, ⟨fun o ho => ?_, fun o o' h1 h2 h3 => ?_, fun o a h1 => ?_⟩, by simp, lo, ?_⟩
  · clear hv hX
    induction vs' with
    | nil => exact .nil
    | cons x xs ih => exact .cons (.refl _) ih
  · rw [List.length_set]
    by_cases c : o < B.length
    · rw [lo o c]; rw [List.length_append]; omega
    · rw [hi o c]; exact hkl
  · simp at h1 h2
    by_cases c1 : o < B.length <;> by_cases c2 : o' < B.length
    · rw [lo o c1, lo o' c2] at h3; exact h3
    · rw [lo o c1, hi o' c2] at h3; omega
    · rw [hi o c1, lo o' c2] at h3; omega
    · omega
  · by_cases c : o < B.length
    · rw [List.getElem?_append_left c] at h1
      refine ⟨a, by rw [lo o c, List.getElem?_set_ne (by omega), List.getElem?_append_left c, h1], ?_⟩
      cases a with
      | cells cs' => exact .cells (renL_low (hB o cs' h1))
      | tok => exact .tok
      | dead => exact .dead _
      | abs r => exact .abs r
    · rw [List.getElem?_append_right (by omega)] at h1
      have : o = B.length := by have := (List.getElem?_eq_some_iff.1 h1).1; simp at this; omega
      subst this
      simp at h1
      subst h1
      exact ⟨.cells cs1, by rw [hi _ c, List.getElem?_set_self hkl], .cells (renL_low hl)⟩
  · clear hX
    have hlen : (B ++ [Ob.cells cs1]).length = B.length + 1 := by simp
    rw [hlen]
    generalize hn : B.length = n0 at hv lo hi
    induction hv with
    | nil => exact .nil
    | same h _ ih => exact .cons (.low h) ih
    | @keep o off _ _ h _ ih =>
      refine .cons ?_ ih
      have := Ren.ptr (ρ := ρ) (n := n0 + 1) o off (by omega)
      rwa [lo o h] at this
    | @box off _ _ _ ih =>
      refine .cons ?_ ih
      have := Ren.ptr (ρ := ρ) (n := n0 + 1) n0 off (by omega)
      rwa [hi n0 (by omega)] at this

#print axioms tidy_box
#print axioms acalls_wkout
end Go.AM

/-! AM, part 45: rows of cells in an object of the call's own. -/
namespace Go.AM
open Go

section
variable {α : Type} {f : α → List PV} {sz : Nat}
theorem rows_len (h : ∀ a, (f a).length = sz) : ∀ l : List α, (l.map f).flatten.length = l.length * sz
  | [] => by simp
  | a :: l => by rw [List.map_cons, List.flatten_cons, List.length_append, h, rows_len h l, List.length_cons, Nat.succ_mul]; omega
theorem rows_drop (h : ∀ a, (f a).length = sz) (J : List PV) : ∀ (l : List α) (k : Nat), k ≤ l.length → ((l.map f).flatten ++ J).drop (k * sz) = ((l.drop k).map f).flatten ++ J
  | l, 0, _ => by simp
  | [], k + 1, hk => by simp at hk
  | a :: l, k + 1, hk => by
    have e : (k + 1) * sz = (f a).length + k * sz := by rw [h, Nat.succ_mul]; omega
    rw [List.map_cons, List.flatten_cons, List.append_assoc, e, ← List.drop_drop, List.drop_left' rfl, rows_drop h J l k (by simpa using hk)]
    rfl
theorem rows_take (h : ∀ a, (f a).length = sz) (J : List PV) : ∀ (l : List α) (k : Nat), k ≤ l.length → ((l.map f).flatten ++ J).take (k * sz) = ((l.take k).map f).flatten
  | l, 0, _ => by simp
  | [], k + 1, hk => by simp at hk
  | a :: l, k + 1, hk => by
    have e : (k + 1) * sz = (f a).length + k * sz := by rw [h, Nat.succ_mul]; omega
    rw [List.map_cons, List.flatten_cons, List.append_assoc, e, List.take_length_add_append, rows_take h J l k (by simpa using hk)]
    rfl
theorem cells_at (h : ∀ a, (f a).length = sz) (J : List PV) {l : List α} {k : Nat} (d : α) (hk : k < l.length) : ((l.map f).flatten ++ J).drop (k * sz) = f (l.getD k d) ++ (((l.drop (k + 1)).map f).flatten ++ J) := by
  rw [rows_drop h J l k (by omega), List.drop_eq_getElem_cons hk, List.map_cons, List.flatten_cons, List.append_assoc]
  congr 2
  rw [List.getD_eq_getElem?_getD, List.getElem?_eq_getElem hk]; rfl
/-- cells laid over a part of a row -/
theorem over_mid {C A B X Y : List PV} {n : Nat} (hC : C = A ++ X ++ B) (hA : A.length = n) (hX : X.length = Y.length) : over C n Y = A ++ Y ++ B := by
  subst hC hA
  unfold over
  rw [show A ++ X ++ B = A ++ (X ++ B) by rw [List.append_assoc], List.take_left' rfl, show A ++ (X ++ B) = (A ++ X) ++ B by rw [List.append_assoc], List.drop_left' (by simp [hX])]
end
theorem low_flat {α : Type} {f : α → List PV} {n : Nat} {l : List α} {J : List PV} (h1 : ∀ a ∈ l, ∀ x ∈ f a, Low n x) (h2 : ∀ x ∈ J, Low n x) : ∀ x ∈ (l.map f).flatten ++ J, Low n x := by
  intro x hx
  rcases List.mem_append.1 hx with h | h
  · exact low_map h1 x h
  · exact h2 x h
end Go.AM

/-! AM, part 46: wholes of blocks; what is left of them may stand under other names. -/
namespace Go.AM
open Go

/-- A WHOLE IS OPENED for a call, and shut behind it -/
theorem acalls_open2 {P : Program} {gl : Glob} (hgl : GlobLow gl) {f : FuncId} {args : List PV} {I : Heap → Prop} {K : PV → Heap → Prop} (hargs : ∀ x ∈ args, Low 0 x ∨ ∃ off, x = .ptr 0 off)
    (h : ∀ hh, I hh → Root hh → ACalls P gl f args hh (fun x H' => ∃ (I' : Heap → Prop) (X : Heap) (ρ : Nat → Nat), Sub ρ X H' ∧ ρ 0 = 0 ∧ I' (noTok X) ∧ Root X ∧ (Low 0 x ∨ ∃ off, x = .ptr 0 off) ∧ K x [.abs (whole I')])) : ACalls P gl f args [.abs (whole I)] K := by
  intro g w vs hS hG hR
  obtain ⟨⟨g0, hh, h1, h2, h3, h4, h5, h6, h7⟩, h8, h9⟩ := hS.abs 0 _ rfl
  have hn0 : 0 < hh.length := by obtain ⟨cs, e⟩ := h5; exact (List.getElem?_eq_some_iff.1 e).1
  have hgn : g.n = 1 := hS.n
  have toR : ∀ {x : PV} {v : Value}, (Low 0 x ∨ ∃ off, x = .ptr 0 off) → Rel g w x v → Rel g0 w x v := by
    rintro x v (hl | ⟨off, rfl⟩) hr
    · exact low_cong hr hl h4
    · cases hr
      rw [← h6]; exact .ptr 0 off (by rw [h2.n]; exact hn0)
  have hG0 : GlobOk g0 w gl := fun k cs hk => by
    refine ⟨(hG k cs hk).1, fun q x hx => ?_⟩
    obtain ⟨k1, c, k2, k3⟩ := (hG k cs hk).2 q x hx
    exact ⟨by rw [h4]; exact k1, c, k2, low_cong k3 (hgl k cs hk x (List.mem_iff_getElem?.2 ⟨q, hx⟩)) h4⟩
  refine (h hh h1 h5 g0 w vs h2 hG0 ⟨hR.1, fun q x v hx hv => toR (hargs x (List.mem_iff_getElem?.2 ⟨q, hx⟩)) (hR.2 q x v hx hv)⟩).mono ?_
  rintro e w' ⟨v, g1, H', x, rfl, hS1, hX, hv, I', X, ρ, hsub, hρ, hI, hroot, hlow, hk⟩
  have hn1 : 0 < X.length := by obtain ⟨cs, e⟩ := hroot; exact (List.getElem?_eq_some_iff.1 e).1
  have hS3 := hsub.sim hS1
  have hbk0 : (g1.through ρ X.length).bk 0 = g1.bk 0 := by show g1.bk (ρ 0) = _; rw [hρ]
  have hbk1 : g1.bk 0 = g.bk 0 := (hX.gx.bk 0 (by rw [h2.n]; exact hn0)).trans h6
  let g2 : Gh := ⟨1, fun _ => g1.bk 0, g.en, g.sz, g1.imm, fun _ => own (g1.through ρ X.length) (noTok X)⟩
  have hSn := hS3.noTok
  obtain ⟨cs0, hcs0⟩ := hroot.noTok
  have own2 : ∀ b, own g2 [.abs (whole I')] b ↔ own (g1.through ρ X.length) (noTok X) b := fun b => by
    constructor
    · rintro ⟨o, ob, k1, k2, k3⟩
      have : o = 0 := by have := (List.getElem?_eq_some_iff.1 k1).1; simpa using this
      subst this
      cases k1
      exact k3
    · intro k; exact ⟨0, _, rfl, rfl, k⟩
  have own0 : ∀ b, own g0 hh b → own g [.abs (whole I)] b := fun b k => ⟨0, _, rfl, rfl, (h7 b).2 k⟩
  have hgx : Gext g w g2 w' := by
    refine ⟨by rw [hgn]; exact Nat.le_refl _, fun o ho => ?_, fun _ _ => rfl, fun _ _ => rfl, fun b q k => ?_, fun b q k => ?_⟩
    · have : o = 0 := by omega
      subst this; exact hbk1
    · exact hX.gx.imm b q (by rw [h4]; exact k)
    · exact hX.gx.cell b q (by rw [h4]; exact k)
  refine ⟨v, g2, [.abs (whole I')], x, rfl, ?_, ?_, ?_, hk⟩
  · refine ⟨rfl, fun o o' ob ob' b k1 k2 _ _ _ _ => ?_, fun o cs k1 => ?_, fun o k1 => ?_, hS1.imm, fun o r k1 => ?_⟩
    · have e1 := (List.getElem?_eq_some_iff.1 k1).1
      have e2 := (List.getElem?_eq_some_iff.1 k2).1
      simp at e1 e2; omega
    · have e1 := (List.getElem?_eq_some_iff.1 k1).1
      have : o = 0 := by simpa using e1
      subst this; cases k1
    · have e1 := (List.getElem?_eq_some_iff.1 k1).1
      have : o = 0 := by simpa using e1
      subst this; cases k1
    · have e1 := (List.getElem?_eq_some_iff.1 k1).1
      have : o = 0 := by simpa using e1
      subst this
      cases k1
      exact ⟨⟨g1.through ρ X.length, noTok X, hI, hSn, noTok_no _, rfl, ⟨cs0, hcs0⟩, hbk0, fun _ => Iff.rfl⟩, ⟨0, _, hcs0, rfl, hbk0⟩, fun b hb => ⟨own_lt hSn hb, fun q => own_fresh hSn (noTok_no _) hb q⟩⟩
  · exact ⟨hgx, hX.size, fun b hb ho => own0 b (hX.ow b hb (hsub.own (own_noTok ((own2 b).1 ho)))), fun b hb ho => hX.frame b hb (fun k => ho (own0 b k)), hX.os, hX.tape, hX.output,
      fun b q hb hi => (hX.im b q hb hi).elim (fun k => .inl (by rw [← h4]; exact k)) (fun k => .inr (own0 b k))⟩
  · rcases hlow with hl | ⟨off, rfl⟩
    · exact low_cong hv hl rfl
    · cases hv
      exact .ptr (g := g2) 0 off Nat.zero_lt_one

/-- A CALL MAKES A WHOLE -/
theorem acalls_shut2 {P : Program} {gl : Glob} {f : FuncId} {args : List PV} {K : PV → Heap → Prop}
    (h : ACalls P gl f args [] (fun x H' => ∃ (I' : Heap → Prop) (X : Heap) (ρ : Nat → Nat), Sub ρ X H' ∧ ρ 0 = 0 ∧ I' (noTok X) ∧ Root X ∧ (∃ off, x = .ptr 0 off) ∧ K x [.abs (whole I')])) : ACalls P gl f args [] K := by
  intro g w vs hS hG hR
  refine (h g w vs hS hG hR).mono ?_
  rintro e w' ⟨v, g1, H', x, rfl, hS1, hX, hv, I', X, ρ, hsub, hρ, hI, hroot, ⟨off, rfl⟩, hk⟩
  have hn1 : 0 < X.length := by obtain ⟨cs, e⟩ := hroot; exact (List.getElem?_eq_some_iff.1 e).1
  have hS3 := hsub.sim hS1
  have hbk0 : (g1.through ρ X.length).bk 0 = g1.bk 0 := by show g1.bk (ρ 0) = _; rw [hρ]
  have hgn : g.n = 0 := hS.n
  let g2 : Gh := ⟨1, fun _ => g1.bk 0, g.en, g.sz, g1.imm, fun _ => own (g1.through ρ X.length) (noTok X)⟩
  have hSn := hS3.noTok
  obtain ⟨cs0, hcs0⟩ := hroot.noTok
  have own2 : ∀ b, own g2 [.abs (whole I')] b ↔ own (g1.through ρ X.length) (noTok X) b := fun b => by
    constructor
    · rintro ⟨o, ob, k1, k2, k3⟩
      have : o = 0 := by have := (List.getElem?_eq_some_iff.1 k1).1; simpa using this
      subst this
      cases k1
      exact k3
    · intro k; exact ⟨0, _, rfl, rfl, k⟩
  have hgx : Gext g w g2 w' := ⟨by rw [hgn]; exact Nat.zero_le _, fun o ho => absurd ho (by rw [hgn]; exact Nat.not_lt_zero _), fun _ _ => rfl, fun _ _ => rfl, hX.gx.imm, hX.gx.cell⟩
  refine ⟨v, g2, [.abs (whole I')], _, rfl, ?_, ?_, ?_, hk⟩
  · refine ⟨rfl, fun o o' ob ob' b k1 k2 _ _ _ _ => ?_, fun o cs k1 => ?_, fun o k1 => ?_, hS1.imm, fun o r k1 => ?_⟩
    · have e1 := (List.getElem?_eq_some_iff.1 k1).1
      have e2 := (List.getElem?_eq_some_iff.1 k2).1
      simp at e1 e2; omega
    · have e1 := (List.getElem?_eq_some_iff.1 k1).1
      have : o = 0 := by simpa using e1
      subst this; cases k1
    · have e1 := (List.getElem?_eq_some_iff.1 k1).1
      have : o = 0 := by simpa using e1
      subst this; cases k1
    · have e1 := (List.getElem?_eq_some_iff.1 k1).1
      have : o = 0 := by simpa using e1
      subst this
      cases k1
      exact ⟨⟨g1.through ρ X.length, noTok X, hI, hSn, noTok_no _, rfl, ⟨cs0, hcs0⟩, hbk0, fun _ => Iff.rfl⟩, ⟨0, _, hcs0, rfl, hbk0⟩, fun b hb => ⟨own_lt hSn hb, fun q => own_fresh hSn (noTok_no _) hb q⟩⟩
  · exact ⟨hgx, hX.size, fun b hb ho => hX.ow b hb (hsub.own (own_noTok ((own2 b).1 ho))), fun b hb ho => hX.frame b hb ho, hX.os, hX.tape, hX.output, hX.im⟩
  · cases hv
    exact .ptr (g := g2) 0 off Nat.zero_lt_one

/-- A METHOD OF A WHOLE, amid other objects -/
theorem acalls_method2 {P : Program} {gl : Glob} (hgl : GlobLow gl) {f : FuncId} {args0 args : List PV} {H : Heap} {o : Nat} {I : Heap → Prop} {K : PV → Heap → Prop} (ho : H[o]? = some (.abs (whole I)))
    (hargs0 : ∀ x ∈ args0, Low 0 x ∨ ∃ off, x = .ptr 0 off) (hargs : RenL (fun _ => o) 1 args0 args)
    (h : ∀ hh, I hh → Root hh → ACalls P gl f args0 hh (fun x H' => ∃ (I' : Heap → Prop) (X : Heap) (ρ : Nat → Nat), Sub ρ X H' ∧ ρ 0 = 0 ∧ I' (noTok X) ∧ Root X ∧ Low 0 x ∧ K x (H.set o (.abs (whole I'))))) : ACalls P gl f args H K := by
  have hol : o < H.length := (List.getElem?_eq_some_iff.1 ho).1
  have hsub : Sub (fun _ => o) [.abs (whole I)] H := by
    refine ⟨fun _ _ => hol, fun a b h1 h2 _ => ?_, fun j a h1 => ?_⟩
    · simp at h1 h2; omega
    · have e1 := (List.getElem?_eq_some_iff.1 h1).1
      have : j = 0 := by simpa using e1
      subst this; cases h1
      exact ⟨_, ho, .abs _⟩
  refine acalls_frame hgl hsub hargs (acalls_open2 hgl hargs0 fun hh h1 h2 => ?_)
  intro g w vs hS hG hR
  refine (h hh h1 h2 g w vs hS hG hR).mono ?_
  rintro e w' ⟨v, g', H', x, rfl, hS', hX, hv, I', X, ρ, j1, j2, k1, k2, k3, k4⟩
  refine ⟨v, g', H', x, rfl, hS', hX, hv, I', X, ρ, j1, j2, k1, k2, .inl k3, x, H.set o (.abs (whole I')), ⟨Nat.le_refl _, by simp, fun j a h1 => ?_, fun o' h1 h2 => ?_⟩, .low k3, k4⟩
  · have e1 := (List.getElem?_eq_some_iff.1 h1).1
    have : j = 0 := by simpa using e1
    subst this; cases h1
    exact ⟨_, by simp [ρext, hol], .abs _, fun _ => rfl⟩
  · rw [List.getElem?_set_ne]
    exact h2 0 (by simp)

/-- A CALL MAKES A WHOLE, amid other objects -/
theorem acalls_make2 {P : Program} {gl : Glob} (hgl : GlobLow gl) {f : FuncId} {args : List PV} {H : Heap} {K : PV → Heap → Prop} (hargs : ∀ x ∈ args, Low 0 x)
    (h : ACalls P gl f args [] (fun x H' => ∃ (I' : Heap → Prop) (X : Heap) (ρ : Nat → Nat), Sub ρ X H' ∧ ρ 0 = 0 ∧ I' (noTok X) ∧ Root X ∧ x = .ptr 0 0 ∧ K (.ptr H.length 0) (H ++ [.abs (whole I')]))) : ACalls P gl f args H K := by
  have hsub : Sub (fun _ => 0) [] H := ⟨fun o h => absurd h (Nat.not_lt_zero _), fun o _ h => absurd h (Nat.not_lt_zero _), fun o a h => by simp at h⟩
  refine acalls_frame hgl hsub (RenL.low hargs) (acalls_shut2 ?_)
  intro g w vs hS hG hR
  refine (h g w vs hS hG hR).mono ?_
  rintro e w' ⟨v, g', H', x, rfl, hS', hX, hv, I', X, ρ, j1, j2, k1, k2, rfl, k4⟩
  refine ⟨v, g', H', _, rfl, hS', hX, hv, I', X, ρ, j1, j2, k1, k2, ⟨0, rfl⟩, .ptr H.length 0, H ++ [.abs (whole I')], ⟨Nat.zero_le _, by simp, fun j a h1 => ?_, fun o' h1 _ => ?_⟩, ?_, k4⟩
  · have e1 := (List.getElem?_eq_some_iff.1 h1).1
    have : j = 0 := by simpa using e1
    subst this; cases h1
    refine ⟨_, ?_, .abs _, fun _ => rfl⟩
    simp [ρext]
  · rw [List.getElem?_append_left h1]
  · have := Ren.ptr (ρ := ρext (fun _ => 0) ([] : Heap).length H.length) (n := [Ob.abs (whole I')].length) 0 0 (by simp)
    simpa [ρext] using this

/-- a root alone -/
theorem sub_one {cs : List PV} (T : Heap) (h : ∀ x ∈ cs, Low 0 x) : Sub (fun _ => 0) [.cells cs] (.cells cs :: T) := by
  refine ⟨fun o _ => by simp, fun o o' h1 h2 _ => by simp at h1 h2; omega, fun o a h1 => ?_⟩
  have e1 := (List.getElem?_eq_some_iff.1 h1).1
  have : o = 0 := by simpa using e1
  subst this; cases h1
  exact ⟨_, rfl, .cells (RenL.low h)⟩
/-- a root, and the row that it is the head of -/
theorem sub_two {cs c1 : List PV} {T : Heap} {k : Nat} {off len cap : Nat} (hk : T[k]? = some (.cells c1)) (h0 : ∀ x ∈ cs, Low 0 x) (h1 : ∀ x ∈ c1, Low 0 x) :
    Sub (fun o => if o = 0 then 0 else k + 1) [.cells (.arr 1 off len cap :: cs), .cells c1] (.cells (.arr (k + 1) off len cap :: cs) :: T) := by
  have hkl := (List.getElem?_eq_some_iff.1 hk).1
  refine ⟨fun o _ => by split <;> simp; omega, fun o o' h2 h3 h4 => ?_, fun o a h2 => ?_⟩
  · simp at h2 h3
    rcases Nat.eq_zero_or_pos o with rfl | ho
    · rcases Nat.eq_zero_or_pos o' with rfl | ho'
      · rfl
      · rw [if_pos rfl, if_neg (by omega)] at h4; omega
    · rcases Nat.eq_zero_or_pos o' with rfl | ho'
      · rw [if_neg (by omega), if_pos rfl] at h4; omega
      · omega
  · have e1 := (List.getElem?_eq_some_iff.1 h2).1
    simp at e1
    rcases Nat.eq_zero_or_pos o with rfl | ho
    · simp only [List.getElem?_cons_zero, Option.some.injEq] at h2
      subst h2
      refine ⟨_, by rw [if_pos rfl]; rfl, .cells (.cons ?_ (RenL.low h0))⟩
      have := Ren.arr (ρ := fun o => if o = 0 then 0 else k + 1) (n := [Ob.cells (PV.arr 1 off len cap :: cs), Ob.cells c1].length) 1 off len cap (by simp)
      simpa using this
    · have : o = 1 := by omega
      subst this
      simp only [List.getElem?_cons_succ, List.getElem?_cons_zero, Option.some.injEq] at h2
      subst h2
      exact ⟨.cells c1, by simpa using hk, .cells (RenL.low h1)⟩

#print axioms acalls_method2
#print axioms acalls_make2
end Go.AM

/-! AM, part 47: rows put into rows of cells, and taken out. -/
namespace Go.AM
open Go

def insAt {α : Type} (l : List α) (p : Nat) (r : α) : List α := l.take p ++ r :: l.drop p
theorem insAt_length {α : Type} {l : List α} {p : Nat} {r : α} (h : p ≤ l.length) : (insAt l p r).length = l.length + 1 := by
  simp [insAt]; omega
theorem insAt_end {α : Type} (l : List α) (r : α) : insAt l l.length r = l ++ [r] := by simp [insAt]

/-- the room behind rows: so many cells, each of one value -/
structure Room (J : List PV) (n : Nat) : Prop where
  len : J.length = n
  one : ∀ x ∈ J, x.one = true
  low : ∀ x ∈ J, Low 0 x

theorem Room.drop {J : List PV} {n k : Nat} (h : Room J n) : Room (J.drop k) (n - k) :=
  ⟨by rw [List.length_drop, h.len], fun x hx => h.one x (List.mem_of_mem_drop hx), fun x hx => h.low x (List.mem_of_mem_drop hx)⟩
theorem Room.app {J L : List PV} {n k : Nat} (h : Room J n) (h' : Room L k) : Room (J ++ L) (n + k) :=
  ⟨by rw [List.length_append, h.len, h'.len], fun x hx => (List.mem_append.1 hx).elim (h.one x) (h'.one x), fun x hx => (List.mem_append.1 hx).elim (h.low x) (h'.low x)⟩
theorem Room.zeros {z : List PV} (h1 : ∀ x ∈ z, x.one = true) (h2 : ∀ x ∈ z, Low 0 x) (n : Nat) : Room (List.replicate n z).flatten (n * z.length) := by
  refine ⟨by simp, fun x hx => ?_, fun x hx => ?_⟩ <;>
  · obtain ⟨y, h3, h4⟩ := List.mem_flatten.1 hx
    rw [(List.mem_replicate.1 h3).2] at h4
    first | exact h1 x h4 | exact h2 x h4
theorem Room.cast {J : List PV} {n m : Nat} (h : Room J n) (e : n = m) : Room J m := e ▸ h

section
variable {α : Type} {f : α → List PV} {sz : Nat}
theorem rows_insAt (l : List α) (p : Nat) (r : α) : ((insAt l p r).map f).flatten = ((l.take p).map f).flatten ++ (f r ++ ((l.drop p).map f).flatten) := by
  simp [insAt]
theorem rows_parts (l : List α) (p : Nat) : (l.map f).flatten = ((l.take p).map f).flatten ++ ((l.drop p).map f).flatten := by
  rw [← List.flatten_append, ← List.map_append, List.take_append_drop]

theorem ins_end (h : ∀ a, (f a).length = sz) {l : List α} {J : List PV} (r : α) (hJ : sz ≤ J.length) :
    over ((l.map f).flatten ++ J) (l.length * sz) (f r) = ((insAt l l.length r).map f).flatten ++ J.drop sz := by
  rw [over_mid (A := (l.map f).flatten) (X := J.take sz) (B := J.drop sz) (by rw [List.append_assoc, List.take_append_drop]) (rows_len h l) (by rw [h, List.length_take]; omega)]
  simp [insAt]

theorem ins_mid (h : ∀ a, (f a).length = sz) {l : List α} {J : List PV} {p : Nat} (r : α) (hp : p < l.length) (hJ : sz ≤ J.length) :
    over (over ((l.map f).flatten ++ J) ((p + 1) * sz) ((((l.map f).flatten ++ J).drop (p * sz)).take ((l.length - p) * sz))) (p * sz) (f r) = ((insAt l p r).map f).flatten ++ J.drop sz := by
  rw [rows_drop h J l p (by omega), show l.length - p = (l.drop p).length by simp, ← rows_len h (l.drop p), List.take_left' rfl]
  obtain ⟨x, t, e⟩ : ∃ x t, l.drop p = x :: t := ⟨_, _, List.drop_eq_getElem_cons hp⟩
  have e1 : (l.map f).flatten ++ J = ((l.take p).map f).flatten ++ f x ++ ((t.map f).flatten ++ J.take sz) ++ J.drop sz := by
    rw [rows_parts l p, e]; simp
  have e2 : (((l.take p).map f).flatten ++ f x).length = (p + 1) * sz := by
    rw [List.length_append, rows_len h, h, List.length_take, Nat.min_eq_left (by omega), Nat.succ_mul]
  rw [over_mid e1 e2 (by rw [e]; simp [h]; omega)]
  rw [over_mid (A := ((l.take p).map f).flatten) (X := f x) (B := ((l.drop p).map f).flatten ++ J.drop sz) (by simp) (by rw [rows_len h, List.length_take, Nat.min_eq_left (by omega)]) (by rw [h, h])]
  simp [insAt]

theorem ins_grow (h : ∀ a, (f a).length = sz) {l : List α} {Z : List PV} {p : Nat} (r : α) (hp : p ≤ l.length) (hZ : (l.length + 1 - p) * sz ≤ Z.length) :
    over (over (((l.take p).map f).flatten ++ Z) (p * sz) (f r)) ((p + 1) * sz) ((l.drop p).map f).flatten = ((insAt l p r).map f).flatten ++ Z.drop ((l.length + 1 - p) * sz) := by
  have e0 : (((l.take p).map f).flatten).length = p * sz := by rw [rows_len h, List.length_take, Nat.min_eq_left hp]
  have e3 : (l.length + 1 - p) * sz = sz + (l.length - p) * sz := by rw [show l.length + 1 - p = (l.length - p) + 1 by omega, Nat.succ_mul]; omega
  rw [over_mid (A := ((l.take p).map f).flatten) (X := Z.take sz) (B := Z.drop sz) (by simp) e0 (by rw [h, List.length_take]; omega)]
  rw [over_mid (A := ((l.take p).map f).flatten ++ f r) (X := (Z.drop sz).take ((l.length - p) * sz)) (B := Z.drop ((l.length + 1 - p) * sz)) (by rw [e3, ← List.drop_drop, List.append_assoc (_ ++ f r), List.take_append_drop]) (by rw [List.length_append, e0, h, Nat.succ_mul]) (by rw [rows_len h, List.length_take, List.length_drop, List.length_drop]; omega)]
  simp [insAt]

theorem del_rows (h : ∀ a, (f a).length = sz) {l : List α} {J : List PV} {p : Nat} (hp : p < l.length) :
    over ((l.map f).flatten ++ J) (p * sz) ((((l.map f).flatten ++ J).drop ((p + 1) * sz)).take ((l.length - (p + 1)) * sz)) = ((l.eraseIdx p).map f).flatten ++ (f (l.getLast (List.ne_nil_of_length_pos (by omega))) ++ J) := by
  rw [rows_drop h J l (p + 1) (by omega), show l.length - (p + 1) = (l.drop (p + 1)).length by simp, ← rows_len h (l.drop (p + 1)), List.take_left' rfl]
  have hne : l ≠ [] := List.ne_nil_of_length_pos (by omega)
  obtain ⟨x, t, e⟩ : ∃ x t, l.drop p = x :: t := ⟨_, _, List.drop_eq_getElem_cons hp⟩
  have e' : l.drop (p + 1) = t := by rw [← List.drop_drop, e]; rfl
  have el : l = l.take p ++ x :: t := by rw [← e, List.take_append_drop]
  have hlast : (x :: t).getLast (by simp) = l.getLast hne := by
    have : l.getLast hne = (l.take p ++ x :: t).getLast (by simp) := by congr 1
    rw [this, List.getLast_append_of_ne_nil]
  have e2 : f x ++ (t.map f).flatten = (((x :: t).dropLast).map f).flatten ++ f (l.getLast hne) := by
    have := List.dropLast_concat_getLast (l := x :: t) (by simp)
    calc f x ++ (t.map f).flatten = ((x :: t).map f).flatten := by simp
      _ = (((x :: t).dropLast ++ [(x :: t).getLast (by simp)]).map f).flatten := by rw [this]
      _ = _ := by simp [hlast]
  have e1 : (l.map f).flatten ++ J = ((l.take p).map f).flatten ++ (((x :: t).dropLast).map f).flatten ++ (f (l.getLast hne) ++ J) := by
    rw [rows_parts l p, e]; simp only [List.map_cons, List.flatten_cons]; rw [e2]; simp
  rw [over_mid e1 (by rw [rows_len h, List.length_take, Nat.min_eq_left (by omega)]) (by rw [rows_len h, rows_len h, e', List.length_dropLast]; simp)]
  rw [List.eraseIdx_eq_take_drop_succ, e']
  simp

theorem del_clear (h : ∀ a, (f a).length = sz) {l : List α} {J z : List PV} (r : α) (hz : z.length = sz) : over ((l.map f).flatten ++ (f r ++ J)) (l.length * sz) z = (l.map f).flatten ++ (z ++ J) := by
  rw [over_mid (A := (l.map f).flatten) (X := f r) (B := J) (by simp) (rows_len h l) (by rw [h, hz])]
  simp
end
end Go.AM

/-! AM, part 48: methods of a whole, told by what is left. -/
namespace Go.AM
open Go

/-- what is left holds of some of the objects -/
def RestOf (I : Heap → Prop) (H : Heap) : Prop := ∃ (X : Heap) (ρ : Nat → Nat), Sub ρ X H ∧ ρ 0 = 0 ∧ I (noTok X) ∧ Root X

theorem method_left {P : Program} {gl : Glob} (hgl : GlobLow gl) {f : FuncId} {args0 args : List PV} {H : Heap} {o : Nat} {I I' : Heap → Prop} {r : PV} (ho : H[o]? = some (.abs (whole I)))
    (hargs0 : ∀ x ∈ args0, Low 0 x ∨ ∃ off, x = .ptr 0 off) (hargs : RenL (fun _ => o) 1 args0 args) (hr : Low 0 r)
    (h : ∀ hh, I hh → ACalls P gl f args0 hh (fun x H' => x = r ∧ RestOf I' H')) : ACalls P gl f args H (fun x H' => x = r ∧ H' = H.set o (.abs (whole I'))) := by
  refine acalls_method2 hgl ho hargs0 hargs fun hh h1 _ => ?_
  intro g w vs hS hG hR
  refine (h hh h1 g w vs hS hG hR).mono ?_
  rintro e w' ⟨v, g', H', x, rfl, hS', hX, hv, rfl, X, ρ, k1, k2, k3, k4⟩
  exact ⟨v, g', H', _, rfl, hS', hX, hv, I', X, ρ, k1, k2, k3, k4, hr, rfl, rfl⟩

theorem make_left {P : Program} {gl : Glob} (hgl : GlobLow gl) {f : FuncId} {args : List PV} {H : Heap} {I' : Heap → Prop} (hargs : ∀ x ∈ args, Low 0 x)
    (h : ACalls P gl f args [] (fun x H' => x = .ptr 0 0 ∧ RestOf I' H')) : ACalls P gl f args H (fun x H' => x = .ptr H.length 0 ∧ H' = H ++ [.abs (whole I')]) := by
  refine acalls_make2 hgl hargs ?_
  intro g w vs hS hG hR
  refine (h g w vs hS hG hR).mono ?_
  rintro e w' ⟨v, g', H', x, rfl, hS', hX, hv, rfl, X, ρ, k1, k2, k3, k4⟩
  exact ⟨v, g', H', _, rfl, hS', hX, hv, I', X, ρ, k1, k2, k3, k4, rfl, rfl, rfl⟩

/-- a call's end, told anew -/
theorem acalls_to {P : Program} {gl : Glob} {f : FuncId} {args : List PV} {H : Heap} {K K' : PV → Heap → Prop} (h : ACalls P gl f args H K) (hk : ∀ x H', K x H' → K' x H') : ACalls P gl f args H K' := by
  intro g w vs hS hG hR
  refine (h g w vs hS hG hR).mono ?_
  rintro e w' ⟨v, g', H', x, rfl, hS', hX, hv, k⟩
  exact ⟨v, g', H', x, rfl, hS', hX, hv, hk _ _ k⟩
theorem args_self {rest : List PV} (h : ∀ x ∈ rest, Low 0 x) : ∀ x ∈ PV.ptr 0 0 :: rest, Low 0 x ∨ ∃ off, x = .ptr 0 off := by
  intro x hx
  rcases List.mem_cons.1 hx with rfl | hx
  · exact .inr ⟨0, rfl⟩
  · exact .inl (h x hx)
theorem ren_self {rest : List PV} (q : Nat) (h : ∀ x ∈ rest, Low 0 x) : RenL (fun _ => q) 1 (.ptr 0 0 :: rest) (.ptr q 0 :: rest) :=
  .cons (.ptr (ρ := fun _ => q) 0 0 Nat.zero_lt_one) (RenL.low h)
theorem set_same {α : Type} {l : List α} {i : Nat} {a : α} (h : l[i]? = some a) : l.set i a = l := by
  obtain ⟨h1, rfl⟩ := List.getElem?_eq_some_iff.1 h
  exact List.set_getElem_self h1

/-- a method that changes its whole -/
theorem meth_heap {P : Program} {gl : Glob} (hgl : GlobLow gl) {f : FuncId} {rest : List PV} {H : Heap} {q : Nat} {I I' : Heap → Prop} {r : PV} {K : PV → Heap → Prop} (ho : AbIs H q (whole I)) (hrest : ∀ x ∈ rest, Low 0 x) (hr : Low 0 r)
    (h : ∀ hh, I hh → ACalls P gl f (.ptr 0 0 :: rest) hh (fun x H' => x = r ∧ RestOf I' H')) (hk : K r (H.set q (.abs (whole I')))) : ACalls P gl f (.ptr q 0 :: rest) H K :=
  acalls_to (method_left hgl ho (args_self hrest) (ren_self q hrest) hr h) fun _ _ e => e.1 ▸ e.2 ▸ hk
/-- a method that reads -/
theorem meth_read {P : Program} {gl : Glob} (hgl : GlobLow gl) {f : FuncId} {rest : List PV} {H : Heap} {q : Nat} {I : Heap → Prop} {r : PV} (ho : AbIs H q (whole I)) (hrest : ∀ x ∈ rest, Low 0 x) (hr : Low 0 r)
    (h : ∀ hh, I hh → ACalls P gl f (.ptr 0 0 :: rest) hh (fun x H' => x = r ∧ RestOf I H')) : ACalls P gl f (.ptr q 0 :: rest) H (fun x H' => x = r ∧ H' = H) :=
  acalls_to (method_left hgl ho (args_self hrest) (ren_self q hrest) hr h) fun _ _ e => ⟨e.1, by rw [e.2, set_same ho]⟩
end Go.AM

/-! AM, part 49: a loop behind whose rounds objects get other names; objects under other names, one by one; a call that makes a row within a value. -/
namespace Go.AM
open Go

/-- what a round of such a loop must bring -/
def loopY {σ : Type} (Q : Ex → Env → Heap → Prop) (n0 : Nat) (slots : List Nat) (I : σ → Prop) (V : σ → List PV) (Hp : σ → Heap) (m : σ → Nat) (s : σ) : Ex → List PV → Heap → Prop := fun ex vs H' => match ex with
  | .normal => ∃ s', m s' < m s ∧ I s' ∧ Tidy n0 vs H' (V s') (Hp s')
  | .exit i => ∃ vs2 H2, Tidy n0 vs H' vs2 H2 ∧ Q (.exit i) (envS slots vs2) H2
  | .ret => ∃ vs2 H2, Tidy n0 vs H' vs2 H2 ∧ Q .ret (envS slots vs2) H2

theorem aw_loop7 {P : Program} {gl : Glob} (hgl : GlobLow gl) {n : Nat} {T : Tab} (hT : TabOk P gl T) {L : LTab} {hn : Oper → Nat} {x : Code} (hL : LOk P gl n x [] L) {Q : Ex → Env → Heap → Prop} {e : Env} {H : Heap} {σ : Type} (slots : List Nat) (I : σ → Prop) (V : σ → List PV) (Hp : σ → Heap) (m : σ → Nat) (s0 : σ)
    (h0 : I s0) (he : slots.map e = V s0) (hH : H = Hp s0)
    (round0 : ∀ s, I s → Holds (wpc br P gl T L hn x [] (envS slots (V s)) (Hp s) (fun ex e' H' => loopY Q H.length slots I V Hp m s ex (slots.map e') H'))) : AW P gl n (.loop x) Q e H := by
  have round : ∀ s, I s → AW P gl n x (fun ex e' H' => loopY Q H.length slots I V Hp m s ex (slots.map e') H') (envS slots (V s)) (Hp s) := fun s hI => wpc_sound hT x [] hL _ _ _ (round0 s hI).out
  intro hd g a w hst
  simp only [dstAll] at hd
  have hng : g.n = H.length := hst.sim.n
  refine wp_loop_ghost (fun k a' w' => ∃ g' s, k = m s ∧ I s ∧ St gl n g' (envS slots (V s)) (Hp s) a' w' ∧ Ext g H w g' (Hp s) w') (m s0) ⟨g, s0, rfl, h0, by rw [← hH, ← he]; exact hst.weaken (envS_le e slots), by rw [← hH]; exact .refl g H w⟩ ?_
  rintro k a1 w1 ⟨g1, s, rfl, hI, hst1, hx1⟩
  refine wp_mono (round s hI hd g1 a1 w1 hst1) ?_
  rintro ex a' w' ⟨ex', g', e', H', k0, k1, k2, k3⟩
  have k1' := k1.weaken (envS_le e' slots)
  cases ex <;> cases ex' <;> first | exact k0.elim | skip
  · obtain ⟨s', hm, hI', hr⟩ := k3
    obtain ⟨g3, j1, j2⟩ := k1'.tidy hgl (hx1.trans k2) hng hr
    exact ⟨m s', hm, g3, s', rfl, hI', j1, j2⟩
  · obtain ⟨vs2, H2, j1, j3⟩ := k3
    obtain ⟨g3, j4, j5⟩ := k1'.tidy hgl (hx1.trans k2) hng j1
    exact ⟨.exit _, g3, _, H2, k0, j4, j5, j3⟩
  · obtain ⟨vs2, H2, j1, j3⟩ := k3
    obtain ⟨g3, j4, j5⟩ := k1'.tidy hgl (hx1.trans k2) hng j1
    exact ⟨.ret, g3, _, H2, k0, j4, j5, j3⟩

/-- objects X are those of H' at these places, under other names -/
inductive SubL (ρ : Nat → Nat) (n : Nat) (H' : Heap) : List Nat → Heap → Prop where
  | nil : SubL ρ n H' [] []
  | cons {p : Nat} {ps : List Nat} {a b : Ob} {X : Heap} (hb : H'[p]? = some b) (hr : RenOb ρ n a b) (t : SubL ρ n H' ps X) : SubL ρ n H' (p :: ps) (a :: X)

theorem SubL.len {ρ : Nat → Nat} {n : Nat} {H' : Heap} {ps : List Nat} {X : Heap} (h : SubL ρ n H' ps X) : ps.length = X.length := by
  induction h with
  | nil => rfl
  | cons _ _ _ ih => simp [ih]
theorem SubL.get {ρ : Nat → Nat} {n : Nat} {H' : Heap} {ps : List Nat} {X : Heap} (h : SubL ρ n H' ps X) : ∀ (o : Nat) (a : Ob), X[o]? = some a → ∃ b, H'[ps.getD o 0]? = some b ∧ RenOb ρ n a b := by
  induction h with
  | nil => intro o a h; simp at h
  | cons hb hr _ ih =>
    intro o a h
    cases o with
    | zero => simp at h; subst h; exact ⟨_, hb, hr⟩
    | succ o => simpa using ih o a (by simpa using h)
theorem sub_of_list {ps : List Nat} {X H' : Heap} (h : SubL (fun o => ps.getD o 0) X.length H' ps X) (hnd : ps.Nodup) : Sub (fun o => ps.getD o 0) X H' := by
  have hl := h.len
  refine ⟨fun o ho => ?_, fun o o' h1 h2 h3 => ?_, h.get⟩
  · obtain ⟨b, hb, _⟩ := h.get o X[o] (List.getElem?_eq_getElem ho)
    exact (List.getElem?_eq_some_iff.1 hb).1
  · have e1 : ps.getD o 0 = ps[o] := by rw [List.getD_eq_getElem?_getD, List.getElem?_eq_getElem (by omega)]; rfl
    have e2 : ps.getD o' 0 = ps[o'] := by rw [List.getD_eq_getElem?_getD, List.getElem?_eq_getElem (by omega)]; rfl
    have h4 : ps[o]'(by omega) = ps[o']'(by omega) := by rw [← e1, ← e2]; exact h3
    rcases Nat.lt_trichotomy o o' with c | c | c
    · exact absurd h4 (List.pairwise_iff_getElem.1 hnd o o' (by omega) (by omega) c)
    · exact c
    · exact absurd h4.symm (List.pairwise_iff_getElem.1 hnd o' o (by omega) (by omega) c)

theorem tidy_list {n0 : Nat} {vs' vs vs1 : List PV} {H' H : Heap} (ps : List Nat) (hw : WkL vs' vs1) (hs : SubL (fun o => ps.getD o 0) H.length H' ps H) (hnd : ps.Nodup) (hn : n0 ≤ H.length) (hid : ∀ o, o < n0 → ps.getD o 0 = o)
    (hr : RenL (fun o => ps.getD o 0) H.length vs vs1) : Tidy n0 vs' H' vs H :=
  ⟨vs1, H', _, hw, .refl _, sub_of_list hs hnd, hn, hid, hr⟩

theorem WkL.refl : ∀ (l : List PV), WkL l l
  | [] => .nil
  | x :: xs => .cons (.refl x) (WkL.refl xs)

/-- an object whose cells name nothing -/
theorem ren_low {ρ : Nat → Nat} {n : Nat} {cs : List PV} (h : ∀ x ∈ cs, Low 0 x) : RenOb ρ n (.cells cs) (.cells cs) := .cells (RenL.low h)

/-- a call that makes a row of the caller's own within a value, whatever there is besides -/
theorem mk_agg {P : Program} {gl : Glob} (hgl : GlobLow gl) {f : FuncId} {args args' : List PV} {es : List (List PV)} {rest : List PV} (hw : WkL args args') (ha : ∀ x ∈ args', Low 0 x) (hl : ∀ x ∈ es.flatten, Low 0 x) (hrest : ∀ x ∈ rest, Low 0 x)
    (h : ACalls P gl f args' [] (fun x H' => (es = [] → x = .agg (.list [] .exact :: rest)) ∧ (es ≠ [] → ∃ o, x = .agg (.list es (.tok o) :: rest) ∧ H'[o]? = some .tok))) (H : Heap) :
    ACalls P gl f args H (fun x H' => (es = [] → x = .agg (.list [] .exact :: rest) ∧ H' = H) ∧ (es ≠ [] → x = .agg (.list es (.tok H.length) :: rest) ∧ H' = H ++ [.tok])) := by
  refine acalls_args hw (acalls_frame hgl (X := []) (ρ := fun o => o) ⟨by simp, by simp, by simp⟩ (renL_low ha) (acalls_rename hgl (h.mono ?_)))
  rintro x H' ⟨h1, h2⟩
  by_cases h0 : es = []
  · have hlow : Low 0 (.agg (.list [] .exact :: rest)) := .agg _ (by
      intro y hy
      rcases List.mem_cons.1 hy with rfl | hy
      · exact .list _ _ (by intro o e; cases e) (by simp)
      · exact hrest y hy)
    refine ⟨.agg (.list [] .exact :: rest), [], fun o => o, ⟨by simp, by simp, by simp⟩, by simp, by simp, ?_, .agg (.list [] .exact :: rest), H, ⟨by simp, by simp, by simp, fun o _ _ => rfl⟩, ?_, fun _ => ⟨rfl, rfl⟩, fun k => absurd h0 k⟩
    · rw [h1 h0]; exact .low hlow
    · exact .low hlow
  · obtain ⟨o, rfl, ho⟩ := h2 h0
    have hol : o < H'.length := (List.getElem?_eq_some_iff.1 ho).1
    refine ⟨.agg (.list es (.tok 0) :: rest), [.tok], fun _ => o, ⟨fun _ _ => hol, fun a b ha hb _ => by simp at ha hb; omega, fun j a h1 => ?_⟩, by simp, by simp, Ren.aggL (.cons (.ltok (ρ := fun _ => o) _ 0 (by simp) hl) (RenL.low hrest)), .agg (.list es (.tok H.length) :: rest), H ++ [.tok], ⟨by simp, by simp, fun j a h1 => ?_, fun o h1 _ => ?_⟩, ?_, fun k => absurd k h0, fun _ => ⟨rfl, rfl⟩⟩
    · have : j = 0 := by have := (List.getElem?_eq_some_iff.1 h1).1; simpa using this
      subst this; cases h1
      exact ⟨_, ho, .tok⟩
    · have : j = 0 := by have := (List.getElem?_eq_some_iff.1 h1).1; simpa using this
      subst this; cases h1
      exact ⟨.tok, by simp [ρext], .tok, fun _ => rfl⟩
    · rw [List.getElem?_append_left h1]
    · have := Ren.ltok (ρ := ρext (fun o => o) ([] : Heap).length H.length) (n := 1) es 0 (by omega) hl
      refine Ren.aggL (.cons ?_ (RenL.low hrest))
      simpa [ρext] using this
/-- a call that only looks at one whole -/
theorem read_one {P : Program} {gl : Glob} (hgl : GlobLow gl) {f : FuncId} {args0 args : List PV} {H : Heap} {q : Nat} {r : Rep} {v : PV} (ho : AbIs H q r) (hargs : RenL (fun _ => q) 1 args0 args) (hv : Low 0 v)
    (h : ACalls P gl f args0 [.abs r] (fun x H' => x = v ∧ ∃ G, H' = .abs r :: G)) : ACalls P gl f args H (fun x H' => x = v ∧ H' = H) := by
  have hol : q < H.length := (List.getElem?_eq_some_iff.1 ho).1
  have one : ∀ {o : Nat} {a : Ob}, [Ob.abs r][o]? = some a → o = 0 ∧ a = .abs r := fun {o a} h1 => by
    have e1 := (List.getElem?_eq_some_iff.1 h1).1
    have : o = 0 := by simpa using e1
    subst this; cases h1; exact ⟨rfl, rfl⟩
  have hsub : Sub (fun _ => q) [.abs r] H := ⟨fun _ _ => hol, fun a b h1 h2 _ => by simp at h1 h2; omega, fun j a h1 => by obtain ⟨rfl, rfl⟩ := one h1; exact ⟨_, ho, .abs _⟩⟩
  refine acalls_frame hgl hsub hargs (acalls_rename hgl (acalls_to h ?_))
  rintro x H' ⟨rfl, G, rfl⟩
  refine ⟨x, [.abs r], fun _ => 0, ⟨fun _ _ => by simp, fun a b h1 h2 _ => by simp at h1 h2; omega, fun j a h1 => by obtain ⟨rfl, rfl⟩ := one h1; exact ⟨_, rfl, .abs _⟩⟩, Nat.le_refl _, fun o ho => by simp at ho; simp [ho], .low hv, x, H, ⟨Nat.le_refl _, by simp, fun j a h1 => ?_, fun o' _ _ => rfl⟩, .low hv, rfl, rfl⟩
  obtain ⟨rfl, rfl⟩ := one h1
  have ho' : H[q]? = some (.abs r) := ho
  exact ⟨_, by simpa [ρext] using ho', .abs _, fun h => h⟩

theorem AW.wkheap {P : Program} {gl : Glob} {n : Nat} {c : Code} {Q : Ex → Env → Heap → Prop} {e : Env} {H H1 : Heap} (hw : WkH H H1) (h : AW P gl n c Q e H1) : AW P gl n c Q e H := by
  intro hd g a w hst
  refine wp_mono (h hd g a w ⟨hw.sim hst.sim, hst.glob, hst.env, hst.dfr⟩) ?_
  rintro ex a' w' ⟨ex', g', e', H', k0, k1, hX, k3⟩
  exact ⟨ex', g', e', H', k0, k1, ⟨hX.gx, hX.size, fun b hb ho => hw.own (hX.ow b hb ho), fun b hb ho => hX.frame b hb fun k => ho (hw.own k), hX.os, hX.tape, hX.output, fun b q hb hi => (hX.im b q hb hi).imp id hw.own⟩, k3⟩

#print axioms aw_loop7
#print axioms mk_agg
end Go.AM

