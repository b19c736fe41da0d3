/-
  An abstract machine over values without memory, proved against the model; part 8. A tool for the proofs of this claim; it states nothing of the program.
-/
import Derived.Test.YtmcincfonnfblaaA7
import Derived.Laws.AppendOwn
/-! AM, part 8: append, copy, clear, make. -/
namespace Go.AM
open Go

/-- a new block, the first k cells of which never change -/
theorem Sim.newRowK {g : Gh} {H : Heap} {w : World} (h : Sim g H w) {cs : List PV} {C : Array Value} (ty : TypeId) (hr : RelL g w cs (C.toList.take cs.length)) :
    Sim (g.row w.heap.size cs.length) H (w.alloc (.cells C ty)) ∧ Ext g H w (g.row w.heap.size cs.length) H (w.alloc (.cells C ty)) ∧
      ImmRow (g.row w.heap.size cs.length) (w.alloc (.cells C ty)) ⟨w.heap.size, 0, none⟩ cs := by
  have hgx : Gext g w (g.row w.heap.size cs.length) (w.alloc (.cells C ty)) :=
    ⟨Nat.le_refl _, fun _ _ => rfl, fun _ _ => rfl, fun _ _ => rfl, fun _ _ h => .inl h, fun b q hq => alloc_cell_old w _ b q (h.imm b q hq)⟩
  have hold : ∀ o ob b, H[o]? = some ob → ob.alive = true → blk g ob o b → b < w.heap.size := fun o ob b h1 h2 h3 => own_lt h ⟨o, ob, h1, h2, h3⟩
  refine ⟨⟨h.n, fun o o' ob ob' b h1 h2 h3 h4 h5 h6 => h.inj o o' ob ob' b h1 h2 h3 h4 ((blk_of rfl (fun _ => Iff.rfl) _ _).1 h5) ((blk_of rfl (fun _ => Iff.rfl) _ _).1 h6), ?_, ?_, ?_, ?_⟩,
    ⟨hgx, by simp, fun b _ ⟨o, ob, h1, h2, h3⟩ => ⟨o, ob, h1, h2, (blk_of rfl (fun _ => Iff.rfl) _ _).1 h3⟩, ?_, rfl, rfl, rfl, fun _ _ hb h => h.imp id fun k => absurd hb (by rw [k.1]; exact Nat.lt_irrefl _)⟩, rfl, ?_⟩
  · intro o cs' h1
    obtain ⟨⟨C', ty', h2, h3⟩, h4⟩ := h.cells o cs' h1
    have hlt := hold o _ _ h1 rfl rfl
    refine ⟨⟨C', ty', ?_, h3.mono hgx⟩, ?_⟩
    · show (w.alloc _).heap[g.bk o]? = _
      rw [alloc_get, if_neg (Nat.ne_of_lt hlt)]; exact h2
    · rintro q (hq | ⟨hq, _⟩)
      · exact h4 q hq
      · exact absurd hq (Nat.ne_of_lt hlt)
  · intro o h1
    obtain ⟨⟨C', ty', h2, h2'⟩, h4⟩ := h.tok o h1
    have hlt := hold o _ _ h1 rfl rfl
    refine ⟨⟨C', ty', ?_, h2'⟩, ?_⟩
    · show (w.alloc _).heap[g.bk o]? = _
      rw [alloc_get, if_neg (Nat.ne_of_lt hlt)]; exact h2
    · rintro q hq (hi | ⟨hi, _⟩)
      · exact h4 q hq hi
      · exact absurd hi (Nat.ne_of_lt hlt)
  · rintro b q (hq | ⟨rfl, _⟩)
    · have := h.imm b q hq; simp; omega
    · simp
  · intro o r h1
    have h2 := (h.abs o r h1).2.2
    refine h.absKeep h1 hgx rfl (fun _ => Iff.rfl) (fun b hb => by rw [alloc_get, if_neg (Nat.ne_of_lt (h2 b hb).1)]) ?_ (by simp) ?_
    · rintro b q hb (hq | ⟨rfl, _⟩)
      · exact (h2 b hb).2 q hq
      · exact Nat.lt_irrefl _ (h2 _ hb).1
    · rintro b q (hq | ⟨rfl, _⟩)
      · have := h.imm b q hq; simp; omega
      · simp
  · intro b hb _
    rw [alloc_get, if_neg (by omega)]
  · intro q x hx
    have hq : q < cs.length := (List.getElem?_eq_some_iff.1 hx).1
    obtain ⟨v, hv, hrel⟩ := hr.get hx
    rw [List.getElem?_take, if_pos hq, Array.getElem?_toList] at hv
    refine ⟨.inr ⟨rfl, by simpa using hq⟩, v, ?_, hrel.mono hgx⟩
    simp only [At, Nat.zero_add]
    rw [World.cell?_alloc_new]; exact hv

/-- an object's block: cells [lo, hi) are made fast, and a mark of the spare room behind is laid -/
def Gh.fast (g : Gh) (b lo hi sz : Nat) : Gh :=
  { n := g.n + 1, bk := fun o => if o = g.n then b else g.bk o, en := fun o => if o = g.n then hi else g.en o, sz := fun o => if o = g.n then sz else g.sz o, imm := fun b' q => g.imm b' q ∨ (b' = b ∧ lo ≤ q ∧ q < hi), fp := g.fp }

/-- a new block, the first k cells of which never change, the others spare -/
theorem Sim.newTok {g : Gh} {H : Heap} {w : World} (h : Sim g H w) {cs : List PV} {C : Array Value} (ty : TypeId) (hr : RelL g w cs (C.toList.take cs.length)) :
    Sim (g.fast w.heap.size 0 cs.length C.size) (H ++ [.tok]) (w.alloc (.cells C ty)) ∧ Ext g H w (g.fast w.heap.size 0 cs.length C.size) (H ++ [.tok]) (w.alloc (.cells C ty)) ∧
      ImmRow (g.fast w.heap.size 0 cs.length C.size) (w.alloc (.cells C ty)) ⟨w.heap.size, 0, none⟩ cs := by
  have hgx : Gext g w (g.fast w.heap.size 0 cs.length C.size) (w.alloc (.cells C ty)) :=
    ⟨by simp [Gh.fast], fun o ho => by simp [Gh.fast]; omega, fun o ho => by simp [Gh.fast]; omega, fun o ho => by simp [Gh.fast]; omega, fun _ _ h => .inl h, fun b q hq => alloc_cell_old w _ b q (h.imm b q hq)⟩
  have hold : ∀ o ob b, H[o]? = some ob → ob.alive = true → blk g ob o b → b < w.heap.size := fun o ob b h1 h2 h3 => own_lt h ⟨o, ob, h1, h2, h3⟩
  have hbk : ∀ o, o < H.length → (g.fast w.heap.size 0 cs.length C.size).bk o = g.bk o := fun o ho => hgx.bk o (by rw [h.n]; exact ho)
  have hbn : (g.fast w.heap.size 0 cs.length C.size).bk H.length = w.heap.size := by simp [Gh.fast, h.n]
  have hen : (g.fast w.heap.size 0 cs.length C.size).en H.length = cs.length := by simp [Gh.fast, h.n]
  have hszn : (g.fast w.heap.size 0 cs.length C.size).sz H.length = C.size := by simp [Gh.fast, h.n]
  have hblk : ∀ o ob b, o < H.length → (blk (g.fast w.heap.size 0 cs.length C.size) ob o b ↔ blk g ob o b) := fun o ob b ho => blk_of (hbk o ho) (fun _ => Iff.rfl) ob b
  refine ⟨⟨by simp [Gh.fast, h.n], ?_, ?_, ?_, ?_, ?_⟩, ⟨hgx, by simp, ?_, ?_, rfl, rfl, rfl, fun _ _ hb h => h.imp id fun k => absurd hb (by rw [k.1]; exact Nat.lt_irrefl _)⟩, rfl, ?_⟩
  · intro o o' ob ob' b h1 h2 h3 h4 h5 h6
    rcases getElem?_snoc _ _ _ _ h1 with ⟨h1, ho⟩ | ⟨rfl, rfl⟩ <;> rcases getElem?_snoc _ _ _ _ h2 with ⟨h2, ho'⟩ | ⟨rfl, rfl⟩
    · exact h.inj o o' ob ob' b h1 h2 h3 h4 ((hblk _ _ _ ho).1 h5) ((hblk _ _ _ ho').1 h6)
    · have h6 : _ = b := h6
      rw [hbn] at h6; have := hold o ob b h1 h3 ((hblk _ _ _ ho).1 h5); omega
    · have h5 : _ = b := h5
      rw [hbn] at h5; have := hold o' ob' b h2 h4 ((hblk _ _ _ ho').1 h6); omega
    · rfl
  · intro o cs' h1
    rcases getElem?_snoc _ _ _ _ h1 with ⟨h1, ho⟩ | ⟨rfl, e⟩
    · obtain ⟨⟨C', ty', h2, h3⟩, h4⟩ := h.cells o cs' h1
      have hlt := hold o _ _ h1 rfl rfl
      rw [hbk o ho]
      refine ⟨⟨C', ty', ?_, h3.mono hgx⟩, ?_⟩
      · rw [alloc_get, if_neg (Nat.ne_of_lt hlt)]; exact h2
      · rintro q (hq | ⟨hq, _⟩)
        · exact h4 q hq
        · exact absurd hq (Nat.ne_of_lt hlt)
    · cases e
  · intro o h1
    rcases getElem?_snoc _ _ _ _ h1 with ⟨h1, ho⟩ | ⟨rfl, e⟩
    · obtain ⟨⟨C', ty', h2, h2'⟩, h4⟩ := h.tok o h1
      have hlt := hold o _ _ h1 rfl rfl
      rw [hbk o ho, hgx.en o (by rw [h.n]; exact ho), hgx.sz o (by rw [h.n]; exact ho)]
      refine ⟨⟨C', ty', ?_, h2'⟩, ?_⟩
      · rw [alloc_get, if_neg (Nat.ne_of_lt hlt)]; exact h2
      · rintro q hq (hi | ⟨hi, _⟩)
        · exact h4 q hq hi
        · exact absurd hi (Nat.ne_of_lt hlt)
    · rw [hbn, hen, hszn]
      refine ⟨⟨C, ty, by rw [alloc_get, if_pos rfl], rfl⟩, ?_⟩
      rintro q hq (hi | ⟨_, _, hi⟩)
      · exact Nat.lt_irrefl _ (h.imm _ _ hi)
      · omega
  · rintro b q (hq | ⟨rfl, _⟩)
    · have := h.imm b q hq; simp; omega
    · simp
  · intro o r h1
    rcases getElem?_snoc _ _ _ _ h1 with ⟨h1, ho⟩ | ⟨rfl, e⟩
    · have h2 := (h.abs o r h1).2.2
      refine h.absKeep h1 hgx (hbk o ho) (fun _ => Iff.rfl) (fun b hb => by rw [alloc_get, if_neg (Nat.ne_of_lt (h2 b hb).1)]) ?_ (by simp) ?_
      · rintro b q hb (hq | ⟨rfl, _⟩)
        · exact (h2 b hb).2 q hq
        · exact Nat.lt_irrefl _ (h2 _ hb).1
      · rintro b q (hq | ⟨rfl, _⟩)
        · have := h.imm b q hq; simp; omega
        · simp
    · cases e
  · rintro b hb ⟨o, ob, h1, h2, h3⟩
    rcases getElem?_snoc _ _ _ _ h1 with ⟨h1, ho⟩ | ⟨rfl, rfl⟩
    · exact ⟨o, ob, h1, h2, (hblk _ _ _ ho).1 h3⟩
    · have h3 : _ = b := h3
      rw [hbn] at h3; omega
  · intro b hb _
    rw [alloc_get, if_neg (by omega)]
  · intro q x hx
    have hq : q < cs.length := (List.getElem?_eq_some_iff.1 hx).1
    obtain ⟨v, hv, hrel⟩ := hr.get hx
    rw [List.getElem?_take, if_pos hq, Array.getElem?_toList] at hv
    refine ⟨.inr ⟨rfl, Nat.zero_le _, by simpa using hq⟩, v, ?_, hrel.mono hgx⟩
    simp only [At, Nat.zero_add]
    rw [World.cell?_alloc_new]; exact hv

/-- an object is let go, its cells as they are, seen by nobody -/
theorem Sim.kill {g : Gh} {H : Heap} {w : World} (h : Sim g H w) (o : Nat) : Sim g (H.set o .dead) w ∧ Ext g H w g (H.set o .dead) w := by
  have hset : ∀ (o' : Nat) (ob : Ob), (H.set o .dead)[o']? = some ob → ob.alive = true → H[o']? = some ob := by
    intro o' ob h1 h2
    rw [List.getElem?_set] at h1
    (repeat' split at h1) <;> first | exact h1 | (cases h1; cases h2; done) | (cases h1; done)
  refine ⟨⟨by simp; exact h.n, ?_, fun o1 cs1 h1 => h.cells o1 cs1 (hset _ _ h1 rfl), fun o1 h1 => h.tok o1 (hset _ _ h1 rfl), h.imm, fun o1 r h1 => h.abs o1 r (hset _ _ h1 rfl)⟩,
    ⟨.refl g w, Nat.le_refl _, ?_, fun _ _ _ => rfl, rfl, rfl, rfl, fun _ _ _ h => .inl h⟩⟩
  · intro o1 o2 ob1 ob2 b h1 h2 h3 h4 h5 h6
    exact h.inj o1 o2 ob1 ob2 b (hset _ _ h1 h3) (hset _ _ h2 h4) h3 h4 h5 h6
  · rintro b _ ⟨o1, ob1, h1, h2, h3⟩
    exact ⟨o1, ob1, hset _ _ h1 h2, h2, h3⟩

/-- cells are written into the spare room behind a list -/
theorem Sim.useTok {g : Gh} {H : Heap} {w : World} (h : Sim g H w) {o : Nat} (ho : H[o]? = some .tok) {C : Array Value} {ty : TypeId} (hC : w.heap[g.bk o]? = some (.cells C ty (0, 0)))
    {ys : List PV} {vs : List Value} (hr : RelL g w ys vs) (hn : g.en o + vs.length ≤ C.size) :
    let w' := wput w (g.bk o) (.cells (over C.toList (g.en o) vs).toArray ty (0, 0))
    let g' := g.fast (g.bk o) (g.en o) (g.en o + ys.length) C.size
    Sim g' (H.set o .dead ++ [.tok]) w' ∧ Ext g H w g' (H.set o .dead ++ [.tok]) w' ∧ ImmRow g' w' ⟨g.bk o, g.en o, none⟩ ys := by
  intro w' g'
  have hlt : g.bk o < w.heap.size := own_lt h ⟨o, _, ho, rfl, rfl⟩
  have hol : o < H.length := (List.getElem?_eq_some_iff.1 ho).1
  obtain ⟨_, himm⟩ := h.tok o ho
  have hbl : w'.heap[g.bk o]? = some (.cells (over C.toList (g.en o) vs).toArray ty (0, 0)) := by
    show (wput w _ _).heap[g.bk o]? = _
    rw [wput_get, if_pos rfl, if_pos hlt]
  have hcell : ∀ b q, g.imm b q → w'.cell? ⟨b, q, none⟩ = w.cell? ⟨b, q, none⟩ := by
    intro b q hq
    by_cases hb : g.bk o = b
    · subst hb
      have hqe : q < g.en o := by
        rcases Nat.lt_or_ge q (g.en o) with h | h
        · exact h
        · exact absurd hq (himm q h)
      rw [cell_of_block hbl, cell_of_block hC]
      simp only [List.getElem?_toArray, over, List.append_assoc]
      rw [List.getElem?_append_left (by simp; omega), List.getElem?_take, if_pos hqe, Array.getElem?_toList]
    · exact cell_put_ne w _ b q _ hb
  have hgx : Gext g w g' w' :=
    ⟨by simp [g', Gh.fast], fun o ho => by simp [g', Gh.fast]; omega, fun o ho => by simp [g', Gh.fast]; omega, fun o ho => by simp [g', Gh.fast]; omega, fun _ _ h => .inl h, hcell⟩
  have hset : ∀ (o' : Nat) (ob : Ob), (H.set o .dead)[o']? = some ob → ob.alive = true → H[o']? = some ob ∧ o ≠ o' := by
    intro o' ob h1 h2
    rw [List.getElem?_set] at h1
    by_cases e : o = o'
    · rw [if_pos e] at h1
      (repeat' split at h1) <;> (cases h1; cases h2)
    · rw [if_neg e] at h1; exact ⟨h1, e⟩
  have hlen : (H.set o .dead).length = H.length := by simp
  have hbk : ∀ k, k < H.length → g'.bk k = g.bk k := fun k hk => hgx.bk k (by rw [h.n]; exact hk)
  have hbn : g'.bk H.length = g.bk o := by simp [g', Gh.fast, h.n]
  have hen : g'.en H.length = g.en o + ys.length := by simp [g', Gh.fast, h.n]
  have hszn : g'.sz H.length = C.size := by simp [g', Gh.fast, h.n]
  have hne : ∀ o1 ob1, H[o1]? = some ob1 → ob1.alive = true → o ≠ o1 → ¬ blk g ob1 o1 (g.bk o) := fun o1 ob1 h1 h2 h3 h4 => h3 (h.inj o o1 _ ob1 _ ho h1 rfl h2 rfl h4)
  have hblk : ∀ o ob b, o < H.length → (blk g' ob o b ↔ blk g ob o b) := fun o ob b ho => blk_of (hbk o ho) (fun _ => Iff.rfl) ob b
  refine ⟨⟨by simp [g', Gh.fast, h.n], ?_, ?_, ?_, ?_, ?_⟩, ⟨hgx, by simp [w', wput_size], ?_, ?_, rfl, rfl, rfl, fun _ _ _ h => h.imp id fun k => ⟨o, _, ho, rfl, k.1.symm⟩⟩, rfl, ?_⟩
  · intro o1 o2 ob1 ob2 b h1 h2 h3 h4 h5 h6
    rcases getElem?_snoc _ _ _ _ h1 with ⟨h1, ho1⟩ | ⟨rfl, rfl⟩ <;> rcases getElem?_snoc _ _ _ _ h2 with ⟨h2, ho2⟩ | ⟨rfl, rfl⟩
    · rw [hlen] at ho1 ho2
      exact h.inj o1 o2 ob1 ob2 b (hset _ _ h1 h3).1 (hset _ _ h2 h4).1 h3 h4 ((hblk _ _ _ ho1).1 h5) ((hblk _ _ _ ho2).1 h6)
    · rw [hlen] at ho1 h6
      have h6 : _ = b := h6
      rw [hbn] at h6
      have h5 := (hblk _ _ _ ho1).1 h5
      rw [← h6] at h5
      exact absurd h5 (hne o1 ob1 (hset _ _ h1 h3).1 h3 (hset _ _ h1 h3).2)
    · rw [hlen] at ho2 h5
      have h5 : _ = b := h5
      rw [hbn] at h5
      have h6 := (hblk _ _ _ ho2).1 h6
      rw [← h5] at h6
      exact absurd h6 (hne o2 ob2 (hset _ _ h2 h4).1 h4 (hset _ _ h2 h4).2)
    · rfl
  · intro o1 cs1 h1
    rcases getElem?_snoc _ _ _ _ h1 with ⟨h1, ho1⟩ | ⟨rfl, e⟩
    · obtain ⟨h1, hno⟩ := hset _ _ h1 rfl
      rw [hlen] at ho1
      obtain ⟨⟨C1, ty1, h2, h3⟩, h4⟩ := h.cells o1 cs1 h1
      rw [hbk o1 ho1]
      refine ⟨⟨C1, ty1, ?_, h3.mono hgx⟩, ?_⟩
      · show (wput w _ _).heap[_]? = _
        rw [wput_get, if_neg (fun e => hne o1 _ h1 rfl hno e.symm)]; exact h2
      · rintro q (hq | ⟨hq, _⟩)
        · exact h4 q hq
        · exact absurd hq (hne o1 _ h1 rfl hno)
    · cases e
  · intro o1 h1
    rcases getElem?_snoc _ _ _ _ h1 with ⟨h1, ho1⟩ | ⟨rfl, e⟩
    · obtain ⟨h1, hno⟩ := hset _ _ h1 rfl
      rw [hlen] at ho1
      obtain ⟨⟨C1, ty1, h2, h2'⟩, h4⟩ := h.tok o1 h1
      rw [hbk o1 ho1, hgx.en o1 (by rw [h.n]; exact ho1), hgx.sz o1 (by rw [h.n]; exact ho1)]
      refine ⟨⟨C1, ty1, ?_, h2'⟩, ?_⟩
      · show (wput w _ _).heap[_]? = _
        rw [wput_get, if_neg (fun e => hne o1 _ h1 rfl hno e.symm)]; exact h2
      · rintro q hq (hi | ⟨hi, _⟩)
        · exact h4 q hq hi
        · exact absurd hi (hne o1 _ h1 rfl hno)
    · rw [hlen, hbn, hen, hszn]
      refine ⟨⟨_, _, hbl, by simp only [List.size_toArray]; rw [over_length (by simpa using hn)]; simp⟩, ?_⟩
      rintro q hq (hi | ⟨_, _, hi⟩)
      · exact himm q (by omega) hi
      · omega
  · rintro b q (hq | ⟨rfl, _⟩)
    · show b < (wput w _ _).heap.size
      rw [wput_size]; exact h.imm b q hq
    · show g.bk o < (wput w _ _).heap.size
      rw [wput_size]; exact hlt
  · intro o1 r h1
    rcases getElem?_snoc _ _ _ _ h1 with ⟨h1, ho1⟩ | ⟨rfl, e⟩
    · obtain ⟨h1, hno⟩ := hset _ _ h1 rfl
      rw [hlen] at ho1
      have h2 := (h.abs o1 r h1).2.2
      refine h.absKeep h1 hgx (hbk o1 ho1) (fun _ => Iff.rfl) (fun b hb => ?_) ?_ (by simp [w', wput_size]) ?_
      · show (wput w _ _).heap[_]? = _
        rw [wput_get, if_neg (fun e => hne o1 _ h1 rfl hno (by rw [e]; exact hb))]
      · rintro b q hb (hq | ⟨rfl, _⟩)
        · exact (h2 b hb).2 q hq
        · exact hne o1 _ h1 rfl hno hb
      · rintro b q (hq | ⟨rfl, _⟩)
        · show b < (wput w _ _).heap.size
          rw [wput_size]; exact h.imm b q hq
        · show g.bk o < (wput w _ _).heap.size
          rw [wput_size]; exact hlt
    · cases e
  · rintro b hb ⟨o1, ob1, h1, h2, h3⟩
    rcases getElem?_snoc _ _ _ _ h1 with ⟨h1, ho1⟩ | ⟨rfl, rfl⟩
    · rw [hlen] at ho1
      exact ⟨o1, ob1, (hset _ _ h1 h2).1, h2, (hblk _ _ _ ho1).1 h3⟩
    · have h3 : _ = b := h3
      rw [hlen, hbn] at h3
      exact ⟨o, _, ho, rfl, h3⟩
  · intro b _ hb
    show (wput w _ _).heap[b]? = _
    rw [wput_get, if_neg]
    intro e; exact hb ⟨o, _, ho, rfl, e⟩
  · intro q x hx
    have hq : q < ys.length := (List.getElem?_eq_some_iff.1 hx).1
    obtain ⟨v, hv, hrel⟩ := hr.get hx
    refine ⟨.inr ⟨rfl, by simp, by simpa using hq⟩, v, ?_, hrel.mono hgx⟩
    simp only [At]
    rw [cell_of_block hbl]
    have hvl : q < vs.length := by rw [← hr.1]; exact hq
    simp only [List.getElem?_toArray, over, List.append_assoc]
    rw [List.getElem?_append_right (by simp; omega)]
    have : g.en o + q - (List.take (g.en o) C.toList).length = q := by simp; omega
    rw [this, List.getElem?_append_left hvl]; exact hv

end Go.AM
