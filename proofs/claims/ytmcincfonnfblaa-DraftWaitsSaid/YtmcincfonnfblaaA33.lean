/-
  An abstract machine over values without memory, proved against the model; part 33. A tool for the proofs of this claim; it states nothing of the program.
-/
import Derived.Test.YtmcincfonnfblaaA32
/-! AM, part 33: wholes of blocks, told by what holds of their objects. -/
namespace Go.AM
open Go

/-- spare room behind a list is let go -/
def noTok (h : Heap) : Heap := h.map fun ob => match ob with
  | .tok => .dead
  | ob => ob

theorem noTok_length (h : Heap) : (noTok h).length = h.length := by simp [noTok]
theorem noTok_get {h : Heap} {o : Nat} {ob : Ob} (ho : (noTok h)[o]? = some ob) : ob = .dead ∨ (h[o]? = some ob ∧ ob ≠ .tok) := by
  simp only [noTok, List.getElem?_map, Option.map_eq_some_iff] at ho
  obtain ⟨a, h1, h2⟩ := ho
  cases a <;> simp only at h2 <;> subst h2
  · exact .inr ⟨h1, fun e => by cases e⟩
  · exact .inl rfl
  · exact .inl rfl
  · exact .inr ⟨h1, fun e => by cases e⟩

theorem Sim.noTok {g : Gh} {h : Heap} {w : World} (hS : Sim g h w) : Sim g (noTok h) w := by
  have live : ∀ {o : Nat} {ob : Ob}, (AM.noTok h)[o]? = some ob → ob.alive = true → h[o]? = some ob := fun ho ha => by
    rcases noTok_get ho with rfl | ⟨k, _⟩
    · cases ha
    · exact k
  refine ⟨by rw [noTok_length]; exact hS.n, fun o o' ob ob' b h1 h2 h3 h4 h5 h6 => hS.inj o o' ob ob' b (live h1 h3) (live h2 h4) h3 h4 h5 h6, fun o cs h1 => hS.cells o cs (live h1 rfl), fun o h1 => ?_, hS.imm, fun o r h1 => hS.abs o r (live h1 rfl)⟩
  rcases noTok_get h1 with e | ⟨_, k⟩
  · cases e
  · exact absurd rfl k

theorem own_noTok {g : Gh} {h : Heap} {b : Nat} (ho : own g (noTok h) b) : own g h b := by
  obtain ⟨o, ob, h1, h2, h3⟩ := ho
  rcases noTok_get h1 with rfl | ⟨k, _⟩
  · cases h2
  · exact ⟨o, ob, k, h2, h3⟩

/-- no spare room in sight -/
def NoTok (h : Heap) : Prop := ∀ o : Nat, h[o]? ≠ some Ob.tok

theorem noTok_no (h : Heap) : NoTok (noTok h) := fun o ho => by
  rcases noTok_get ho with e | ⟨_, k⟩
  · cases e
  · exact k rfl

theorem own_fresh {g : Gh} {h : Heap} {w : World} (hS : Sim g h w) (hn : NoTok h) {b : Nat} (hb : own g h b) (q : Nat) : ¬ g.imm b q := by
  obtain ⟨o, ob, h1, h2, h3⟩ := hb
  cases ob with
  | cells cs => have h3 : g.bk o = b := h3; subst h3; exact (hS.cells o cs h1).2 q
  | tok => exact absurd h1 (hn o)
  | dead => cases h2
  | abs r => exact ((hS.abs o r h1).2.2 b h3).2 q

/-- what holds of objects, the first of which is its root -/
def whole (I : Heap → Prop) : Rep where
  R := fun w imm b F => ∃ (g : Gh) (h : Heap), I h ∧ Sim g h w ∧ NoTok h ∧ g.imm = imm ∧ (∃ cs, h[0]? = some (.cells cs)) ∧ g.bk 0 = b ∧ ∀ k, F k ↔ own g h k
  st := by
    rintro w w' imm imm' b F ⟨g, h, h1, h2, h3, rfl, h5, h6, h7⟩ hfr him hc hni hsz hbd
    let g' : Gh := { g with imm := imm' }
    have hgx : Gext g w g' w' := ⟨Nat.le_refl _, fun _ _ => rfl, fun _ _ => rfl, fun _ _ => rfl, him, hc⟩
    have hb : ∀ ob o k, blk g' ob o k ↔ blk g ob o k := fun ob o k => blk_of rfl (fun _ => Iff.rfl) ob k
    have hin : ∀ {o : Nat} {ob : Ob} {k : Nat}, h[o]? = some ob → ob.alive = true → blk g ob o k → F k := fun k1 k2 k3 => (h7 _).2 ⟨_, _, k1, k2, k3⟩
    refine ⟨g', h, h1, ⟨h2.n, fun o o' ob ob' k k1 k2 k3 k4 k5 k6 => h2.inj o o' ob ob' k k1 k2 k3 k4 ((hb _ _ _).1 k5) ((hb _ _ _).1 k6), fun o cs k1 => ?_, fun o k1 => absurd k1 (h3 o), hbd, fun o r k1 => ?_⟩, h3, rfl, h5, h6, fun k => (h7 k).trans ⟨fun ⟨o, ob, k1, k2, k3⟩ => ⟨o, ob, k1, k2, (hb _ _ _).2 k3⟩, fun ⟨o, ob, k1, k2, k3⟩ => ⟨o, ob, k1, k2, (hb _ _ _).1 k3⟩⟩⟩
    · obtain ⟨⟨C, ty, e1, e2⟩, e3⟩ := h2.cells o cs k1
      have hF := hin k1 rfl rfl
      exact ⟨⟨C, ty, (hfr _ hF).trans e1, e2.mono hgx⟩, fun q => hni _ q hF⟩
    · exact h2.absKeep k1 hgx rfl (fun _ => Iff.rfl) (fun k hk => hfr k (hin k1 rfl hk)) (fun k q hk => hni k q (hin k1 rfl hk)) hsz hbd

/-- the root stands -/
def Root (h : Heap) : Prop := ∃ cs, h[0]? = some (.cells cs)
theorem root_of {cs : List PV} {t : Heap} : Root (.cells cs :: t) := ⟨cs, rfl⟩
theorem Root.noTok {h : Heap} (hr : Root h) : Root (noTok h) := by
  obtain ⟨cs, h1⟩ := hr
  exact ⟨cs, by simp [AM.noTok, h1]⟩

/-- A WHOLE IS OPENED for a call, and shut behind it -/
theorem acalls_open {P : Program} {gl : Glob} (hgl : GlobLow gl) {f : FuncId} {args : List PV} {I : Heap → Prop} {K : PV → Heap → Prop} (hargs : ∀ x ∈ args, Low 0 x ∨ ∃ off, x = .ptr 0 off)
    (h : ∀ hh, I hh → Root hh → ACalls P gl f args hh (fun x H' => ∃ I' : Heap → Prop, I' (noTok H') ∧ Root H' ∧ (Low 0 x ∨ ∃ off, x = .ptr 0 off) ∧ K x [.abs (whole I')])) : ACalls P gl f args [.abs (whole I)] K := by
  intro g w vs hS hG hR
  obtain ⟨⟨g0, hh, h1, h2, h3, h4, h5, h6, h7⟩, h8, h9⟩ := hS.abs 0 _ rfl
  have hn0 : 0 < hh.length := by obtain ⟨cs, e⟩ := h5; exact (List.getElem?_eq_some_iff.1 e).1
  have hgn : g.n = 1 := hS.n
  have toR : ∀ {x : PV} {v : Value}, (Low 0 x ∨ ∃ off, x = .ptr 0 off) → Rel g w x v → Rel g0 w x v := by
    rintro x v (hl | ⟨off, rfl⟩) hr
    · exact low_cong hr hl h4
    · cases hr
      rw [← h6]; exact .ptr 0 off (by rw [h2.n]; exact hn0)
  have hG0 : GlobOk g0 w gl := fun k cs hk => by
    refine ⟨(hG k cs hk).1, fun q x hx => ?_⟩
    obtain ⟨k1, c, k2, k3⟩ := (hG k cs hk).2 q x hx
    exact ⟨by rw [h4]; exact k1, c, k2, low_cong k3 (hgl k cs hk x (List.mem_iff_getElem?.2 ⟨q, hx⟩)) h4⟩
  refine (h hh h1 h5 g0 w vs h2 hG0 ⟨hR.1, fun q x v hx hv => toR (hargs x (List.mem_iff_getElem?.2 ⟨q, hx⟩)) (hR.2 q x v hx hv)⟩).mono ?_
  rintro e w' ⟨v, g1, H', x, rfl, hS1, hX, hv, I', hI, hroot, hlow, hk⟩
  have hn1 : 0 < H'.length := by obtain ⟨cs, e⟩ := hroot; exact (List.getElem?_eq_some_iff.1 e).1
  have hbk1 : g1.bk 0 = g.bk 0 := (hX.gx.bk 0 (by rw [h2.n]; exact hn0)).trans h6
  let g2 : Gh := ⟨1, fun _ => g1.bk 0, g.en, g.sz, g1.imm, fun _ => own g1 (noTok H')⟩
  have hSn := hS1.noTok
  obtain ⟨cs0, hcs0⟩ := hroot.noTok
  have own2 : ∀ b, own g2 [.abs (whole I')] b ↔ own g1 (noTok H') b := fun b => by
    constructor
    · rintro ⟨o, ob, k1, k2, k3⟩
      have : o = 0 := by have := (List.getElem?_eq_some_iff.1 k1).1; simpa using this
      subst this
      cases k1
      exact k3
    · intro k; exact ⟨0, _, rfl, rfl, k⟩
  have own0 : ∀ b, own g0 hh b → own g [.abs (whole I)] b := fun b k => ⟨0, _, rfl, rfl, (h7 b).2 k⟩
  have hgx : Gext g w g2 w' := by
    refine ⟨by rw [hgn]; exact Nat.le_refl _, fun o ho => ?_, fun _ _ => rfl, fun _ _ => rfl, fun b q k => ?_, fun b q k => ?_⟩
    · have : o = 0 := by omega
      subst this; exact hbk1
    · exact hX.gx.imm b q (by rw [h4]; exact k)
    · exact hX.gx.cell b q (by rw [h4]; exact k)
  refine ⟨v, g2, [.abs (whole I')], x, rfl, ?_, ?_, ?_, hk⟩
  · refine ⟨rfl, fun o o' ob ob' b k1 k2 _ _ _ _ => ?_, fun o cs k1 => ?_, fun o k1 => ?_, hS1.imm, fun o r k1 => ?_⟩
    · have e1 := (List.getElem?_eq_some_iff.1 k1).1
      have e2 := (List.getElem?_eq_some_iff.1 k2).1
      simp at e1 e2; omega
    · have e1 := (List.getElem?_eq_some_iff.1 k1).1
      have : o = 0 := by simpa using e1
      subst this; cases k1
    · have e1 := (List.getElem?_eq_some_iff.1 k1).1
      have : o = 0 := by simpa using e1
      subst this; cases k1
    · have e1 := (List.getElem?_eq_some_iff.1 k1).1
      have : o = 0 := by simpa using e1
      subst this
      cases k1
      exact ⟨⟨g1, noTok H', hI, hSn, noTok_no _, rfl, ⟨cs0, hcs0⟩, rfl, fun _ => Iff.rfl⟩, ⟨0, _, hcs0, rfl, rfl⟩, fun b hb => ⟨own_lt hSn hb, fun q => own_fresh hSn (noTok_no _) hb q⟩⟩
  · exact ⟨hgx, hX.size, fun b hb ho => own0 b (hX.ow b hb (own_noTok ((own2 b).1 ho))), fun b hb ho => hX.frame b hb (fun k => ho (own0 b k)), hX.os, hX.tape, hX.output,
      fun b q hb hi => (hX.im b q hb hi).elim (fun k => .inl (by rw [← h4]; exact k)) (fun k => .inr (own0 b k))⟩
  · rcases hlow with hl | ⟨off, rfl⟩
    · exact low_cong hv hl rfl
    · cases hv
      exact .ptr (g := g2) 0 off Nat.zero_lt_one

/-- A CALL MAKES A WHOLE -/
theorem acalls_shut {P : Program} {gl : Glob} {f : FuncId} {args : List PV} {K : PV → Heap → Prop}
    (h : ACalls P gl f args [] (fun x H' => ∃ I' : Heap → Prop, I' (noTok H') ∧ Root H' ∧ (∃ off, x = .ptr 0 off) ∧ K x [.abs (whole I')])) : ACalls P gl f args [] K := by
  intro g w vs hS hG hR
  refine (h g w vs hS hG hR).mono ?_
  rintro e w' ⟨v, g1, H', x, rfl, hS1, hX, hv, I', hI, hroot, ⟨off, rfl⟩, hk⟩
  have hn1 : 0 < H'.length := by obtain ⟨cs, e⟩ := hroot; exact (List.getElem?_eq_some_iff.1 e).1
  have hgn : g.n = 0 := hS.n
  let g2 : Gh := ⟨1, fun _ => g1.bk 0, g.en, g.sz, g1.imm, fun _ => own g1 (noTok H')⟩
  have hSn := hS1.noTok
  obtain ⟨cs0, hcs0⟩ := hroot.noTok
  have own2 : ∀ b, own g2 [.abs (whole I')] b ↔ own g1 (noTok H') b := fun b => by
    constructor
    · rintro ⟨o, ob, k1, k2, k3⟩
      have : o = 0 := by have := (List.getElem?_eq_some_iff.1 k1).1; simpa using this
      subst this
      cases k1
      exact k3
    · intro k; exact ⟨0, _, rfl, rfl, k⟩
  have hgx : Gext g w g2 w' := ⟨by rw [hgn]; exact Nat.zero_le _, fun o ho => absurd ho (by rw [hgn]; exact Nat.not_lt_zero _), fun _ _ => rfl, fun _ _ => rfl, hX.gx.imm, hX.gx.cell⟩
  refine ⟨v, g2, [.abs (whole I')], _, rfl, ?_, ?_, ?_, hk⟩
  · refine ⟨rfl, fun o o' ob ob' b k1 k2 _ _ _ _ => ?_, fun o cs k1 => ?_, fun o k1 => ?_, hS1.imm, fun o r k1 => ?_⟩
    · have e1 := (List.getElem?_eq_some_iff.1 k1).1
      have e2 := (List.getElem?_eq_some_iff.1 k2).1
      simp at e1 e2; omega
    · have e1 := (List.getElem?_eq_some_iff.1 k1).1
      have : o = 0 := by simpa using e1
      subst this; cases k1
    · have e1 := (List.getElem?_eq_some_iff.1 k1).1
      have : o = 0 := by simpa using e1
      subst this; cases k1
    · have e1 := (List.getElem?_eq_some_iff.1 k1).1
      have : o = 0 := by simpa using e1
      subst this
      cases k1
      exact ⟨⟨g1, noTok H', hI, hSn, noTok_no _, rfl, ⟨cs0, hcs0⟩, rfl, fun _ => Iff.rfl⟩, ⟨0, _, hcs0, rfl, rfl⟩, fun b hb => ⟨own_lt hSn hb, fun q => own_fresh hSn (noTok_no _) hb q⟩⟩
  · exact ⟨hgx, hX.size, fun b hb ho => hX.ow b hb (own_noTok ((own2 b).1 ho)), fun b hb ho => hX.frame b hb ho, hX.os, hX.tape, hX.output, hX.im⟩
  · cases hv
    exact .ptr (g := g2) 0 off Nat.zero_lt_one

/-- A METHOD OF A WHOLE, amid other objects -/
theorem acalls_method {P : Program} {gl : Glob} (hgl : GlobLow gl) {f : FuncId} {args0 args : List PV} {H : Heap} {o : Nat} {I : Heap → Prop} {K : PV → Heap → Prop} (ho : H[o]? = some (.abs (whole I)))
    (hargs0 : ∀ x ∈ args0, Low 0 x ∨ ∃ off, x = .ptr 0 off) (hargs : RenL (fun _ => o) 1 args0 args)
    (h : ∀ hh, I hh → Root hh → ACalls P gl f args0 hh (fun x H' => ∃ I' : Heap → Prop, I' (noTok H') ∧ Root H' ∧ Low 0 x ∧ K x (H.set o (.abs (whole I'))))) : ACalls P gl f args H K := by
  have hol : o < H.length := (List.getElem?_eq_some_iff.1 ho).1
  have hsub : Sub (fun _ => o) [.abs (whole I)] H := by
    refine ⟨fun _ _ => hol, fun a b h1 h2 _ => ?_, fun j a h1 => ?_⟩
    · simp at h1 h2; omega
    · have e1 := (List.getElem?_eq_some_iff.1 h1).1
      have : j = 0 := by simpa using e1
      subst this; cases h1
      exact ⟨_, ho, .abs _⟩
  refine acalls_frame hgl hsub hargs (acalls_open hgl hargs0 fun hh h1 h2 => ?_)
  intro g w vs hS hG hR
  refine (h hh h1 h2 g w vs hS hG hR).mono ?_
  rintro e w' ⟨v, g', H', x, rfl, hS', hX, hv, I', k1, k2, k3, k4⟩
  refine ⟨v, g', H', x, rfl, hS', hX, hv, I', k1, k2, .inl k3, x, H.set o (.abs (whole I')), ⟨Nat.le_refl _, by simp, fun j a h1 => ?_, fun o' h1 h2 => ?_⟩, .low k3, k4⟩
  · have e1 := (List.getElem?_eq_some_iff.1 h1).1
    have : j = 0 := by simpa using e1
    subst this; cases h1
    exact ⟨_, by simp [ρext, hol], .abs _, fun _ => rfl⟩
  · rw [List.getElem?_set_ne]
    exact h2 0 (by simp)

/-- A CALL MAKES A WHOLE, amid other objects -/
theorem acalls_make {P : Program} {gl : Glob} (hgl : GlobLow gl) {f : FuncId} {args : List PV} {H : Heap} {K : PV → Heap → Prop} (hargs : ∀ x ∈ args, Low 0 x)
    (h : ACalls P gl f args [] (fun x H' => ∃ I' : Heap → Prop, I' (noTok H') ∧ Root H' ∧ x = .ptr 0 0 ∧ K (.ptr H.length 0) (H ++ [.abs (whole I')]))) : ACalls P gl f args H K := by
  have hsub : Sub (fun _ => 0) [] H := ⟨fun o h => absurd h (Nat.not_lt_zero _), fun o _ h => absurd h (Nat.not_lt_zero _), fun o a h => by simp at h⟩
  refine acalls_frame hgl hsub (RenL.low hargs) (acalls_shut ?_)
  intro g w vs hS hG hR
  refine (h g w vs hS hG hR).mono ?_
  rintro e w' ⟨v, g', H', x, rfl, hS', hX, hv, I', k1, k2, rfl, k4⟩
  refine ⟨v, g', H', _, rfl, hS', hX, hv, I', k1, k2, ⟨0, rfl⟩, .ptr H.length 0, H ++ [.abs (whole I')], ⟨Nat.zero_le _, by simp, fun j a h1 => ?_, fun o' h1 _ => ?_⟩, ?_, k4⟩
  · have e1 := (List.getElem?_eq_some_iff.1 h1).1
    have : j = 0 := by simpa using e1
    subst this; cases h1
    refine ⟨_, ?_, .abs _, fun _ => rfl⟩
    simp [ρext]
  · rw [List.getElem?_append_left h1]
  · have := Ren.ptr (ρ := ρext (fun _ => 0) ([] : Heap).length H.length) (n := [Ob.abs (whole I')].length) 0 0 (by simp)
    simpa [ρext] using this

#print axioms acalls_method
#print axioms acalls_make
end Go.AM
