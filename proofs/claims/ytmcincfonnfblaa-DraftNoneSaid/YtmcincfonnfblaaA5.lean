/-
  An abstract machine over values without memory, proved against the model; part 5. A tool for the proofs of this claim; it states nothing of the program.
-/
import Derived.Test.YtmcincfonnfblaaA4
import Derived.Laws.StructEq
/-! AM, part 5: arithmetic, comparisons, conversions. -/
namespace Go.AM
open Go

def scal : PV → PV → Option Bool
  | .int k a, .int k' b => if k = k' then some (a == b) else none
  | .bool a, .bool b => some (a == b)
  | .str a, .str b => some (a == b)
  | _, _ => none

def eqCells : List PV → List PV → Option Bool
  | [], [] => some true
  | x :: xs, y :: ys => match scal x y with
    | some b => match eqCells xs ys with
      | some c => some (b && c)
      | none => none
    | none => none
  | _, _ => none

theorem eqCells_append {a b c d : List PV} (h : a.length = c.length) {r : Bool} (he : eqCells (a ++ b) (c ++ d) = some r) : ∃ r1 r2, eqCells a c = some r1 ∧ eqCells b d = some r2 ∧ r = (r1 && r2) := by
  induction a generalizing c r with
  | nil =>
    cases c with
    | nil => exact ⟨true, r, rfl, he, by simp⟩
    | cons y c => simp at h
  | cons x a ih =>
    cases c with
    | nil => simp at h
    | cons y c =>
      simp only [List.cons_append, eqCells] at he ⊢
      split at he
      · rename_i b1 hb
        split at he
        · rename_i c1 hc
          obtain ⟨r1, r2, h1, h2, h3⟩ := ih (by simpa using h) hc
          simp only [h1]
          exact ⟨b1 && r1, r2, rfl, h2, by cases he; rw [h3, Bool.and_assoc]⟩
        · cases he
      · cases he

/-- types whose cells are numbers, bools and strings, each named, none left out -/
def flatF (P : Program) (rec : TypeId → Option Nat) : List Field → Nat → Option Nat
  | [], n => some n
  | f :: fs, n => if f.name = "_" ∨ f.offset ≠ n then none else match rec f.type, tyA P f.type with
    | some m, some (_, sz) => if sz = m then flatF P rec fs (n + m) else none
    | _, _ => none

def flatT (P : Program) : Nat → TypeId → Option Nat
  | 0, _ => none
  | d + 1, t => match P.underlying t with
    | some (.int _) => if tyA P t = some (false, 1) then some 1 else none
    | some .bool => if tyA P t = some (false, 1) then some 1 else none
    | some .string => if tyA P t = some (false, 1) then some 1 else none
    | some (.struct fs) => if P.stoodInHeld t then none else if (tyA P t).map (·.1) = some true then flatF P (flatT P d) fs.toList 0 else none
    | _ => none

/-- the value of so many cells -/
def valOf (b : Bool) (vs : List Value) : Value := if b then .agg vs.toArray else vs.headD undef

def kindOf (P : Program) (t : TypeId) : PV → Prop
  | .int _ _ => ∃ k, P.underlying t = some (.int k)
  | .bool _ => P.underlying t = some .bool
  | .str _ => P.underlying t = some .string
  | _ => True

theorem scal_run {P : Program} {g : Gh} {w : World} {x y : PV} {v u : Value} (hx : Rel g w x v) (hy : Rel g w y u) {r : Bool} (h : scal x y = some r) {t : TypeId} (d : Nat) (hk : kindOf P t x) :
    (Op.equalIn (d + 1) t v u).run P w = .ok r w := by
  cases hx <;> cases hy <;> simp only [scal, reduceCtorEq, Option.some.injEq] at h
  · subst h; exact run_equalIn_bool' w d t _ _ hk
  · split at h
    · rename_i e; subst e; cases h
      obtain ⟨k'', hk⟩ := hk
      exact run_equalIn_int w d t _ k'' _ _ hk
    · cases h
  · subst h
    rw [run_equalIn_string w d t _ _ hk, beq_toListBytes]

/-- do the cells fit the type: numbers where numbers are wanted -/
def fitF (P : Program) (rec : TypeId → List PV → Bool) : List Field → List PV → Bool
  | [], _ => true
  | f :: fs, cs => match tyA P f.type with
    | some (_, sz) => rec f.type (cs.take sz) && fitF P rec fs (cs.drop sz)
    | none => false

def fitT (P : Program) : Nat → TypeId → List PV → Bool
  | 0, _, _ => false
  | d + 1, t, cs => match P.underlying t with
    | some (.int _) => match cs with | [.int _ _] => true | _ => false
    | some .bool => match cs with | [.bool _] => true | _ => false
    | some .string => match cs with | [.str _] => true | _ => false
    | some (.struct fs) => fitF P (fitT P d) fs.toList cs
    | _ => false

theorem eqCells_length {xs ys : List PV} {r : Bool} (h : eqCells xs ys = some r) : xs.length = ys.length := by
  induction xs generalizing ys r with
  | nil => cases ys with
    | nil => rfl
    | cons y ys => simp [eqCells] at h
  | cons x xs ih => cases ys with
    | nil => simp [eqCells] at h
    | cons y ys =>
      simp only [eqCells] at h
      split at h
      · split at h
        · rename_i hc; simp [ih hc]
        · cases h
      · cases h

theorem eq_fields {P : Program} {g : Gh} {w : World} {d D : Nat}
    (ih : ∀ (t : TypeId) (n : Nat) (b : Bool) (sz : Nat), flatT P d t = some n → tyA P t = some (b, sz) → sz = n → ∀ (xs ys : List PV) (vs us : List Value) (r : Bool), RelL g w xs vs → RelL g w ys us → xs.length = n → fitT P d t xs = true →
      eqCells xs ys = some r → (Op.equalIn D t (valOf b vs) (valOf b us)).run P w = .ok r w) (V U : Array Value) :
    ∀ (fs : List Field) (n N : Nat) (xs ys : List PV) (r : Bool), flatF P (flatT P d) fs n = some N → N = V.size → N = U.size → RelL g w xs (V.toList.drop n) → RelL g w ys (U.toList.drop n) → fitF P (fitT P d) fs xs = true →
      eqCells xs ys = some r → (Op.eqFields D V U fs).run P w = .ok r w := by
  intro fs
  induction fs with
  | nil =>
    intro n N xs ys r hf hN hU hx hy _ he
    simp only [flatF, Option.some.injEq] at hf
    subst hf
    have h0 : xs = [] := by
      have := hx.1; simp at this; exact List.length_eq_zero_iff.1 (by omega)
    have h1 : ys = [] := by
      have := hy.1; simp at this; exact List.length_eq_zero_iff.1 (by omega)
    subst h0; subst h1
    simp only [eqCells, Option.some.injEq] at he
    subst he
    rfl
  | cons f fs ihf =>
    intro n N xs ys r hf hN hU hx hy hfit he
    simp only [flatF] at hf
    split at hf
    · cases hf
    rename_i hname
    split at hf
    · rename_i m b sz hrec hty
      split at hf
      · rename_i hsz
        subst hsz
        have hge : n + sz ≤ N := by
          clear ihf hfit he hx hy
          generalize n + sz = q at hf ⊢
          induction fs generalizing q with
          | nil => simp only [flatF, Option.some.injEq] at hf; omega
          | cons f' fs' ih' =>
            simp only [flatF] at hf
            split at hf
            · cases hf
            · split at hf
              · split at hf
                · have := ih' _ hf; omega
                · cases hf
              · cases hf
        have hoff : f.offset = n := by
          rcases Decidable.em (f.offset = n) with e | e
          · exact e
          · exact absurd (.inr e) hname
        have hnm : f.name ≠ "_" := fun e => hname (.inl e)
        have hxl : xs.length = N - n := by have := hx.1; simp at this; omega
        have hyl : ys.length = N - n := by have := hy.1; simp at this; omega
        have e1 : xs = xs.take sz ++ xs.drop sz := (List.take_append_drop sz xs).symm
        have e2 : ys = ys.take sz ++ ys.drop sz := (List.take_append_drop sz ys).symm
        rw [e1, e2] at he
        obtain ⟨r1, r2, h1, h2, h3⟩ := eqCells_append (by simp; omega) he
        simp only [fitF, hty, Bool.and_eq_true] at hfit
        have hpart : ∀ (A : Array Value), N = A.size → (part f.type A f.offset).run P w = .ok (valOf b ((A.toList.drop n).take sz)) w := by
          intro A hA
          unfold part
          rw [Sem.run_bind, run_isAgg hty]
          simp only [Result.andThen_ok, hoff, valOf]
          cases b with
          | true =>
            simp only [if_true]
            rw [Sem.run_bind, run_sizeOf hty]
            simp only [Result.andThen_ok, Sem.run_pure]
            congr 2
            apply Array.ext'
            simp
          | false =>
            have hs1 : sz = 1 ∨ sz ≠ 1 := Decidable.em _
            simp only [Bool.false_eq_true, if_false]
            by_cases h0 : sz = 0
            · exfalso
              subst h0
              -- a flat type has a cell
              revert hrec hfit
              clear ihf
              cases d with
              | zero => intro hrec; simp [flatT] at hrec
              | succ d =>
                intro hrec
                simp only [flatT] at hrec
                split at hrec <;> first | (cases hrec; done) | skip
                · split at hrec <;> simp at hrec
                · split at hrec <;> simp at hrec
                · split at hrec <;> simp at hrec
                · split at hrec
                  · cases hrec
                  · split at hrec
                    · rename_i hagg; rw [hty] at hagg; simp at hagg
                    · cases hrec
            · have hlt : n < A.size := by omega
              rw [Array.getElem?_eq_getElem hlt]
              simp only [Sem.run_pure]
              congr 1
              have : (A.toList.drop n).take sz = A[n] :: ((A.toList.drop (n + 1)).take (sz - 1)) := by
                rw [List.drop_eq_getElem_cons (by simpa using hlt)]
                obtain ⟨k, rfl⟩ : ∃ k, sz = k + 1 := ⟨sz - 1, by omega⟩
                simp
              rw [this]; rfl
        have hcmp := ih f.type sz b sz hrec hty rfl (xs.take sz) (ys.take sz) ((V.toList.drop n).take sz) ((U.toList.drop n).take sz) r1 (hx.take sz) (hy.take sz) (by simp; omega) hfit.1 h1
        have hrest := ihf (n + sz) N (xs.drop sz) (ys.drop sz) r2 hf hN hU (by have := hx.drop sz; simpa [List.drop_drop] using this) (by have := hy.drop sz; simpa [List.drop_drop] using this) hfit.2 h2
        unfold Op.eqFields
        rw [if_pos hnm]
        simp only [Sem.run_bind, hpart V hN, hpart U hU, Result.andThen_ok, hcmp]
        cases r1 with
        | true => simp only [Bool.not_true, Bool.false_eq_true, if_false, hrest]; rw [h3]; simp
        | false => simp [h3]
      · cases hf
    · cases hf

theorem eq_flat {P : Program} {g : Gh} {w : World} : ∀ (d D : Nat), d ≤ D → ∀ (t : TypeId) (n : Nat) (b : Bool) (sz : Nat), flatT P d t = some n → tyA P t = some (b, sz) → sz = n →
    ∀ (xs ys : List PV) (vs us : List Value) (r : Bool), RelL g w xs vs → RelL g w ys us → xs.length = n → fitT P d t xs = true →
      eqCells xs ys = some r → (Op.equalIn D t (valOf b vs) (valOf b us)).run P w = .ok r w := by
  intro d
  induction d with
  | zero => intro D _ t n b sz hf; simp [flatT] at hf
  | succ d ih =>
    intro D hD t n b sz hf hty hsz xs ys vs us r hx hy hn hfit he
    obtain ⟨D, rfl⟩ : ∃ k, D = k + 1 := ⟨D - 1, by omega⟩
    have leaf : ∀ (hb : tyA P t = some (false, 1)) (x : PV), xs = [x] → kindOf P t x →
        (Op.equalIn (D + 1) t (valOf b vs) (valOf b us)).run P w = .ok r w := by
      intro hb x hxs hk
      rw [hb] at hty
      simp only [Option.some.injEq, Prod.mk.injEq] at hty
      obtain ⟨rfl, rfl⟩ := hty
      subst hxs
      have hyl := eqCells_length he
      obtain ⟨y, rfl⟩ : ∃ y, ys = [y] := by
        cases ys with
        | nil => simp at hyl
        | cons y ys => cases ys with
          | nil => exact ⟨y, rfl⟩
          | cons z zs => simp at hyl
      obtain ⟨v, rfl⟩ : ∃ v, vs = [v] := by
        have := hx.1
        cases vs with
        | nil => simp at this
        | cons v vs => cases vs with
          | nil => exact ⟨v, rfl⟩
          | cons z zs => simp at this
      obtain ⟨u, rfl⟩ : ∃ u, us = [u] := by
        have := hy.1
        cases us with
        | nil => simp at this
        | cons v vs => cases vs with
          | nil => exact ⟨v, rfl⟩
          | cons z zs => simp at this
      simp only [valOf, Bool.false_eq_true, if_false, List.headD_cons]
      have hsc : scal x y = some r := by
        simp only [eqCells] at he
        split at he
        · rename_i b1 hb1; simp at he; rw [hb1, he]
        · cases he
      exact scal_run (hx.2 0 x v rfl rfl) (hy.2 0 y u rfl rfl) hsc D hk
    have hfit0 := hfit
    simp only [flatT] at hf
    simp only [fitT] at hfit
    split at hf
    · rename_i k hu
      split at hf
      · rename_i hb
        rw [hu] at hfit
        simp only at hfit
        split at hfit
        · exact leaf hb _ rfl ⟨k, hu⟩
        · cases hfit
      · cases hf
    · rename_i hu
      split at hf
      · rename_i hb
        rw [hu] at hfit
        simp only at hfit
        split at hfit
        · exact leaf hb _ rfl hu
        · cases hfit
      · cases hf
    · rename_i hu
      split at hf
      · rename_i hb
        rw [hu] at hfit
        simp only at hfit
        split at hfit
        · exact leaf hb _ rfl hu
        · cases hfit
      · cases hf
    · rename_i fs hu
      rw [hu] at hfit
      simp only at hfit
      split at hf
      · cases hf
      · rename_i hst
        split at hf
        · rename_i hagg
          rw [hty] at hagg
          simp only [Option.map_some, Option.some.injEq] at hagg
          subst hagg
          simp only [valOf, if_true]
          have hfo : P.fieldsOf t = fs := by simp [Program.fieldsOf, hu]
          rw [run_equalIn_struct w D t _ _ (by rw [hfo]; exact hu) (by simpa using hst), hfo]
          have hvl : n = vs.toArray.size := by have := hx.1; simp; omega
          have hul : n = us.toArray.size := by have := hy.1; have := eqCells_length he; simp; omega
          exact eq_fields (fun t n b sz h1 h2 h3 => ih D (by omega) t n b sz h1 h2 h3) vs.toArray us.toArray fs.toList 0 n xs ys r hf hvl hul (by simpa using hx) (by simpa using hy) hfit he
        · cases hf
    · cases hf

end Go.AM
