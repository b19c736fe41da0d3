/-
  An abstract machine over values without memory, proved against the model; part 14. A tool for the proofs of this claim; it states nothing of the program.
-/
import Derived.Test.YtmcincfonnfblaaA13
/-! AM, part 14: rows of operations whose order is open. -/
namespace Go.AM
open Go

/-- what an operation looks at -/
theorem opw_congr {P : Program} {gl : Glob} {op : Op} {m : Nat} {ρ ρ' : Operand → PV} {H : Heap} {K : PV → Heap → Prop} (hρ : ∀ x ∈ op.operands, ρ x = ρ' x) (h : opw P gl op m ρ H K) : opw P gl op m ρ' H K := by
  have parts : ∀ (ps : Array (Nat × Operand)), (∀ x ∈ (ps.toList.map (·.2)).toArray, ρ x = ρ' x) → (ps.toList.map fun p => (p.1, ρ p.2)) = (ps.toList.map fun p => (p.1, ρ' p.2)) := by
    intro ps hp
    apply List.map_congr_left
    intro p hpm
    rw [hp p.2 (by simp only [List.mem_toArray, List.mem_map]; exact ⟨p, hpm, rfl⟩)]
  cases op <;> simp only [Op.operands] at hρ <;> simp only [opw] at h ⊢
  case move x => rwa [hρ x (by simp)] at h
  case assign x => rwa [hρ x (by simp)] at h
  case pick c a b => rwa [hρ c (by simp), hρ a (by simp), hρ b (by simp)] at h
  case alloc t => exact h
  case box t x => rwa [hρ x (by simp)] at h
  case build t ps => rwa [parts ps hρ] at h
  case buildSlice t l ps => rwa [parts ps hρ] at h
  case load t x => rwa [hρ x (by simp)] at h
  case store t x y => rwa [hρ x (by simp), hρ y (by simp)] at h
  case nilCheck x => rwa [hρ x (by simp)] at h
  case binOp op t x y yt => rwa [hρ x (by simp), hρ y (by simp)] at h
  case unOp op t x => rwa [hρ x (by simp)] at h
  case convert s d x => rwa [hρ x (by simp)] at h
  case makeFunc fn first caps =>
    have : caps.toList.map ρ = caps.toList.map ρ' := List.map_congr_left fun x hx => hρ x (by simp at hx; simp [hx])
    rwa [this] at h
  case makeSlice t l c => rwa [hρ l (by simp), hρ c (by simp)] at h
  case slice t x lo hi mx =>
    have e1 : lo.map ρ = lo.map ρ' := by cases lo with
      | none => rfl
      | some y => simp only [Option.map_some]; rw [hρ y (by simp)]
    have e2 : hi.map ρ = hi.map ρ' := by cases hi with
      | none => rfl
      | some y => simp only [Option.map_some]; rw [hρ y (by simp)]
    have e3 : mx.map ρ = mx.map ρ' := by cases mx with
      | none => rfl
      | some y => simp only [Option.map_some]; rw [hρ y (by simp)]
    rwa [hρ x (by simp), e1, e2, e3] at h
  case fieldAddr s x f => rwa [hρ x (by simp)] at h
  case field s x f => rwa [hρ x (by simp)] at h
  case indexAddr t x i => rwa [hρ x (by simp), hρ i (by simp)] at h
  case index t x i => rwa [hρ x (by simp), hρ i (by simp)] at h
  case extract t i => rwa [hρ t (by simp)] at h
  case call c =>
    have ha : c.args.toList.map ρ = c.args.toList.map ρ' := List.map_congr_left fun x hx => hρ x (by simp at hx; simp [Call.operands, hx])
    unfold callK at h ⊢
    rw [ha] at h
    split at h
    · rename_i f hc
      have : ρ f = ρ' f := hρ f (by simp [Call.operands, hc])
      rwa [this] at h
    · exact h
    · exact h.elim

/-- kinds of operations, as to their order: without memory; a look; a call that leaves all as it was; what lays something new; what changes something -/
inductive Cl where
  | p | l | r | a | w
  deriving DecidableEq

def cl (m : Nat) : Op → Option Cl
  | .move _ | .assign _ | .pick .. | .build .. | .buildSlice .. | .nilCheck _ | .unOp .. | .convert .. | .makeFunc .. | .slice .. | .fieldAddr .. | .field .. | .indexAddr .. | .index .. | .extract .. => some .p
  | .binOp _ _ _ y _ => if isNilSlice y then none else some .p
  | .load .. => some .l
  | .alloc _ | .box .. => some .a
  | .store .. => some .w
  | .call c => match c.callee with
    | .value _ => if m = 5 then some .r else if m = 6 then some .a else if m = 7 then some .w else some .p
    | .builtin b => match b with
      | .len | .cap | .min | .max => some .p
      | .append => if m = 0 then some .p else if m = 1 then some .a else if m = 3 then some .w else if m = 4 then some .a else none
      | .copy | .clear => some .w
      | _ => none
    | _ => none
  | _ => none

/-- the first argument of an append is a list -/
def listFirst : List PV → Bool
  | .list _ _ :: _ => true
  | _ => false

/-- a call that leaves all as it was, whatever there is -/
def PCall (P : Program) (gl : Glob) (f : FuncId) (args : List PV) (r : PV) : Prop := ∀ H, ACalls P gl f args H fun x H' => x = r ∧ H' = H

def keeps (H H' : Heap) : Prop := ∀ (o : Nat) (cs : List PV), H[o]? = some (.cells cs) → H'[o]? = some (.cells cs)

def PCallK (P : Program) (gl : Glob) (f : FuncId) (args : List PV) (m : Nat) (H : Heap) (K : PV → Heap → Prop) : Prop :=
  if m = 6 then ∃ r H', ACalls P gl f args H (fun x H1 => x = r ∧ H1 = H') ∧ keeps H H' ∧ K r H'
  else if m = 7 then ∃ r H', ACalls P gl f args H (fun x H1 => x = r ∧ H1 = H') ∧ K r H'
  else ∃ r, (if m = 5 then ACalls P gl f args H (fun x H' => x = r ∧ H' = H) else PCall P gl f args r) ∧ K r H

/-- one operation in a row whose order is open -/
def opwD (P : Program) (gl : Glob) (op : Op) (m : Nat) (ρ : Operand → PV) (H : Heap) (K : PV → Heap → Prop) : Prop :=
  match op with
  | .call c => match c.callee with
    | .value f => match ρ f with
      | .fn k caps => callable P k = true ∧ PCallK P gl k (c.args.toList.map ρ ++ caps) m H K
      | _ => False
    | .builtin b => (b ≠ .append ∨ listFirst (c.args.toList.map ρ) = true ∨ m = 3) ∧ builtinK P b c.argTypes (c.args.toList.map ρ) m H K
    | _ => False
  | op => opw P gl op m ρ H K


/-- one step, without choice -/
def Step1 (P : Program) (gl : Glob) (op : Op) (m : Nat) (ρ : Operand → PV) (H : Heap) (r : PV) (H' : Heap) : Prop :=
  opw P gl op m ρ H (fun x H1 => x = r ∧ H1 = H') ∧ match cl m op with
    | some .p => H' = H ∧ ∀ H2, opw P gl op m ρ H2 (fun x H1 => x = r ∧ H1 = H2)
    | some .l => H' = H
    | some .r => H' = H
    | some .a => keeps H H'
    | some .w => True
    | none => False

theorem keeps_snoc (H : Heap) (x : Ob) : keeps H (H ++ [x]) := fun o cs h => by
  rw [List.getElem?_append_left (List.getElem?_eq_some_iff.1 h).1]; exact h

theorem keeps_tok {H : Heap} {o : Nat} (ho : H[o]? = some .tok) (x : Ob) : keeps H (H.set o .dead ++ [x]) := fun o' cs h => by
  have hl : o' < H.length := (List.getElem?_eq_some_iff.1 h).1
  rw [List.getElem?_append_left (by simpa using hl), List.getElem?_set]
  by_cases e : o = o'
  · subst e; rw [ho] at h; cases h
  · rw [if_neg e]; exact h

theorem step1_p {P : Program} {gl : Glob} {op : Op} {m : Nat} {ρ : Operand → PV} {H : Heap} {r : PV} (hc : cl m op = some .p) (h : ∀ H2, opw P gl op m ρ H2 (fun x H1 => x = r ∧ H1 = H2)) : Step1 P gl op m ρ H r H :=
  ⟨h H, by rw [hc]; exact ⟨rfl, h⟩⟩

theorem opwD_step {P : Program} {gl : Glob} {op : Op} {m : Nat} {ρ : Operand → PV} {H : Heap} {K : PV → Heap → Prop} (hcl : (cl m op).isSome = true) (h : opwD P gl op m ρ H K) :
    ∃ r H', K r H' ∧ Step1 P gl op m ρ H r H' := by
  have triv : ∀ (r : PV) (H : Heap), r = r ∧ H = H := fun _ _ => ⟨rfl, rfl⟩
  cases op <;> simp only [cl, Option.isSome_none, Bool.false_eq_true] at hcl <;> simp only [opwD, opw] at h
  case move x => exact ⟨_, H, h, step1_p rfl (fun H2 => triv _ _)⟩
  case assign x => exact ⟨_, H, h, step1_p rfl (fun H2 => triv _ _)⟩
  case pick c a b =>
    split at h
    · rename_i t ht; exact ⟨_, H, h, step1_p rfl (fun H2 => by simp only [opw, ht]; exact ⟨trivial, trivial⟩)⟩
    · exact h.elim
  case alloc t =>
    split at h
    · rename_i cs hz
      exact ⟨_, _, h, by simp only [opw, hz]; exact ⟨trivial, trivial⟩, keeps_snoc H _⟩
    · exact h.elim
  case box t x =>
    split at h
    · rename_i cs hz
      exact ⟨_, _, h, by simp only [opw, hz]; exact ⟨trivial, trivial⟩, keeps_snoc H _⟩
    · exact h.elim
  case build t ps =>
    split at h
    · rename_i cs hz; exact ⟨_, H, h, step1_p rfl (fun H2 => by simp only [opw, hz]; exact ⟨trivial, trivial⟩)⟩
    · exact h.elim
  case buildSlice t l ps =>
    split at h
    · rename_i b sz by_ et hel
      split at h
      · rename_i z hz
        obtain ⟨h1, h2, h3, h⟩ := h
        split at h
        · rename_i es he
          exact ⟨_, H, h, step1_p rfl (fun H2 => by simp only [opw, hel, hz, he]; exact ⟨h1, h2, h3, ⟨trivial, trivial⟩⟩)⟩
        · exact h.elim
      · exact h.elim
    · exact h.elim
  case load t x =>
    split at h
    · rename_i cs b sz hb ht
      split at h
      · rename_i y hl
        exact ⟨_, H, h.2, by simp only [opw, hb, ht, hl]; exact ⟨h.1, trivial, trivial⟩, rfl⟩
      · exact h.elim
    · exact h.elim
  case store t x y =>
    split at h
    · rename_i o off b sz xs hx ht hc
      split at h
      · rename_i cs ho
        obtain ⟨h1, h2, h3, h4⟩ := h
        exact ⟨_, _, h4, by simp only [opw, hx, ht, hc, ho]; exact ⟨h1, h2, h3, ⟨trivial, trivial⟩⟩, trivial⟩
      · exact h.elim
    · exact h.elim
  case nilCheck x =>
    split at h
    · rename_i o off hx; exact ⟨_, H, h, step1_p rfl (fun H2 => by simp only [opw, hx]; exact ⟨trivial, trivial⟩)⟩
    · rename_i cs hx; exact ⟨_, H, h, step1_p rfl (fun H2 => by simp only [opw, hx]; exact ⟨trivial, trivial⟩)⟩
    · rename_i f caps hx; exact ⟨_, H, h, step1_p rfl (fun H2 => by simp only [opw, hx]; exact ⟨trivial, trivial⟩)⟩
    · exact h.elim
  case binOp op t x y yt =>
    have hny : isNilSlice y = false := by
      cases hn : isNilSlice y
      · rfl
      · rw [hn] at hcl; simp at hcl
    rw [hny] at h
    simp only [Bool.false_eq_true, if_false] at h
    have intdet : ∀ {k k' : IntKind} {a b : Int} {K : PV → Prop}, intK op k a k' b K → ∃ r, K r ∧ ∀ K' : PV → Prop, K' r → intK op k a k' b K' := by
      intro k k' a b K hk
      cases op <;> simp only [intK] at hk ⊢
      case quo => exact ⟨_, hk.2.2, fun K' hK => ⟨hk.1, hk.2.1, hK⟩⟩
      case rem => exact ⟨_, hk.2.2, fun K' hK => ⟨hk.1, hk.2.1, hK⟩⟩
      all_goals exact ⟨_, hk.2, fun K' hK => ⟨hk.1, hK⟩⟩
    have det : ∀ {x y : PV} {K : PV → Prop}, binK P op t x y K → ∃ r, K r ∧ ∀ K' : PV → Prop, K' r → binK P op t x y K' := by
      intro x y K hk
      unfold binK at hk
      split at hk
      · obtain ⟨r, h1, h2⟩ := intdet hk
        exact ⟨r, h1, fun K' hK => h2 K' hK⟩
      · split at hk
        · exact ⟨_, hk, fun K' hK => hK⟩
        · exact ⟨_, hk, fun K' hK => hK⟩
        · exact hk.elim
      · obtain ⟨ht, hk⟩ := hk
        split at hk
        · exact ⟨_, hk, fun K' hK => ⟨ht, hK⟩⟩
        · exact ⟨_, hk, fun K' hK => ⟨ht, hK⟩⟩
        · exact hk.elim
      · obtain ⟨ht, hk⟩ := hk
        split at hk
        · exact ⟨_, hk, fun K' hK => ⟨ht, hK⟩⟩
        · exact ⟨_, hk, fun K' hK => ⟨ht, hK⟩⟩
        · exact hk.elim
      · obtain ⟨ht, hk⟩ := hk
        split at hk
        · exact ⟨_, hk, fun K' hK => ⟨ht, hK⟩⟩
        · exact ⟨_, hk, fun K' hK => ⟨ht, hK⟩⟩
        · exact hk.elim
      · obtain ⟨ht, hk⟩ := hk
        split at hk
        · exact ⟨_, hk, fun K' hK => ⟨ht, hK⟩⟩
        · exact ⟨_, hk, fun K' hK => ⟨ht, hK⟩⟩
        · exact hk.elim
      · rename_i xs ys
        obtain ⟨h1, h2, h3, h4, hk⟩ := hk
        split at hk
        · rename_i b hb
          split at hk
          · exact ⟨_, hk, fun K' hK => by simp only [binK, hb]; exact ⟨h1, h2, h3, h4, hK⟩⟩
          · exact ⟨_, hk, fun K' hK => by simp only [binK, hb]; exact ⟨h1, h2, h3, h4, hK⟩⟩
          · exact hk.elim
        · exact hk.elim
      · exact hk.elim
    obtain ⟨r, h1, h2⟩ := det h
    exact ⟨r, H, h1, step1_p (by simp [cl, hny]) (fun H2 => by simp only [opw, hny, Bool.false_eq_true, if_false]; exact h2 _ ⟨rfl, trivial⟩)⟩
  case unOp op t x =>
    split at h
    · rename_i y hy; exact ⟨_, H, h, step1_p rfl (fun H2 => by simp only [opw, hy]; exact ⟨trivial, trivial⟩)⟩
    · exact h.elim
  case convert s d x =>
    split at h
    · rename_i y hy; exact ⟨_, H, h, step1_p rfl (fun H2 => by simp only [opw, hy]; exact ⟨trivial, trivial⟩)⟩
    · exact h.elim
  case makeFunc fn first caps =>
    split at h
    · rename_i f
      exact ⟨_, H, h.2, step1_p rfl (fun H2 => by simp only [opw]; exact ⟨h.1, ⟨trivial, trivial⟩⟩)⟩
    · exact h.elim
  case slice t x lo hi mx =>
    split at h
    · rename_i b sz by_ et es tl hel hx
      split at h
      · rename_i l h' m' e1 e2 e3
        obtain ⟨h1, h2, h3, h4, h5, h6, hk⟩ := h
        exact ⟨_, H, hk, step1_p rfl (fun H2 => by simp only [opw, hel, hx, e1, e2, e3]; exact ⟨h1, h2, h3, h4, h5, h6, ⟨trivial, trivial⟩⟩)⟩
      · exact h.elim
    · rename_i b sz by_ et o' off len cap hel hx
      split at h
      · rename_i l h' m' e1 e2 e3
        obtain ⟨h1, h2, h3, h4, h5, hk⟩ := h
        exact ⟨_, H, hk, step1_p rfl (fun H2 => by simp only [opw, hel, hx, e1, e2, e3]; exact ⟨h1, h2, h3, h4, h5, ⟨trivial, trivial⟩⟩)⟩
      · exact h.elim
    · exact h.elim
  case fieldAddr s x f =>
    split at h
    · rename_i off b sz hf
      split at h
      · rename_i y hy; exact ⟨_, H, h, step1_p rfl (fun H2 => by simp only [opw, hf, hy]; exact ⟨trivial, trivial⟩)⟩
      · exact h.elim
    · exact h.elim
  case field s x f =>
    split at h
    · rename_i off b sz cs hf hx
      split at h
      · rename_i y hy; exact ⟨_, H, h, step1_p rfl (fun H2 => by simp only [opw, hf, hx, hy]; exact ⟨trivial, trivial⟩)⟩
      · exact h.elim
    · exact h.elim
  case indexAddr t x i =>
    split at h
    · rename_i b sz by_ et k n hel hi
      split at h
      · rename_i es tl hx
        obtain ⟨h0, h⟩ := h
        split at h
        · rename_i e he
          exact ⟨_, H, h.2.2, step1_p rfl (fun H2 => by simp only [opw, hel, hi, hx, he]; exact ⟨h0, h.1, h.2.1, ⟨trivial, trivial⟩⟩)⟩
        · exact h.elim
      · rename_i o' off len cap hx
        exact ⟨_, H, h.2.2, step1_p rfl (fun H2 => by simp only [opw, hel, hi, hx]; exact ⟨h.1, h.2.1, ⟨trivial, trivial⟩⟩)⟩
      · exact h.elim
    · rename_i mm b sz by_ et k n hel hi
      obtain ⟨h0, h1, h⟩ := h
      split at h
      · rename_i y hy; exact ⟨_, H, h, step1_p rfl (fun H2 => by simp only [opw, hel, hi, hy]; exact ⟨h0, h1, ⟨trivial, trivial⟩⟩)⟩
      · exact h.elim
    · exact h.elim
  case index t x i =>
    split at h
    · rename_i mm b sz by_ et cs k n hel hx hi
      obtain ⟨h0, h1, h⟩ := h
      split at h
      · rename_i y hy; exact ⟨_, H, h, step1_p rfl (fun H2 => by simp only [opw, hel, hx, hi, hy]; exact ⟨h0, h1, ⟨trivial, trivial⟩⟩)⟩
      · exact h.elim
    · exact h.elim
  case extract t i =>
    split at h
    · rename_i vs ht
      split at h
      · rename_i y hy; exact ⟨_, H, h, step1_p rfl (fun H2 => by simp only [opw, ht, hy]; exact ⟨trivial, trivial⟩)⟩
      · exact h.elim
    · exact h.elim
  case call c =>
    split at h
    · rename_i f hc
      split at h
      · rename_i k caps hf
        obtain ⟨hcall, h⟩ := h
        unfold PCallK at h
        by_cases h6 : m = 6
        · rw [if_pos h6] at h
          obtain ⟨r, H', hr, hkp, hk⟩ := h
          refine ⟨r, H', hk, ?_, ?_⟩
          · simp only [opw, callK, hc, hf]; exact .inl ⟨hcall, hr⟩
          · simp only [cl, hc]; rw [if_neg (by omega), if_pos h6]; exact hkp
        rw [if_neg h6] at h
        by_cases h7 : m = 7
        · rw [if_pos h7] at h
          obtain ⟨r, H', hr, hk⟩ := h
          refine ⟨r, H', hk, ?_, ?_⟩
          · simp only [opw, callK, hc, hf]; exact .inl ⟨hcall, hr⟩
          · simp only [cl, hc]; rw [if_neg (by omega), if_neg h6, if_pos h7]; trivial
        rw [if_neg h7] at h
        obtain ⟨r, hr, hk⟩ := h
        by_cases hm : m = 5
        · rw [if_pos hm] at hr
          refine ⟨r, H, hk, ?_, ?_⟩
          · simp only [opw, callK, hc, hf]; exact .inl ⟨hcall, hr⟩
          · simp only [cl, hc]; rw [if_pos hm]; trivial
        · rw [if_neg hm] at hr
          exact ⟨r, H, hk, step1_p (by simp only [cl, hc]; rw [if_neg hm, if_neg h6, if_neg h7]) (fun H2 => by simp only [opw, callK, hc, hf]; exact .inl ⟨hcall, hr H2⟩)⟩
      · exact h.elim
    · rename_i b hc
      obtain ⟨hb, h⟩ := h
      simp only [hc] at hcl
      unfold builtinK at h
      split at h
      · split at h
        · rename_i t x ht
          split at h
          · rename_i n hn
            exact ⟨_, H, h, step1_p (by simp only [cl, hc]) (fun H2 => by simp only [opw, callK, builtinK, *]; exact ⟨trivial, trivial⟩)⟩
          · exact h.elim
        · exact h.elim
      · split at h
        · rename_i t o off len cap ht hargs
          exact ⟨_, H, h.2, step1_p (by simp only [cl, hc]) (fun H2 => by simp only [opw, callK, hc, builtinK, ht, hargs]; exact ⟨h.1, ⟨trivial, trivial⟩⟩)⟩
        · exact h.elim
      · split at h
        · rename_i z hz
          exact ⟨_, H, h, step1_p (by simp only [cl, hc]) (fun H2 => by simp only [opw, callK, hc, builtinK, hz]; exact ⟨trivial, trivial⟩)⟩
        · exact h.elim
      · split at h
        · rename_i z hz
          exact ⟨_, H, h, step1_p (by simp only [cl, hc]) (fun H2 => by simp only [opw, callK, hc, builtinK, hz]; exact ⟨trivial, trivial⟩)⟩
        · exact h.elim
      · -- append
        split at h
        · rename_i sz by_ z es tl y ha hargs
          simp only at hcl
          split at h
          · simp at hcl
          · rename_i hm2
            split at h
            · rename_i ys tly
              obtain ⟨h1, h2, h3, h4⟩ := h
              split at h4
              · obtain ⟨h5, h6, h7⟩ := h4
                split at h7
                · refine ⟨_, _, h7, ?_, ?_⟩
                  · simp only [opw, callK, hc, builtinK, ha, hargs]; exact ⟨h1, h2, h3, h5, h6, ⟨trivial, trivial⟩⟩
                  · simp only [cl, hc]; exact keeps_snoc H _
                · rename_i o
                  refine ⟨_, _, h7.2, ?_, ?_⟩
                  · simp only [opw, callK, hc, builtinK, ha, hargs]; exact ⟨h1, h2, h3, h5, h6, h7.1, ⟨trivial, trivial⟩⟩
                  · simp only [cl, hc]; exact keeps_tok h7.1 _
                · exact h7.elim
              · obtain ⟨h5, h6, h7⟩ := h4
                by_cases h0 : ys = []
                · subst h0
                  refine ⟨_, _, h6 rfl, ?_, ?_⟩
                  · simp only [opw, callK, hc, builtinK, ha, hargs]; exact ⟨h1, h2, h3, h5, fun _ => ⟨trivial, trivial⟩, fun k => absurd rfl k⟩
                  · simp only [cl, hc]; exact fun _ _ k => k
                · have h7 := h7 h0
                  split at h7
                  · refine ⟨_, _, h7, ?_, ?_⟩
                    · simp only [opw, callK, hc, builtinK, ha, hargs]; exact ⟨h1, h2, h3, h5, fun k => absurd k h0, fun _ => ⟨trivial, trivial⟩⟩
                    · simp only [cl, hc]; exact keeps_snoc H _
                  · rename_i o
                    refine ⟨_, _, h7.2, ?_, ?_⟩
                    · simp only [opw, callK, hc, builtinK, ha, hargs]; exact ⟨h1, h2, h3, h5, fun k => absurd k h0, fun _ => ⟨h7.1, ⟨trivial, trivial⟩⟩⟩
                    · simp only [cl, hc]; exact keeps_tok h7.1 _
                  · exact h7.elim
              · rename_i hm1 hm4
                obtain ⟨rfl, hk⟩ := h4
                have hm03 : m = 0 ∨ m = 3 := by
                  rcases Decidable.em (m = 0) with e | e
                  · exact .inl e
                  · rcases Decidable.em (m = 3) with e3 | e3
                    · exact .inr e3
                    · rw [if_neg e, if_neg hm1, if_neg e3, if_neg hm4] at hcl; simp at hcl
                rcases hm03 with hm0 | hm0
                case inr =>
                  subst hm0
                  refine ⟨_, H, hk, ?_, ?_⟩
                  · simp only [opw, callK, hc, builtinK, ha, hargs]; exact ⟨h1, h2, h3, trivial, ⟨trivial, trivial⟩⟩
                  · simp only [cl, hc]; exact trivial
                subst hm0
                exact ⟨_, H, hk, step1_p (by simp only [cl, hc]; rfl) (fun H2 => by simp only [opw, callK, hc, builtinK, ha, hargs]; exact ⟨h1, h2, h3, trivial, ⟨trivial, trivial⟩⟩)⟩
            · exact h.elim
        · rename_i sz by_ z o off len cap y ha hargs
          have hm3 : m = 3 := by
            rcases hb with hb | hb | hb
            · exact absurd rfl hb
            · rw [hargs] at hb; simp [listFirst] at hb
            · exact hb
          subst hm3
          split at h
          · rename_i cs' ys n ho hs
            obtain ⟨h1, h2, h3, h4, h5, h6, h7⟩ := h
            refine ⟨_, _, h7, ?_, ?_⟩
            · simp only [opw, callK, hc, builtinK, ha, hargs, ho, hs]; exact ⟨h1, h2, h3, h4, h5, h6, ⟨trivial, trivial⟩⟩
            · simp only [cl, hc]; exact trivial
          · exact h.elim
        · rename_i o off len cap kd n ha hargs
          split at h
          · obtain ⟨_, _, _, _, _, hm, _⟩ := h
            subst hm
            rcases hb with hb | hb | hb
            · exact absurd rfl hb
            · rw [hargs] at hb; simp [listFirst] at hb
            · cases hb
          · exact h.elim
        · exact h.elim
      · -- copy
        split at h
        · rename_i t o off len cap y ht hargs
          split at h
          · rename_i b' sz by_ et hel
            split at h
            · rename_i cs' ys n ho hs
              obtain ⟨h1, h2, h3, h4⟩ := h
              refine ⟨_, _, h4, ?_, ?_⟩
              · simp only [opw, callK, hc, builtinK, ht, hargs, hel, ho, hs]; exact ⟨h1, h2, h3, ⟨trivial, trivial⟩⟩
              · simp only [cl, hc]
            · exact h.elim
          · exact h.elim
        · exact h.elim
      · -- clear
        split at h
        · rename_i t o off len cap ht hargs
          split at h
          · rename_i b' sz by_ et hel
            split at h
            · rename_i cs' z ho hz
              obtain ⟨h1, h2, h3, h4⟩ := h
              refine ⟨_, _, h4, ?_, ?_⟩
              · simp only [opw, callK, hc, builtinK, ht, hargs, hel, ho, hz]; exact ⟨h1, h2, h3, ⟨trivial, trivial⟩⟩
              · simp only [cl, hc]
            · exact h.elim
          · exact h.elim
        · exact h.elim
      · exact h.elim
    · exact h.elim

end Go.AM
