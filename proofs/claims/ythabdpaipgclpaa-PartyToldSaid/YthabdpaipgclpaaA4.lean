/-
  An abstract machine over values without memory, proved against the model; part 4. A tool for the proofs of this claim; it states nothing of the program.
-/
import Derived.Test.YthabdpaipgclpaaA3
import Derived.DataReads
import Derived.Below
import Derived.ChangeOld
import Derived.OpenShut
import Derived.ChangeArms
/-! AM, part 14: rows of operations whose order is open. -/
namespace Go.AM
open Go

/-- what an operation looks at -/
theorem opw_congr {P : Program} {gl : Glob} {op : Op} {m : Nat} {ρ ρ' : Operand → PV} {H : Heap} {K : PV → Heap → Prop} (hρ : ∀ x ∈ op.operands, ρ x = ρ' x) (h : opw P gl op m ρ H K) : opw P gl op m ρ' H K := by
  have parts : ∀ (ps : Array (Nat × Operand)), (∀ x ∈ (ps.toList.map (·.2)).toArray, ρ x = ρ' x) → (ps.toList.map fun p => (p.1, ρ p.2)) = (ps.toList.map fun p => (p.1, ρ' p.2)) := by
    intro ps hp
    apply List.map_congr_left
    intro p hpm
    rw [hp p.2 (by simp only [List.mem_toArray, List.mem_map]; exact ⟨p, hpm, rfl⟩)]
  cases op <;> simp only [Op.operands] at hρ <;> simp only [opw] at h ⊢
  case move x => rwa [hρ x (by simp)] at h
  case assign x => rwa [hρ x (by simp)] at h
  case pick c a b => rwa [hρ c (by simp), hρ a (by simp), hρ b (by simp)] at h
  case alloc t => exact h
  case box t x => rwa [hρ x (by simp)] at h
  case build t ps => rwa [parts ps hρ] at h
  case buildSlice t l ps => rwa [parts ps hρ] at h
  case load t x => rwa [hρ x (by simp)] at h
  case store t x y => rwa [hρ x (by simp), hρ y (by simp)] at h
  case nilCheck x => rwa [hρ x (by simp)] at h
  case binOp op t x y yt => rwa [hρ x (by simp), hρ y (by simp)] at h
  case unOp op t x => rwa [hρ x (by simp)] at h
  case convert s d x => rwa [hρ x (by simp)] at h
  case makeFunc fn first caps =>
    have : caps.toList.map ρ = caps.toList.map ρ' := List.map_congr_left fun x hx => hρ x (by simp at hx; simp [hx])
    rwa [this] at h
  case makeSlice t l c => rwa [hρ l (by simp), hρ c (by simp)] at h
  case slice t x lo hi mx =>
    have e1 : lo.map ρ = lo.map ρ' := by cases lo with
      | none => rfl
      | some y => simp only [Option.map_some]; rw [hρ y (by simp)]
    have e2 : hi.map ρ = hi.map ρ' := by cases hi with
      | none => rfl
      | some y => simp only [Option.map_some]; rw [hρ y (by simp)]
    have e3 : mx.map ρ = mx.map ρ' := by cases mx with
      | none => rfl
      | some y => simp only [Option.map_some]; rw [hρ y (by simp)]
    rwa [hρ x (by simp), e1, e2, e3] at h
  case fieldAddr s x f => rwa [hρ x (by simp)] at h
  case field s x f => rwa [hρ x (by simp)] at h
  case indexAddr t x i => rwa [hρ x (by simp), hρ i (by simp)] at h
  case index t x i => rwa [hρ x (by simp), hρ i (by simp)] at h
  case extract t i => rwa [hρ t (by simp)] at h
  case call c =>
    have ha : c.args.toList.map ρ = c.args.toList.map ρ' := List.map_congr_left fun x hx => hρ x (by simp at hx; simp [Call.operands, hx])
    unfold callK at h ⊢
    rw [ha] at h
    split at h
    · rename_i f hc
      have : ρ f = ρ' f := hρ f (by simp [Call.operands, hc])
      rwa [this] at h
    · exact h
    · exact h.elim

/-- kinds of operations, as to their order: without memory; a look; a call that leaves all as it was; what lays something new; what changes something -/
inductive Cl where
  | p | l | r | a | w
  deriving DecidableEq

def cl (m : Nat) : Op → Option Cl
  | .move _ | .assign _ | .pick .. | .build .. | .buildSlice .. | .nilCheck _ | .unOp .. | .convert .. | .makeFunc .. | .slice .. | .fieldAddr .. | .field .. | .indexAddr .. | .index .. | .extract .. => some .p
  | .binOp _ _ _ y _ => if isNilSlice y then none else some .p
  | .load .. => some .l
  | .alloc _ | .box .. => some .a
  | .store .. => some .w
  | .call c => match c.callee with
    | .value _ => if m = 5 then some .r else if m = 6 then some .a else if m = 7 then some .w else some .p
    | .builtin b => match b with
      | .len | .cap | .min | .max => some .p
      | .append => if m = 0 then some .p else if m = 1 then some .a else if m = 3 then some .w else if m = 4 then some .a else none
      | .copy | .clear => some .w
      | _ => none
    | _ => none
  | _ => none

/-- the first argument of an append is a list -/
def listFirst : List PV → Bool
  | .list _ _ :: _ => true
  | _ => false

/-- a call that leaves all as it was, whatever there is -/
def PCall (P : Program) (gl : Glob) (f : FuncId) (args : List PV) (r : PV) : Prop := ∀ H, ACalls P gl f args H fun x H' => x = r ∧ H' = H

def keeps (H H' : Heap) : Prop := ∀ (o : Nat) (cs : List PV), H[o]? = some (.cells cs) → H'[o]? = some (.cells cs)

def PCallK (P : Program) (gl : Glob) (f : FuncId) (args : List PV) (m : Nat) (H : Heap) (K : PV → Heap → Prop) : Prop :=
  if m = 6 then ∃ r H', ACalls P gl f args H (fun x H1 => x = r ∧ H1 = H') ∧ keeps H H' ∧ K r H'
  else if m = 7 then ∃ r H', ACalls P gl f args H (fun x H1 => x = r ∧ H1 = H') ∧ K r H'
  else ∃ r, (if m = 5 then ACalls P gl f args H (fun x H' => x = r ∧ H' = H) else PCall P gl f args r) ∧ K r H

/-- one operation in a row whose order is open -/
def opwD (P : Program) (gl : Glob) (op : Op) (m : Nat) (ρ : Operand → PV) (H : Heap) (K : PV → Heap → Prop) : Prop :=
  match op with
  | .call c => match c.callee with
    | .value f => match ρ f with
      | .fn k caps => callable P k = true ∧ PCallK P gl k (c.args.toList.map ρ ++ caps) m H K
      | _ => False
    | .builtin b => (b ≠ .append ∨ listFirst (c.args.toList.map ρ) = true ∨ m = 3) ∧ builtinK P b c.argTypes (c.args.toList.map ρ) m H K
    | _ => False
  | op => opw P gl op m ρ H K


/-- one step, without choice -/
def Step1 (P : Program) (gl : Glob) (op : Op) (m : Nat) (ρ : Operand → PV) (H : Heap) (r : PV) (H' : Heap) : Prop :=
  opw P gl op m ρ H (fun x H1 => x = r ∧ H1 = H') ∧ match cl m op with
    | some .p => H' = H ∧ ∀ H2, opw P gl op m ρ H2 (fun x H1 => x = r ∧ H1 = H2)
    | some .l => H' = H
    | some .r => H' = H
    | some .a => keeps H H'
    | some .w => True
    | none => False

theorem keeps_snoc (H : Heap) (x : Ob) : keeps H (H ++ [x]) := fun o cs h => by
  rw [List.getElem?_append_left (List.getElem?_eq_some_iff.1 h).1]; exact h

theorem keeps_tok {H : Heap} {o : Nat} (ho : H[o]? = some .tok) (x : Ob) : keeps H (H.set o .dead ++ [x]) := fun o' cs h => by
  have hl : o' < H.length := (List.getElem?_eq_some_iff.1 h).1
  rw [List.getElem?_append_left (by simpa using hl), List.getElem?_set]
  by_cases e : o = o'
  · subst e; rw [ho] at h; cases h
  · rw [if_neg e]; exact h

theorem step1_p {P : Program} {gl : Glob} {op : Op} {m : Nat} {ρ : Operand → PV} {H : Heap} {r : PV} (hc : cl m op = some .p) (h : ∀ H2, opw P gl op m ρ H2 (fun x H1 => x = r ∧ H1 = H2)) : Step1 P gl op m ρ H r H :=
  ⟨h H, by rw [hc]; exact ⟨rfl, h⟩⟩

theorem opwD_step {P : Program} {gl : Glob} {op : Op} {m : Nat} {ρ : Operand → PV} {H : Heap} {K : PV → Heap → Prop} (hcl : (cl m op).isSome = true) (h : opwD P gl op m ρ H K) :
    ∃ r H', K r H' ∧ Step1 P gl op m ρ H r H' := by
  have triv : ∀ (r : PV) (H : Heap), r = r ∧ H = H := fun _ _ => ⟨rfl, rfl⟩
  cases op <;> simp only [cl, Option.isSome_none, Bool.false_eq_true] at hcl <;> simp only [opwD, opw] at h
  case move x => exact ⟨_, H, h, step1_p rfl (fun H2 => triv _ _)⟩
  case assign x => exact ⟨_, H, h, step1_p rfl (fun H2 => triv _ _)⟩
  case pick c a b =>
    split at h
    · rename_i t ht; exact ⟨_, H, h, step1_p rfl (fun H2 => by simp only [opw, ht]; exact ⟨trivial, trivial⟩)⟩
    · exact h.elim
  case alloc t =>
    split at h
    · rename_i cs hz
      exact ⟨_, _, h, by simp only [opw, hz]; exact ⟨trivial, trivial⟩, keeps_snoc H _⟩
    · exact h.elim
  case box t x =>
    split at h
    · rename_i cs hz
      exact ⟨_, _, h, by simp only [opw, hz]; exact ⟨trivial, trivial⟩, keeps_snoc H _⟩
    · exact h.elim
  case build t ps =>
    split at h
    · rename_i cs hz; exact ⟨_, H, h, step1_p rfl (fun H2 => by simp only [opw, hz]; exact ⟨trivial, trivial⟩)⟩
    · exact h.elim
  case buildSlice t l ps =>
    split at h
    · rename_i b sz by_ et hel
      split at h
      · rename_i z hz
        obtain ⟨h1, h2, h3, h⟩ := h
        split at h
        · rename_i es he
          exact ⟨_, H, h, step1_p rfl (fun H2 => by simp only [opw, hel, hz, he]; exact ⟨h1, h2, h3, ⟨trivial, trivial⟩⟩)⟩
        · exact h.elim
      · exact h.elim
    · exact h.elim
  case load t x =>
    split at h
    · rename_i cs b sz hb ht
      split at h
      · rename_i y hl
        exact ⟨_, H, h.2, by simp only [opw, hb, ht, hl]; exact ⟨h.1, trivial, trivial⟩, rfl⟩
      · exact h.elim
    · exact h.elim
  case store t x y =>
    split at h
    · rename_i o off b sz xs hx ht hc
      split at h
      · rename_i cs ho
        obtain ⟨h1, h2, h3, h4⟩ := h
        exact ⟨_, _, h4, by simp only [opw, hx, ht, hc, ho]; exact ⟨h1, h2, h3, ⟨trivial, trivial⟩⟩, trivial⟩
      · exact h.elim
    · exact h.elim
  case nilCheck x =>
    split at h
    · rename_i o off hx; exact ⟨_, H, h, step1_p rfl (fun H2 => by simp only [opw, hx]; exact ⟨trivial, trivial⟩)⟩
    · rename_i cs hx; exact ⟨_, H, h, step1_p rfl (fun H2 => by simp only [opw, hx]; exact ⟨trivial, trivial⟩)⟩
    · rename_i f caps hx; exact ⟨_, H, h, step1_p rfl (fun H2 => by simp only [opw, hx]; exact ⟨trivial, trivial⟩)⟩
    · exact h.elim
  case binOp op t x y yt =>
    have hny : isNilSlice y = false := by
      cases hn : isNilSlice y
      · rfl
      · rw [hn] at hcl; simp at hcl
    rw [hny] at h
    simp only [Bool.false_eq_true, if_false] at h
    have intdet : ∀ {k k' : IntKind} {a b : Int} {K : PV → Prop}, intK op k a k' b K → ∃ r, K r ∧ ∀ K' : PV → Prop, K' r → intK op k a k' b K' := by
      intro k k' a b K hk
      cases op <;> simp only [intK] at hk ⊢
      case quo => exact ⟨_, hk.2.2, fun K' hK => ⟨hk.1, hk.2.1, hK⟩⟩
      case rem => exact ⟨_, hk.2.2, fun K' hK => ⟨hk.1, hk.2.1, hK⟩⟩
      all_goals exact ⟨_, hk.2, fun K' hK => ⟨hk.1, hK⟩⟩
    have det : ∀ {x y : PV} {K : PV → Prop}, binK P op t x y K → ∃ r, K r ∧ ∀ K' : PV → Prop, K' r → binK P op t x y K' := by
      intro x y K hk
      unfold binK at hk
      split at hk
      · obtain ⟨r, h1, h2⟩ := intdet hk
        exact ⟨r, h1, fun K' hK => h2 K' hK⟩
      · split at hk
        · exact ⟨_, hk, fun K' hK => hK⟩
        · exact ⟨_, hk, fun K' hK => hK⟩
        · exact hk.elim
      · obtain ⟨ht, hk⟩ := hk
        split at hk
        · exact ⟨_, hk, fun K' hK => ⟨ht, hK⟩⟩
        · exact ⟨_, hk, fun K' hK => ⟨ht, hK⟩⟩
        · exact hk.elim
      · obtain ⟨ht, hk⟩ := hk
        split at hk
        · exact ⟨_, hk, fun K' hK => ⟨ht, hK⟩⟩
        · exact ⟨_, hk, fun K' hK => ⟨ht, hK⟩⟩
        · exact hk.elim
      · obtain ⟨ht, hk⟩ := hk
        split at hk
        · exact ⟨_, hk, fun K' hK => ⟨ht, hK⟩⟩
        · exact ⟨_, hk, fun K' hK => ⟨ht, hK⟩⟩
        · exact hk.elim
      · obtain ⟨ht, hk⟩ := hk
        split at hk
        · exact ⟨_, hk, fun K' hK => ⟨ht, hK⟩⟩
        · exact ⟨_, hk, fun K' hK => ⟨ht, hK⟩⟩
        · exact hk.elim
      · rename_i xs ys
        obtain ⟨h1, h2, h3, h4, hk⟩ := hk
        split at hk
        · rename_i b hb
          split at hk
          · exact ⟨_, hk, fun K' hK => by simp only [binK, hb]; exact ⟨h1, h2, h3, h4, hK⟩⟩
          · exact ⟨_, hk, fun K' hK => by simp only [binK, hb]; exact ⟨h1, h2, h3, h4, hK⟩⟩
          · exact hk.elim
        · exact hk.elim
      · exact hk.elim
    obtain ⟨r, h1, h2⟩ := det h
    exact ⟨r, H, h1, step1_p (by simp [cl, hny]) (fun H2 => by simp only [opw, hny, Bool.false_eq_true, if_false]; exact h2 _ ⟨rfl, trivial⟩)⟩
  case unOp op t x =>
    split at h
    · rename_i y hy; exact ⟨_, H, h, step1_p rfl (fun H2 => by simp only [opw, hy]; exact ⟨trivial, trivial⟩)⟩
    · exact h.elim
  case convert s d x =>
    split at h
    · rename_i y hy; exact ⟨_, H, h, step1_p rfl (fun H2 => by simp only [opw, hy]; exact ⟨trivial, trivial⟩)⟩
    · exact h.elim
  case makeFunc fn first caps =>
    split at h
    · rename_i f
      exact ⟨_, H, h.2, step1_p rfl (fun H2 => by simp only [opw]; exact ⟨h.1, ⟨trivial, trivial⟩⟩)⟩
    · exact h.elim
  case slice t x lo hi mx =>
    split at h
    · rename_i b sz by_ et es tl hel hx
      split at h
      · rename_i l h' m' e1 e2 e3
        obtain ⟨h1, h2, h3, h4, h5, h6, hk⟩ := h
        exact ⟨_, H, hk, step1_p rfl (fun H2 => by simp only [opw, hel, hx, e1, e2, e3]; exact ⟨h1, h2, h3, h4, h5, h6, ⟨trivial, trivial⟩⟩)⟩
      · exact h.elim
    · rename_i b sz by_ et o' off len cap hel hx
      split at h
      · rename_i l h' m' e1 e2 e3
        obtain ⟨h1, h2, h3, h4, h5, hk⟩ := h
        exact ⟨_, H, hk, step1_p rfl (fun H2 => by simp only [opw, hel, hx, e1, e2, e3]; exact ⟨h1, h2, h3, h4, h5, ⟨trivial, trivial⟩⟩)⟩
      · exact h.elim
    · exact h.elim
  case fieldAddr s x f =>
    split at h
    · rename_i off b sz hf
      split at h
      · rename_i y hy; exact ⟨_, H, h, step1_p rfl (fun H2 => by simp only [opw, hf, hy]; exact ⟨trivial, trivial⟩)⟩
      · exact h.elim
    · exact h.elim
  case field s x f =>
    split at h
    · rename_i off b sz cs hf hx
      split at h
      · rename_i y hy; exact ⟨_, H, h, step1_p rfl (fun H2 => by simp only [opw, hf, hx, hy]; exact ⟨trivial, trivial⟩)⟩
      · exact h.elim
    · exact h.elim
  case indexAddr t x i =>
    split at h
    · rename_i b sz by_ et k n hel hi
      split at h
      · rename_i es tl hx
        obtain ⟨h0, h⟩ := h
        split at h
        · rename_i e he
          exact ⟨_, H, h.2.2, step1_p rfl (fun H2 => by simp only [opw, hel, hi, hx, he]; exact ⟨h0, h.1, h.2.1, ⟨trivial, trivial⟩⟩)⟩
        · exact h.elim
      · rename_i o' off len cap hx
        exact ⟨_, H, h.2.2, step1_p rfl (fun H2 => by simp only [opw, hel, hi, hx]; exact ⟨h.1, h.2.1, ⟨trivial, trivial⟩⟩)⟩
      · exact h.elim
    · rename_i mm b sz by_ et k n hel hi
      obtain ⟨h0, h1, h⟩ := h
      split at h
      · rename_i y hy; exact ⟨_, H, h, step1_p rfl (fun H2 => by simp only [opw, hel, hi, hy]; exact ⟨h0, h1, ⟨trivial, trivial⟩⟩)⟩
      · exact h.elim
    · exact h.elim
  case index t x i =>
    split at h
    · rename_i mm b sz by_ et cs k n hel hx hi
      obtain ⟨h0, h1, h⟩ := h
      split at h
      · rename_i y hy; exact ⟨_, H, h, step1_p rfl (fun H2 => by simp only [opw, hel, hx, hi, hy]; exact ⟨h0, h1, ⟨trivial, trivial⟩⟩)⟩
      · exact h.elim
    · exact h.elim
  case extract t i =>
    split at h
    · rename_i vs ht
      split at h
      · rename_i y hy; exact ⟨_, H, h, step1_p rfl (fun H2 => by simp only [opw, ht, hy]; exact ⟨trivial, trivial⟩)⟩
      · exact h.elim
    · exact h.elim
  case call c =>
    split at h
    · rename_i f hc
      split at h
      · rename_i k caps hf
        obtain ⟨hcall, h⟩ := h
        unfold PCallK at h
        by_cases h6 : m = 6
        · rw [if_pos h6] at h
          obtain ⟨r, H', hr, hkp, hk⟩ := h
          refine ⟨r, H', hk, ?_, ?_⟩
          · simp only [opw, callK, hc, hf]; exact .inl ⟨hcall, hr⟩
          · simp only [cl, hc]; rw [if_neg (by omega), if_pos h6]; exact hkp
        rw [if_neg h6] at h
        by_cases h7 : m = 7
        · rw [if_pos h7] at h
          obtain ⟨r, H', hr, hk⟩ := h
          refine ⟨r, H', hk, ?_, ?_⟩
          · simp only [opw, callK, hc, hf]; exact .inl ⟨hcall, hr⟩
          · simp only [cl, hc]; rw [if_neg (by omega), if_neg h6, if_pos h7]; trivial
        rw [if_neg h7] at h
        obtain ⟨r, hr, hk⟩ := h
        by_cases hm : m = 5
        · rw [if_pos hm] at hr
          refine ⟨r, H, hk, ?_, ?_⟩
          · simp only [opw, callK, hc, hf]; exact .inl ⟨hcall, hr⟩
          · simp only [cl, hc]; rw [if_pos hm]; trivial
        · rw [if_neg hm] at hr
          exact ⟨r, H, hk, step1_p (by simp only [cl, hc]; rw [if_neg hm, if_neg h6, if_neg h7]) (fun H2 => by simp only [opw, callK, hc, hf]; exact .inl ⟨hcall, hr H2⟩)⟩
      · exact h.elim
    · rename_i b hc
      obtain ⟨hb, h⟩ := h
      simp only [hc] at hcl
      unfold builtinK at h
      split at h
      · split at h
        · rename_i t x ht
          split at h
          · rename_i n hn
            exact ⟨_, H, h, step1_p (by simp only [cl, hc]) (fun H2 => by simp only [opw, callK, builtinK, *]; exact ⟨trivial, trivial⟩)⟩
          · exact h.elim
        · exact h.elim
      · split at h
        · rename_i t o off len cap ht hargs
          exact ⟨_, H, h.2, step1_p (by simp only [cl, hc]) (fun H2 => by simp only [opw, callK, hc, builtinK, ht, hargs]; exact ⟨h.1, ⟨trivial, trivial⟩⟩)⟩
        · exact h.elim
      · split at h
        · rename_i z hz
          exact ⟨_, H, h, step1_p (by simp only [cl, hc]) (fun H2 => by simp only [opw, callK, hc, builtinK, hz]; exact ⟨trivial, trivial⟩)⟩
        · exact h.elim
      · split at h
        · rename_i z hz
          exact ⟨_, H, h, step1_p (by simp only [cl, hc]) (fun H2 => by simp only [opw, callK, hc, builtinK, hz]; exact ⟨trivial, trivial⟩)⟩
        · exact h.elim
      · -- append
        split at h
        · rename_i sz by_ z es tl y ha hargs
          simp only at hcl
          split at h
          · simp at hcl
          · rename_i hm2
            split at h
            · rename_i ys tly
              obtain ⟨h1, h2, h3, h4⟩ := h
              split at h4
              · obtain ⟨h5, h6, h7⟩ := h4
                split at h7
                · refine ⟨_, _, h7, ?_, ?_⟩
                  · simp only [opw, callK, hc, builtinK, ha, hargs]; exact ⟨h1, h2, h3, h5, h6, ⟨trivial, trivial⟩⟩
                  · simp only [cl, hc]; exact keeps_snoc H _
                · rename_i o
                  refine ⟨_, _, h7.2, ?_, ?_⟩
                  · simp only [opw, callK, hc, builtinK, ha, hargs]; exact ⟨h1, h2, h3, h5, h6, h7.1, ⟨trivial, trivial⟩⟩
                  · simp only [cl, hc]; exact keeps_tok h7.1 _
                · exact h7.elim
              · obtain ⟨h5, h6, h7⟩ := h4
                by_cases h0 : ys = []
                · subst h0
                  refine ⟨_, _, h6 rfl, ?_, ?_⟩
                  · simp only [opw, callK, hc, builtinK, ha, hargs]; exact ⟨h1, h2, h3, h5, fun _ => ⟨trivial, trivial⟩, fun k => absurd rfl k⟩
                  · simp only [cl, hc]; exact fun _ _ k => k
                · have h7 := h7 h0
                  split at h7
                  · refine ⟨_, _, h7, ?_, ?_⟩
                    · simp only [opw, callK, hc, builtinK, ha, hargs]; exact ⟨h1, h2, h3, h5, fun k => absurd k h0, fun _ => ⟨trivial, trivial⟩⟩
                    · simp only [cl, hc]; exact keeps_snoc H _
                  · rename_i o
                    refine ⟨_, _, h7.2, ?_, ?_⟩
                    · simp only [opw, callK, hc, builtinK, ha, hargs]; exact ⟨h1, h2, h3, h5, fun k => absurd k h0, fun _ => ⟨h7.1, ⟨trivial, trivial⟩⟩⟩
                    · simp only [cl, hc]; exact keeps_tok h7.1 _
                  · exact h7.elim
              · rename_i hm1 hm4
                obtain ⟨rfl, hk⟩ := h4
                have hm03 : m = 0 ∨ m = 3 := by
                  rcases Decidable.em (m = 0) with e | e
                  · exact .inl e
                  · rcases Decidable.em (m = 3) with e3 | e3
                    · exact .inr e3
                    · rw [if_neg e, if_neg hm1, if_neg e3, if_neg hm4] at hcl; simp at hcl
                rcases hm03 with hm0 | hm0
                case inr =>
                  subst hm0
                  refine ⟨_, H, hk, ?_, ?_⟩
                  · simp only [opw, callK, hc, builtinK, ha, hargs]; exact ⟨h1, h2, h3, trivial, ⟨trivial, trivial⟩⟩
                  · simp only [cl, hc]; exact trivial
                subst hm0
                exact ⟨_, H, hk, step1_p (by simp only [cl, hc]; rfl) (fun H2 => by simp only [opw, callK, hc, builtinK, ha, hargs]; exact ⟨h1, h2, h3, trivial, ⟨trivial, trivial⟩⟩)⟩
            · exact h.elim
        · rename_i sz by_ z o off len cap y ha hargs
          have hm3 : m = 3 := by
            rcases hb with hb | hb | hb
            · exact absurd rfl hb
            · rw [hargs] at hb; simp [listFirst] at hb
            · exact hb
          subst hm3
          split at h
          · rename_i cs' ys n ho hs
            obtain ⟨h1, h2, h3, h4, h5, h6, h7⟩ := h
            refine ⟨_, _, h7, ?_, ?_⟩
            · simp only [opw, callK, hc, builtinK, ha, hargs, ho, hs]; exact ⟨h1, h2, h3, h4, h5, h6, ⟨trivial, trivial⟩⟩
            · simp only [cl, hc]; exact trivial
          · exact h.elim
        · rename_i o off len cap kd n ha hargs
          split at h
          · obtain ⟨_, _, _, _, _, hm, _⟩ := h
            subst hm
            rcases hb with hb | hb | hb
            · exact absurd rfl hb
            · rw [hargs] at hb; simp [listFirst] at hb
            · cases hb
          · exact h.elim
        · exact h.elim
      · -- copy
        split at h
        · rename_i t o off len cap y ht hargs
          split at h
          · rename_i b' sz by_ et hel
            split at h
            · rename_i cs' ys n ho hs
              obtain ⟨h1, h2, h3, h4⟩ := h
              refine ⟨_, _, h4, ?_, ?_⟩
              · simp only [opw, callK, hc, builtinK, ht, hargs, hel, ho, hs]; exact ⟨h1, h2, h3, ⟨trivial, trivial⟩⟩
              · simp only [cl, hc]
            · exact h.elim
          · exact h.elim
        · exact h.elim
      · -- clear
        split at h
        · rename_i t o off len cap ht hargs
          split at h
          · rename_i b' sz by_ et hel
            split at h
            · rename_i cs' z ho hz
              obtain ⟨h1, h2, h3, h4⟩ := h
              refine ⟨_, _, h4, ?_, ?_⟩
              · simp only [opw, callK, hc, builtinK, ht, hargs, hel, ho, hz]; exact ⟨h1, h2, h3, ⟨trivial, trivial⟩⟩
              · simp only [cl, hc]
            · exact h.elim
          · exact h.elim
        · exact h.elim
      · exact h.elim
    · exact h.elim

end Go.AM

/-! AM, part 15: whatever order is drawn comes to the same. -/
namespace Go.AM
open Go

/-- one operation of a row, its guard with it -/
def SD (P : Program) (gl : Glob) (hn : Oper → Nat) (ops : Array Oper) (o : Oper) (e : Env) (H : Heap) (e' : Env) (H' : Heap) : Prop :=
  (∃ r, e' = upd e o.dst r ∧ Step1 P gl o.op (hn o) (ev gl e) H r H' ∧ match o.guard with
    | none => True
    | some (j, want) => ∃ d, (ops[j]?).bind (·.dst) = some d ∧ e d = .bool want) ∨
  (e' = upd e o.dst (.tup []) ∧ H' = H ∧ ∃ j want d, o.guard = some (j, want) ∧ (ops[j]?).bind (·.dst) = some d ∧ (e d = .bool (!want) ∨ e d = .tup []))

inductive Chain (P : Program) (gl : Glob) (hn : Oper → Nat) (ops : Array Oper) : List Nat → Env → Heap → Env → Heap → Prop where
  | nil (e : Env) (H : Heap) : Chain P gl hn ops [] e H e H
  | cons {i : Nat} {is : List Nat} {o : Oper} {e e1 e2 : Env} {H H1 H2 : Heap} (ho : ops[i]? = some o) (h : SD P gl hn ops o e H e1 H1) (hs : Chain P gl hn ops is e1 H1 e2 H2) : Chain P gl hn ops (i :: is) e H e2 H2

/-- the slots that an operation looks at -/
def looks (ops : Array Oper) (o : Oper) : List Nat :=
  (o.op.operands.toList.filterMap fun x => match x with | .tmp t => some t | _ => none) ++ (match o.guard with | some (j, _) => ((ops[j]?).bind (·.dst)).toList | none => [])

/-- two stores whose hints say that they write different cells -/
def apartH (m1 m2 : Nat) : Bool :=
  Nat.ble 1000 m1 && Nat.ble 1000 m2 &&
    (!((m1 - 1000) / 100000 == (m2 - 1000) / 100000) || Nat.ble ((m1 - 1000) / 100 % 1000 + (m1 - 1000) % 100) ((m2 - 1000) / 100 % 1000) || Nat.ble ((m2 - 1000) / 100 % 1000 + (m2 - 1000) % 100) ((m1 - 1000) / 100 % 1000))
def isStore : Op → Bool
  | .store .. => true
  | _ => false

def isLoad : Op → Bool
  | .load .. => true
  | _ => false

theorem hint_dec {m o off sz : Nat} (hm : 1000 ≤ m) (h : hintOk m o off sz = true) : (m - 1000) / 100000 = o ∧ (m - 1000) / 100 % 1000 = off ∧ (m - 1000) % 100 = sz := by
  unfold hintOk at h
  simp only [Bool.or_eq_true, Bool.and_eq_true, Nat.blt_eq, beq_iff_eq] at h
  rcases h with h | ⟨⟨h1, h2⟩, h3⟩
  · omega
  · omega

theorem over_get {α : Type} {C vs : List α} {off : Nat} (h : off + vs.length ≤ C.length) (q : Nat) : (over C off vs)[q]? = if q < off then C[q]? else if q < off + vs.length then vs[q - off]? else C[q]? := by
  unfold over
  by_cases h1 : q < off
  · rw [if_pos h1, List.append_assoc, List.getElem?_append_left (by simp; omega), List.getElem?_take, if_pos h1]
  · rw [if_neg h1, List.append_assoc, List.getElem?_append_right (by simp; omega)]
    have e : (List.take off C).length = off := by simp; omega
    rw [e]
    by_cases h2 : q < off + vs.length
    · rw [if_pos h2, List.getElem?_append_left (by omega)]
    · rw [if_neg h2, List.getElem?_append_right (by omega), List.getElem?_drop]
      congr 1; omega

theorem over_comm {α : Type} {C us vs : List α} {a b : Nat} (ha : a + us.length ≤ C.length) (hb : b + vs.length ≤ C.length) (h : a + us.length ≤ b ∨ b + vs.length ≤ a) : over (over C a us) b vs = over (over C b vs) a us := by
  apply List.ext_getElem?
  intro q
  rw [over_get (C := over C a us) (by rw [over_length ha]; exact hb), over_get (C := over C b vs) (by rw [over_length hb]; exact ha), over_get (C := C) ha, over_get (C := C) hb]
  by_cases c1 : q < b <;> by_cases c2 : q < b + vs.length <;> by_cases c3 : q < a <;> by_cases c4 : q < a + us.length <;> simp only [c1, c2, c3, c4, if_true, if_false] <;> omega

/-- may the second be done ahead of the first? (the first stands ahead in the text) -/
def indep (ops : Array Oper) (hn : Oper → Nat) (o1 o2 : Oper) : Bool :=
  (match o1.dst with | some d => !(looks ops o2).contains d && o2.dst != some d | none => true) &&
  (match o2.dst with | some d => !(looks ops o1).contains d | none => true) &&
  match cl (hn o1) o1.op, cl (hn o2) o2.op with
  | some .p, some _ | some _, some .p => true
  | some .l, some .l | some .l, some .r | some .r, some .l | some .r, some .r => true
  | some .l, some .a => true
  | some .w, some .w => isStore o1.op && isStore o2.op && apartH (hn o1) (hn o2)
  | some .l, some .w => isLoad o1.op && isStore o2.op && (hn o1 == 900 || apartH (hn o1) (hn o2))
  | some .w, some .l => isStore o1.op && isLoad o2.op && (hn o2 == 900 || apartH (hn o1) (hn o2))
  | _, _ => false

theorem ev_upd {gl : Glob} {e : Env} {d : Option Tmp} {x : PV} {y : Operand} (h : ∀ t, d = some t → y ≠ .tmp t) : ev gl (upd e d x) y = ev gl e y := by
  cases y with
  | tmp k =>
    cases d with
    | none => rfl
    | some t =>
      simp only [ev, upd]
      rw [if_neg]
      intro e; subst e; exact h _ rfl rfl
  | const v => rfl
  | global k => rfl
  | func f => rfl

theorem upd_comm (e : Env) (d1 d2 : Option Tmp) (x y : PV) (h : ∀ t, d1 = some t → d2 ≠ some t) : upd (upd e d1 x) d2 y = upd (upd e d2 y) d1 x := by
  cases d1 with
  | none => rfl
  | some a =>
    cases d2 with
    | none => rfl
    | some b =>
      have : b ≠ a := fun e => h a rfl (by rw [e])
      funext k
      simp only [upd]
      by_cases h1 : k = b
      · subst h1; rw [if_pos rfl, if_neg this, if_pos rfl]
      · rw [if_neg h1, if_neg h1]

theorem upd_ne (e : Env) (d : Option Tmp) (x : PV) (k : Nat) (h : d ≠ some k) : upd e d x k = e k := by
  cases d with
  | none => rfl
  | some t =>
    simp only [upd]
    rw [if_neg]
    intro e; subst e; exact h rfl

/-- a step looks at no more than it says -/
theorem step1_env {P : Program} {gl : Glob} {op : Op} {m : Nat} {ρ ρ' : Operand → PV} {H H' : Heap} {r : PV} (hρ : ∀ x ∈ op.operands, ρ x = ρ' x) (h : Step1 P gl op m ρ H r H') : Step1 P gl op m ρ' H r H' := by
  refine ⟨opw_congr hρ h.1, ?_⟩
  have h2 := h.2
  split at h2
  · exact ⟨h2.1, fun H2 => opw_congr hρ (h2.2 H2)⟩
  all_goals exact h2

theorem looks_op {ops : Array Oper} {o : Oper} {d : Option Tmp} (h : ∀ t, d = some t → (looks ops o).contains t = false) {gl : Glob} {e : Env} {x : PV} : ∀ y ∈ o.op.operands, ev gl (upd e d x) y = ev gl e y := by
  intro y hy
  refine ev_upd ?_
  rintro t ht rfl
  have := h t ht
  simp only [looks, List.contains_eq_mem, List.mem_append, List.mem_filterMap, decide_eq_false_iff_not, not_or] at this
  exact this.1 ⟨.tmp t, by simpa using hy, rfl⟩

theorem looks_guard {ops : Array Oper} {o : Oper} {d : Option Tmp} (h : ∀ t, d = some t → (looks ops o).contains t = false) {j : Nat} {want : Bool} {k : Tmp} (hg : o.guard = some (j, want)) (hk : (ops[j]?).bind (·.dst) = some k) (e : Env) (x : PV) :
    upd e d x k = e k := by
  refine upd_ne _ _ _ _ ?_
  intro hd
  have := h k hd
  simp only [looks, hg, hk, List.contains_eq_mem, List.mem_append, decide_eq_false_iff_not, not_or] at this
  exact this.2 (by simp)

theorem sd_env {P : Program} {gl : Glob} {hn : Oper → Nat} {ops : Array Oper} {o : Oper} {d : Option Tmp} {x : PV} {e e' : Env} {H H' : Heap} (hl : ∀ t, d = some t → (looks ops o).contains t = false) (hd : ∀ t, d = some t → o.dst ≠ some t)
    (h : SD P gl hn ops o (upd e d x) H e' H') : ∃ e1, SD P gl hn ops o e H e1 H' ∧ e' = upd e1 d x := by
  rcases h with ⟨r, rfl, hs, hg⟩ | ⟨rfl, rfl, j, want, k, hg, hk, he⟩
  · refine ⟨upd e o.dst r, .inl ⟨r, rfl, step1_env (looks_op hl) hs, ?_⟩, upd_comm e d o.dst x r hd⟩
    split at hg
    · trivial
    · rename_i j want hgd
      obtain ⟨k, hk, he⟩ := hg
      exact ⟨k, hk, by rw [← looks_guard hl hgd hk e x]; exact he⟩
  · exact ⟨upd e o.dst (.tup []), .inr ⟨rfl, rfl, j, want, k, hg, hk, by rw [← looks_guard hl hg hk e x]; exact he⟩, upd_comm e d o.dst x _ hd⟩

theorem sd_env' {P : Program} {gl : Glob} {hn : Oper → Nat} {ops : Array Oper} {o : Oper} {d : Option Tmp} {x : PV} {e e1 : Env} {H H' : Heap} (hl : ∀ t, d = some t → (looks ops o).contains t = false) (hd : ∀ t, d = some t → o.dst ≠ some t)
    (h : SD P gl hn ops o e H e1 H') : SD P gl hn ops o (upd e d x) H (upd e1 d x) H' := by
  rcases h with ⟨r, rfl, hs, hg⟩ | ⟨rfl, rfl, j, want, k, hg, hk, he⟩
  · refine .inl ⟨r, (upd_comm e d o.dst x r hd).symm, step1_env (fun y hy => (looks_op hl y hy).symm) hs, ?_⟩
    split at hg
    · trivial
    · rename_i j want hgd
      obtain ⟨k, hk, he⟩ := hg
      exact ⟨k, hk, by rw [looks_guard hl hgd hk e x]; exact he⟩
  · exact .inr ⟨(upd_comm e d o.dst x _ hd).symm, rfl, j, want, k, hg, hk, by rw [looks_guard hl hg hk e x]; exact he⟩

/-- a look behind something new -/
theorem load_keeps {P : Program} {gl : Glob} {op : Op} {m : Nat} {ρ : Operand → PV} {H H' : Heap} {r : PV} (hc : cl m op = some .l) (hk : keeps H H') (h : opw P gl op m ρ H (fun x H1 => x = r ∧ H1 = H)) : opw P gl op m ρ H' (fun x H1 => x = r ∧ H1 = H') := by
  cases op <;> try (simp [cl] at hc; done)
  case load t a =>
    simp only [opw] at h ⊢
    split at h
    · rename_i cs b sz hb ht
      have hb' : behind H' (ρ a) = some cs := by
        unfold behind at hb ⊢
        split at hb
        · exact hb
        · rename_i o off _
          split at hb
          · rename_i cs' ho
            rw [hk o cs' ho]; exact hb
          · cases hb
        · cases hb
      rw [hb', ht]
      simp only
      split at h
      · rename_i y hl
        exact ⟨h.1, h.2.1, trivial⟩
      · exact h.elim
    · exact h.elim
  case call c =>
    simp only [cl] at hc
    split at hc
    · (repeat' split at hc) <;> simp at hc
    · split at hc <;> first | (simp at hc; done) | skip
      split at hc
      · simp at hc
      · (repeat' split at hc) <;> simp at hc
    · simp at hc

/-- a store, one step -/
theorem store_step {P : Program} {gl : Glob} {op : Op} {m : Nat} {ρ : Operand → PV} {H H' : Heap} {r : PV} (hs : isStore op = true) (h : opw P gl op m ρ H (fun x H1 => x = r ∧ H1 = H')) :
    ∃ (o off sz : Nat) (xs cs : List PV), H[o]? = some (.cells cs) ∧ off + sz ≤ cs.length ∧ xs.length = sz ∧ hintOk m o off sz = true ∧ r = .tup [] ∧ H' = H.set o (.cells (over cs off xs)) ∧
      ∀ (H2 : Heap) (cs2 : List PV), H2[o]? = some (.cells cs2) → off + sz ≤ cs2.length → opw P gl op m ρ H2 (fun x H1 => x = .tup [] ∧ H1 = H2.set o (.cells (over cs2 off xs))) := by
  cases op <;> try (cases hs; done)
  case store t a x =>
    simp only [opw] at h
    split at h
    · rename_i o off b sz xs ha ht hx
      split at h
      · rename_i cs ho
        obtain ⟨h1, h2, ⟨h3, h4⟩, h5, h6⟩ := h
        refine ⟨o, off, sz, xs, cs, ho, h3, h1, h4, h5.symm, h6.symm, fun H2 cs2 k1 k2 => ?_⟩
        simp only [opw, ha, ht, hx, k1]
        exact ⟨h1, h2, ⟨k2, h4⟩, trivial, trivial⟩
      · exact h.elim
    · exact h.elim

theorem loadPV_over {b : Bool} {off sz off2 : Nat} {cs xs : List PV} (h2 : off2 + xs.length ≤ cs.length) (h0 : 0 < sz) (hd : off + sz ≤ off2 ∨ off2 + xs.length ≤ off) : loadPV b sz ((over cs off2 xs).drop off) = loadPV b sz (cs.drop off) := by
  have hl : ((over cs off2 xs).drop off).length = (cs.drop off).length := by rw [List.length_drop, List.length_drop, over_length h2]
  have hg : ∀ q, q < sz → ((over cs off2 xs).drop off)[q]? = (cs.drop off)[q]? := fun q hq => by
    rw [List.getElem?_drop, List.getElem?_drop, over_get h2]
    by_cases c1 : off + q < off2
    · rw [if_pos c1]
    · rw [if_neg c1, if_neg (by omega)]
  unfold loadPV
  cases b with
  | true =>
    simp only [if_true, hl]
    have ht : ((over cs off2 xs).drop off).take sz = (cs.drop off).take sz := by
      apply List.ext_getElem?
      intro q
      rw [List.getElem?_take, List.getElem?_take]
      by_cases c : q < sz
      · rw [if_pos c, if_pos c, hg q c]
      · rw [if_neg c, if_neg c]
    rw [ht]
  | false =>
    simp only [Bool.false_eq_true, if_false]
    exact hg 0 h0

/-- a load, and a store into other cells: behind the store, or ahead of it, alike -/
theorem load_store {P : Program} {gl : Glob} {op : Op} {m m2 : Nat} {ρ : Operand → PV} {H : Heap} {r : PV} (hs : isLoad op = true) {o2 off2 sz2 : Nat} {cs2 xs2 : List PV} (ho : H[o2]? = some (.cells cs2)) (hfit : off2 + sz2 ≤ cs2.length) (hx : xs2.length = sz2) (hh : hintOk m2 o2 off2 sz2 = true)
    (hap : (m == 900 || apartH m m2) = true ∨ (m == 900 || apartH m2 m) = true) :
    opw P gl op m ρ H (fun x H1 => x = r ∧ H1 = H) ↔ opw P gl op m ρ (H.set o2 (.cells (over cs2 off2 xs2))) (fun x H1 => x = r ∧ H1 = H.set o2 (.cells (over cs2 off2 xs2))) := by
  cases op <;> try (cases hs; done)
  case load t a =>
    have hol : o2 < H.length := (List.getElem?_eq_some_iff.1 ho).1
    subst hx
    -- what stands behind the address, before and behind the store
    have key : ∀ (b : Bool) (sz : Nat), hintL m (ρ a) sz = true → (behind H (ρ a)).bind (loadPV b sz) = (behind (H.set o2 (.cells (over cs2 off2 xs2))) (ρ a)).bind (loadPV b sz) := by
      intro b sz hl
      unfold hintL at hl
      split at hl
      · split at hl
        · rename_i cs hx; rw [hx]; rfl
        · cases hl
      · rename_i h9
        have hm : 1000 ≤ m := by
          rcases hap with h | h <;> rw [h9, Bool.false_or] at h <;> simp only [apartH, Bool.and_eq_true, Nat.ble_eq] at h
          · exact h.1.1
          · exact h.1.2
        have hm2 : 1000 ≤ m2 := by
          rcases hap with h | h <;> rw [h9, Bool.false_or] at h <;> simp only [apartH, Bool.and_eq_true, Nat.ble_eq] at h
          · exact h.1.2
          · exact h.1.1
        simp only [Bool.or_eq_true, Nat.blt_eq] at hl
        rcases hl with hl | hl
        · omega
        · split at hl
          · rename_i o off hx
            simp only [Bool.and_eq_true, Nat.blt_eq] at hl
            obtain ⟨d1, d2, d3⟩ := hint_dec hm hl.1
            obtain ⟨d4, d5, d6⟩ := hint_dec hm2 hh
            have hd : o ≠ o2 ∨ off + sz ≤ off2 ∨ off2 + xs2.length ≤ off := by
              rcases hap with h | h <;> rw [h9, Bool.false_or] at h <;> simp only [apartH, Bool.and_eq_true, Nat.ble_eq, Bool.or_eq_true, Bool.not_eq_true', beq_eq_false_iff_ne, d1, d2, d3, d4, d5, d6] at h
              · rcases h.2 with (k | k) | k
                · exact .inl k
                · exact .inr (.inl k)
                · exact .inr (.inr k)
              · rcases h.2 with (k | k) | k
                · exact .inl (Ne.symm k)
                · exact .inr (.inr k)
                · exact .inr (.inl k)
            rw [hx]
            simp only [behind]
            by_cases hoo : o = o2
            · subst hoo
              rw [ho, List.getElem?_set_self hol]
              simp only [Option.bind_some]
              rcases hd with k | k
              · exact absurd rfl k
              · exact (loadPV_over hfit hl.2 k).symm
            · rw [List.getElem?_set_ne (fun e => hoo e.symm)]
          · cases hl
    simp only [opw]
    cases ht : tyA P t with
    | none => cases behind H (ρ a) <;> cases behind (H.set o2 (.cells (over cs2 off2 xs2))) (ρ a) <;> exact ⟨fun h => h.elim, fun h => h.elim⟩
    | some p =>
      obtain ⟨b, sz⟩ := p
      by_cases hl : hintL m (ρ a) sz = true
      · have k := key b sz hl
        constructor
        · intro h
          split at h
          · rename_i cs b' sz' hb ht'
            cases ht'
            split at h
            · rename_i y hy
              rw [hb] at k
              simp only [Option.bind_some, hy] at k
              obtain ⟨cs', hb', hy'⟩ := Option.bind_eq_some_iff.1 k.symm
              rw [hb']; simp only [hy']
              exact ⟨hl, h.2.1, trivial⟩
            · exact h.elim
          · exact h.elim
        · intro h
          split at h
          · rename_i cs b' sz' hb ht'
            cases ht'
            split at h
            · rename_i y hy
              rw [hb] at k
              simp only [Option.bind_some, hy] at k
              obtain ⟨cs', hb', hy'⟩ := Option.bind_eq_some_iff.1 k
              rw [hb']; simp only [hy']
              exact ⟨hl, h.2.1, trivial⟩
            · exact h.elim
          · exact h.elim
      · constructor
        · intro h
          split at h
          · rename_i cs b' sz' hb ht'
            cases ht'
            split at h
            · exact absurd h.1 hl
            · exact h.elim
          · exact h.elim
        · intro h
          split at h
          · rename_i cs b' sz' hb ht'
            cases ht'
            split at h
            · exact absurd h.1 hl
            · exact h.elim
          · exact h.elim

theorem swap {P : Program} {gl : Glob} {hn : Oper → Nat} {ops : Array Oper} {o1 o2 : Oper} (hi : indep ops hn o1 o2 = true) {e e1 e2 : Env} {H H1 H2 : Heap} (h1 : SD P gl hn ops o1 e H e1 H1) (h2 : SD P gl hn ops o2 e1 H1 e2 H2) :
    ∃ e1' H1', SD P gl hn ops o2 e H e1' H1' ∧ SD P gl hn ops o1 e1' H1' e2 H2 := by
  simp only [indep, Bool.and_eq_true] at hi
  obtain ⟨⟨hi1, hi2⟩, hi3⟩ := hi
  have hl2 : ∀ t, o1.dst = some t → (looks ops o2).contains t = false := by
    intro t ht; rw [ht] at hi1; simp at hi1; simpa using hi1.1
  have hd : ∀ t, o1.dst = some t → o2.dst ≠ some t := by
    intro t ht; rw [ht] at hi1; simp at hi1; exact hi1.2
  have hl1 : ∀ t, o2.dst = some t → (looks ops o1).contains t = false := by
    intro t ht; rw [ht] at hi2; simpa using hi2
  have hd' : ∀ t, o2.dst = some t → o1.dst ≠ some t := fun t ht ht' => hd t ht' ht
  -- the slot that the first writes
  obtain ⟨r1, hr1⟩ : ∃ r1, e1 = upd e o1.dst r1 := by
    rcases h1 with ⟨r, rfl, _⟩ | ⟨rfl, _⟩
    · exact ⟨r, rfl⟩
    · exact ⟨_, rfl⟩
  subst hr1
  obtain ⟨ea, ha, rfl⟩ := sd_env hl2 hd h2
  obtain ⟨r2, hr2⟩ : ∃ r2, ea = upd e o2.dst r2 := by
    rcases ha with ⟨r, rfl, _⟩ | ⟨rfl, _⟩
    · exact ⟨r, rfl⟩
    · exact ⟨_, rfl⟩
  subst hr2
  -- memory
  have hfin : ∀ Ha, SD P gl hn ops o2 e H (upd e o2.dst r2) Ha → SD P gl hn ops o1 e Ha (upd e o1.dst r1) H2 →
      ∃ e1' H1', SD P gl hn ops o2 e H e1' H1' ∧ SD P gl hn ops o1 e1' H1' (upd (upd e o2.dst r2) o1.dst r1) H2 := by
    intro Ha k1 k2
    have k3 := sd_env' (d := o2.dst) (x := r2) hl1 hd' k2
    refine ⟨_, Ha, k1, ?_⟩
    rwa [← upd_comm e o2.dst o1.dst r2 r1 hd'] at k3
  -- a step that does nothing goes anywhere
  have stay : ∀ {o : Oper} {r : PV} {Hx Hy : Heap}, SD P gl hn ops o e Hx (upd e o.dst r) Hx → (∀ {r'}, Step1 P gl o.op (hn o) (ev gl e) Hx r' Hx → Step1 P gl o.op (hn o) (ev gl e) Hy r' Hy) → SD P gl hn ops o e Hy (upd e o.dst r) Hy := by
    intro o r Hx Hy h hs
    rcases h with ⟨r', he, h1, hg⟩ | ⟨he, _, hg⟩
    · exact .inl ⟨r', he, hs h1, hg⟩
    · exact .inr ⟨he, rfl, hg⟩
  have pstay : ∀ {o : Oper} {Hx Hy : Heap} {r' : PV}, cl (hn o) o.op = some .p → Step1 P gl o.op (hn o) (ev gl e) Hx r' Hx → Step1 P gl o.op (hn o) (ev gl e) Hy r' Hy := by
    intro o Hx Hy r' hc h
    have := h.2
    rw [hc] at this
    exact step1_p hc this.2
  -- which memory do steps without change leave
  have same : ∀ {o : Oper} {Hx Hy : Heap} {r : PV}, (cl (hn o) o.op = some .p ∨ cl (hn o) o.op = some .l ∨ cl (hn o) o.op = some .r) → SD P gl hn ops o e Hx (upd e o.dst r) Hy → Hy = Hx := by
    intro o Hx Hy r hc h
    rcases h with ⟨r', _, h1, _⟩ | ⟨_, he, _⟩
    · have := h1.2
      rcases hc with hc | hc | hc <;> rw [hc] at this
      · exact this.1
      · exact this
      · exact this
    · exact he
  split at hi3
  · -- the first is without memory
    rename_i c2 hc1 hc2
    have := same (.inl hc1) h1
    subst this
    exact hfin H2 ha (stay h1 (pstay hc1))
  · rename_i c1 hc1 hc2
    have := same (.inl hc2) ha
    subst this
    exact hfin H (stay ha (pstay hc2)) h1
  · rename_i hc1 hc2
    have := same (.inr (.inl hc1)) h1
    subst this
    have := same (.inr (.inl hc2)) ha
    subst this
    exact hfin _ ha h1
  · rename_i hc1 hc2
    have := same (.inr (.inl hc1)) h1
    subst this
    have := same (.inr (.inr hc2)) ha
    subst this
    exact hfin _ ha h1
  · rename_i hc1 hc2
    have := same (.inr (.inr hc1)) h1
    subst this
    have := same (.inr (.inl hc2)) ha
    subst this
    exact hfin _ ha h1
  · rename_i hc1 hc2
    have := same (.inr (.inr hc1)) h1
    subst this
    have := same (.inr (.inr hc2)) ha
    subst this
    exact hfin _ ha h1
  · -- a look, then something new
    rename_i hc1 hc2
    have := same (.inr (.inl hc1)) h1
    subst this
    have hk : keeps H1 H2 := by
      rcases ha with ⟨r', _, hs, _⟩ | ⟨_, he, _⟩
      · have := hs.2; rw [hc2] at this; exact this
      · subst he; exact fun _ _ h => h
    exact hfin H2 ha (stay h1 (fun {r'} hs => ⟨load_keeps hc1 hk hs.1, by rw [hc1]⟩))
  · -- two stores into different cells
    rename_i hc1 hc2
    simp only [Bool.and_eq_true] at hi3
    obtain ⟨⟨hs1, hs2⟩, hap⟩ := hi3
    rcases h1 with ⟨ra, hea, k1, hg1⟩ | ⟨hea, rfl, hg1⟩
    · rcases ha with ⟨rb, heb, k2, hg2⟩ | ⟨heb, rfl, hg2⟩
      · obtain ⟨oa, offa, sza, xa, ca, a1, a2, a3, a4, rfl, a6, a7⟩ := store_step hs1 k1.1
        obtain ⟨ob, offb, szb, xb, cb, b1, b2, b3, b4, rfl, b6, b7⟩ := store_step hs2 k2.1
        simp only [apartH, Bool.and_eq_true, Nat.ble_eq, Bool.or_eq_true, Bool.not_eq_true', beq_eq_false_iff_ne] at hap
        obtain ⟨⟨m1, m2⟩, hap⟩ := hap
        obtain ⟨d1, d2, d3⟩ := hint_dec m1 a4
        obtain ⟨d4, d5, d6⟩ := hint_dec m2 b4
        rw [d1, d2, d3, d4, d5, d6] at hap
        subst a6
        subst a3
        subst b3
        by_cases hoo : oa = ob
        · subst hoo
          have hol : oa < H.length := (List.getElem?_eq_some_iff.1 a1).1
          have hcb : cb = over ca offa xa := by
            rw [List.getElem?_set_self hol] at b1
            cases b1; rfl
          subst hcb
          have hlb : offb + xb.length ≤ ca.length := by rw [over_length a2] at b2; exact b2
          have hdis : offa + xa.length ≤ offb ∨ offb + xb.length ≤ offa := by
            rcases hap with (h | h) | h
            · exact absurd rfl h
            · exact .inl h
            · exact .inr h
          have e1 : H2 = (H.set oa (.cells (over ca offb xb))).set oa (.cells (over (over ca offb xb) offa xa)) := by
            rw [b6, List.set_set, List.set_set, over_comm a2 hlb hdis]
          refine hfin (H.set oa (.cells (over ca offb xb))) (.inl ⟨_, heb, ⟨b7 H ca a1 hlb, by rw [hc2]; trivial⟩, hg2⟩) (.inl ⟨_, hea, ⟨?_, by rw [hc1]; trivial⟩, hg1⟩)
          rw [e1]
          exact a7 _ _ (List.getElem?_set_self hol) (by rw [over_length hlb]; exact a2)
        · have b1' : H[ob]? = some (.cells cb) := by rw [List.getElem?_set_ne hoo] at b1; exact b1
          refine hfin (H.set ob (.cells (over cb offb xb))) (.inl ⟨_, heb, ⟨b7 H cb b1' b2, by rw [hc2]; trivial⟩, hg2⟩) (.inl ⟨_, hea, ⟨?_, by rw [hc1]; trivial⟩, hg1⟩)
          rw [b6, List.set_comm _ _ (fun e => hoo e)]
          exact a7 _ _ (by rw [List.getElem?_set_ne (fun e => hoo e.symm)]; exact a1) a2
      · exact hfin H (.inr ⟨heb, rfl, hg2⟩) (.inl ⟨ra, hea, k1, hg1⟩)
    · exact hfin H2 ha (.inr ⟨hea, rfl, hg1⟩)
  · -- a look, then a store into other cells
    rename_i hc1 hc2
    simp only [Bool.and_eq_true] at hi3
    obtain ⟨⟨hs1, hs2⟩, hap⟩ := hi3
    have := same (.inr (.inl hc1)) h1
    subst this
    rcases ha with ⟨rb, heb, k2, hg2⟩ | ⟨heb, rfl, hg2⟩
    · obtain ⟨ob, offb, szb, xb, cb, b1, b2, b3, b4, rfl, b6, b7⟩ := store_step hs2 k2.1
      have kk := k2
      subst b6
      exact hfin _ (.inl ⟨_, heb, kk, hg2⟩) (stay h1 (fun {r'} hs => ⟨(load_store hs1 b1 b2 b3 b4 (.inl hap)).1 hs.1, by rw [hc1]⟩))
    · exact hfin _ (.inr ⟨heb, rfl, hg2⟩) h1
  · -- a store, then a look at other cells
    rename_i hc1 hc2
    simp only [Bool.and_eq_true] at hi3
    obtain ⟨⟨hs1, hs2⟩, hap⟩ := hi3
    have := same (.inr (.inl hc2)) ha
    subst this
    rcases h1 with ⟨ra, hea, k1, hg1⟩ | ⟨hea, rfl, hg1⟩
    · obtain ⟨oa, offa, sza, xa, ca, a1, a2, a3, a4, rfl, a6, a7⟩ := store_step hs1 k1.1
      have kk := k1
      subst a6
      refine hfin H ?_ (.inl ⟨_, hea, kk, hg1⟩)
      exact stay ha (fun {r'} hs => ⟨(load_store hs2 a1 a2 a3 a4 (.inr hap)).2 hs.1, by rw [hc2]⟩)
    · exact hfin H2 ha (.inr ⟨hea, rfl, hg1⟩)
  · cases hi3

theorem bubble {P : Program} {gl : Glob} {hn : Oper → Nat} {ops : Array Oper} {i : Nat} {B : List Nat} : ∀ (A : List Nat) (e : Env) (H : Heap) (e2 : Env) (H2 : Heap),
    (∀ k ∈ A, ∀ ok oi, ops[k]? = some ok → ops[i]? = some oi → indep ops hn ok oi = true) → Chain P gl hn ops (A ++ i :: B) e H e2 H2 → Chain P gl hn ops (i :: (A ++ B)) e H e2 H2 := by
  intro A
  induction A with
  | nil => intro e H e2 H2 _ h; exact h
  | cons k A ih =>
    intro e H e2 H2 hi h
    rw [List.cons_append] at h
    cases h with
    | cons ho h1 hs =>
      have hs' := ih _ _ _ _ (fun q hq => hi q (by simp [hq])) hs
      cases hs' with
      | cons ho' h2 hs2 =>
        obtain ⟨ea, Ha, k1, k2⟩ := swap (hi k (by simp) _ _ ho ho') h1 h2
        exact .cons ho' k1 (.cons ho k2 hs2)

/-- the order of a row that has been drawn, held against the text's -/
def RespR (ops : Array Oper) (hn : Oper → Nat) (i j : Nat) : Prop := j < i → ∀ oj oi, ops[j]? = some oj → ops[i]? = some oi → indep ops hn oj oi = true

theorem perm_chain {P : Program} {gl : Glob} {hn : Oper → Nat} {ops : Array Oper} : ∀ (σ L : List Nat) (e : Env) (H : Heap) (e2 : Env) (H2 : Heap),
    L.Pairwise (· < ·) → σ.Perm L → σ.Pairwise (RespR ops hn) → Chain P gl hn ops L e H e2 H2 → Chain P gl hn ops σ e H e2 H2 := by
  intro σ
  induction σ with
  | nil =>
    intro L e H e2 H2 _ hp _ h
    have : L = [] := List.Perm.eq_nil hp.symm
    subst this; exact h
  | cons i σ ih =>
    intro L e H e2 H2 hL hp hR h
    have hi : i ∈ L := hp.subset (by simp)
    obtain ⟨A, B, rfl⟩ := List.append_of_mem hi
    have hb := bubble A e H e2 H2 (fun k hk ok oi h1 h2 => by
      have hlt : k < i := by
        have := (List.pairwise_append.1 hL).2.2 k hk i (by simp)
        exact this
      have hkσ : k ∈ σ := by
        have : k ∈ i :: σ := hp.symm.subset (by simp [hk])
        rcases List.mem_cons.1 this with e | h
        · omega
        · exact h
      exact (List.pairwise_cons.1 hR).1 k hkσ hlt ok oi h1 h2) h
    cases hb with
    | cons ho h1 hs =>
      refine .cons ho h1 (ih (A ++ B) _ _ _ _ ?_ ?_ (List.pairwise_cons.1 hR).2 hs)
      · exact hL.sublist (by simp)
      · exact (List.perm_cons i).1 (hp.trans (List.perm_middle))

/-- a list in which each stands behind what it waits for -/
def Closed (md : Region.Mode) (ops : Array Oper) (l : List Nat) : Prop :=
  ∀ (p i : Nat) (o : Oper), l[p]? = some i → ops[i]? = some o → ∀ e ∈ o.after, Region.binds md e = true → e.on ∈ l.take p

/-- what binds at all binds to what stands ahead in the text -/
def backEdges (ops : Array Oper) : Bool := (List.range ops.size).all fun i => match ops[i]? with
  | some o => o.after.toList.all fun e => !Region.binds .any e || decide (e.on < i)
  | none => true

theorem backEdges_spec {ops : Array Oper} (h : backEdges ops = true) {i : Nat} {o : Oper} (ho : ops[i]? = some o) {e : Edge} (he : e ∈ o.after) (hb : Region.binds .any e = true) : e.on < i := by
  have hi : i < ops.size := (Array.getElem?_eq_some_iff.1 ho).1
  have := List.all_eq_true.1 h i (by simpa using hi)
  rw [ho] at this
  simp only [List.all_eq_true, Bool.or_eq_true, decide_eq_true_eq, Bool.not_eq_true'] at this
  rcases this e (by simpa using he) with h | h
  · rw [hb] at h; cases h
  · exact h

/-- an order in which each stands behind what it waits for, as a number for each -/
def rankB (md : Region.Mode) (ops : Array Oper) (rk : List Nat) : Bool := (List.range ops.size).all fun i => match ops[i]? with
  | some o => o.after.toList.all fun e => decide (e.on < ops.size) && (!Region.binds md e || decide (rk.getD e.on 0 < rk.getD i 0))
  | none => true

theorem rankB_spec {md : Region.Mode} {ops : Array Oper} {rk : List Nat} (h : rankB md ops rk = true) {i : Nat} {o : Oper} (ho : ops[i]? = some o) {e : Edge} (he : e ∈ o.after) :
    e.on < ops.size ∧ (Region.binds md e = true → rk.getD e.on 0 < rk.getD i 0) := by
  have hi : i < ops.size := (Array.getElem?_eq_some_iff.1 ho).1
  have := List.all_eq_true.1 h i (by simpa using hi)
  rw [ho] at this
  simp only [List.all_eq_true, Bool.and_eq_true, Bool.or_eq_true, decide_eq_true_eq, Bool.not_eq_true'] at this
  obtain ⟨h1, h2⟩ := this e (by simpa using he)
  refine ⟨h1, fun hb => ?_⟩
  rcases h2 with h2 | h2
  · rw [hb] at h2; cases h2
  · exact h2

/-- the places of a first try -/
def ranks (md : Region.Mode) (ops : Array Oper) : List Nat :=
  let l := Region.linearise md ops 0
  (List.range ops.size).map fun i => l.idxOf i

theorem lin_go {md : Region.Mode} {ops : Array Oper} {rk : List Nat} (hb : rankB md ops rk = true) : ∀ (fuel t : Nat) (listed : Array Bool) (acc : List Nat), listed.size = ops.size → (∀ i, i < ops.size → (listed.getD i true = true ↔ i ∈ acc)) →
    acc.Nodup → (∀ i ∈ acc, i < ops.size) → Closed md ops acc.reverse → acc.length + fuel = ops.size →
    (Region.linearise.go md ops fuel t listed acc).Nodup ∧ (∀ i ∈ Region.linearise.go md ops fuel t listed acc, i < ops.size) ∧ Closed md ops (Region.linearise.go md ops fuel t listed acc) ∧
      (Region.linearise.go md ops fuel t listed acc).length = ops.size := by
  intro fuel
  induction fuel with
  | zero =>
    intro t listed acc _ _ h3 h4 h5 h6
    simp only [Region.linearise.go]
    exact ⟨(List.reverse_perm acc).nodup_iff.2 h3, fun i hi => h4 i (by simpa using hi), h5, by simpa using h6⟩
  | succ fuel ih =>
    intro t listed acc h1 h2 h3 h4 h5 h6
    simp only [Region.linearise.go]
    generalize hrs : ((List.range ops.size).filter fun i => !listed.getD i true && ((ops[i]?).map (·.after.all fun e => !Region.binds md e || listed.getD e.on false)).getD false) = rs
    -- something is ready
    have hne : 0 < rs.length := by
      -- the least that isn't listed
      have hex : ∃ i, i < ops.size ∧ i ∉ acc := by
        rcases Classical.em (∃ i, i < ops.size ∧ i ∉ acc) with h | h
        · exact h
        · exfalso
          have hall : ∀ i ∈ List.range ops.size, i ∈ acc := by
            intro i hi
            rcases Classical.em (i ∈ acc) with h' | h'
            · exact h'
            · exact absurd ⟨i, by simpa using hi, h'⟩ h
          have := List.Nodup.length_le_of_subset (List.nodup_range) hall
          simp at this
          omega
      obtain ⟨r, ⟨i, hi, hri⟩, hmin0⟩ := exists_least (p := fun r => ∃ i, (i < ops.size ∧ i ∉ acc) ∧ rk.getD i 0 = r) (by obtain ⟨i, hi⟩ := hex; exact ⟨_, i, hi, rfl⟩)
      have hmin : ∀ k, k < ops.size ∧ k ∉ acc → r ≤ rk.getD k 0 := fun k hk => hmin0 _ ⟨k, hk, rfl⟩
      have hmem : i ∈ rs := by
        rw [← hrs]
        simp only [List.mem_filter, List.mem_range, Bool.and_eq_true, Bool.not_eq_true']
        refine ⟨hi.1, ?_, ?_⟩
        · cases hl : listed.getD i true
          · rfl
          · exact absurd ((h2 i hi.1).1 hl) hi.2
        · rw [Array.getElem?_eq_getElem hi.1]
          simp only [Option.map_some, Option.getD_some]
          rw [Array.all_eq_true']
          intro e he
          obtain ⟨hos, hlt⟩ := rankB_spec hb (Array.getElem?_eq_getElem hi.1) he
          cases hbe : Region.binds md e with
          | false => simp
          | true =>
          have hlt := hlt hbe
          have hin : e.on ∈ acc := by
            rcases Classical.em (e.on ∈ acc) with h' | h'
            · exact h'
            · exact absurd (hmin e.on ⟨hos, h'⟩) (by omega)
          have hl := (h2 e.on hos).2 hin
          have : listed.getD e.on false = true := by
            have hs : e.on < listed.size := by omega
            simp only [Array.getD, hs, dif_pos] at hl ⊢
            exact hl
          simp [this]
      exact List.length_pos_of_mem hmem
    have hlt : t % rs.length < rs.length := Nat.mod_lt _ hne
    rw [List.getElem?_eq_getElem hlt]
    simp only
    generalize hi : rs[t % rs.length] = i
    have hmem : i ∈ rs := by rw [← hi]; exact List.getElem_mem hlt
    rw [← hrs] at hmem
    simp only [List.mem_filter, List.mem_range, Bool.and_eq_true, Bool.not_eq_true'] at hmem
    obtain ⟨hio, hnl, hrd⟩ := hmem
    have hnot : i ∉ acc := by
      intro h'
      have := (h2 i hio).2 h'
      rw [this] at hnl; cases hnl
    refine ih (t / rs.length) (listed.setIfInBounds i true) (i :: acc) (by simpa using h1) ?_ (List.nodup_cons.2 ⟨hnot, h3⟩) ?_ ?_ (by simp; omega)
    · intro k hk
      by_cases hki : k = i
      · subst hki
        have : k < listed.size := by omega
        simp [Array.getD, this]
      · have h7 := h2 k hk
        simp only [Array.getD_eq_getD_getElem?] at h7 ⊢
        rw [Array.getElem?_setIfInBounds_ne (Ne.symm hki), h7]
        simp [hki]
    · intro k hk
      rcases List.mem_cons.1 hk with rfl | hk
      · exact hio
      · exact h4 k hk
    · intro p k o hp ho e he hbe
      rw [List.reverse_cons] at hp ⊢
      rcases getElem?_snoc _ _ _ _ hp with ⟨hp, hpl⟩ | ⟨rfl, rfl⟩
      · rw [List.take_append_of_le_length (by omega)]
        exact h5 p k o hp ho e he hbe
      · rw [List.take_left']
        · rw [ho] at hrd
          simp only [Option.map_some, Option.getD_some] at hrd
          have := Array.all_eq_true'.1 hrd e he
          rw [hbe] at this
          simp only [Bool.not_true, Bool.false_or] at this
          have hlt' : e.on < ops.size := (rankB_spec hb ho he).1
          have : listed.getD e.on true = true := by
            have hs : e.on < listed.size := by omega
            simp only [Array.getD, hs, dif_pos] at this ⊢
            exact this
          have := (h2 e.on (by omega)).1 this
          simpa using this
        · rfl

/-- what an operation waits for, at first and second hand -/
def addAll (acc : List (List Nat)) (o : Oper) : List Nat :=
  (o.after.toList.filter (Region.binds .any)).foldl (fun s e => s ++ (e.on :: acc.getD e.on []).filter (fun x => !s.contains x)) []

def ancB (ops : List Oper) : List (List Nat) := ops.foldl (fun acc o => acc ++ [addAll acc o]) []

theorem addAll_mem {acc : List (List Nat)} {o : Oper} {j : Nat} (h : j ∈ addAll acc o) : ∃ e ∈ o.after, Region.binds .any e = true ∧ (j = e.on ∨ j ∈ acc.getD e.on []) := by
  unfold addAll at h
  have gen : ∀ (es : List Edge) (s : List Nat), j ∈ es.foldl (fun s e => s ++ (e.on :: acc.getD e.on []).filter (fun x => !s.contains x)) s → j ∈ s ∨ ∃ e ∈ es, j = e.on ∨ j ∈ acc.getD e.on [] := by
    intro es
    induction es with
    | nil => intro s h; exact .inl h
    | cons e es ih =>
      intro s h
      rcases ih _ h with h | ⟨e', he', h⟩
      · rcases List.mem_append.1 h with h | h
        · exact .inl h
        · have := (List.mem_filter.1 h).1
          exact .inr ⟨e, by simp, List.mem_cons.1 this⟩
      · exact .inr ⟨e', by simp [he'], h⟩
  rcases gen _ _ h with h | ⟨e, he, h⟩
  · cases h
  · have := List.mem_filter.1 he
    exact ⟨e, by simpa using this.1, this.2, h⟩

theorem ancB_snoc (l : List Oper) (o : Oper) : ancB (l ++ [o]) = ancB l ++ [addAll (ancB l) o] := by
  simp [ancB, List.foldl_append]

theorem ancB_length : ∀ (l : List Oper), (ancB l).length = l.length := by
  intro l
  have gen : ∀ (l : List Oper) (acc : List (List Nat)), (l.foldl (fun acc o => acc ++ [addAll acc o]) acc).length = acc.length + l.length := by
    intro l
    induction l with
    | nil => intro acc; rfl
    | cons o l ih => intro acc; simp only [List.foldl_cons, ih]; simp; omega
  have := gen l []
  simpa [ancB] using this

theorem ancB_mem (ops : List Oper) : ∀ (n : Nat), n ≤ ops.length → ∀ (i j : Nat) (o : Oper), i < n → ops[i]? = some o → (∀ e ∈ o.after, Region.binds .any e = true → e.on < i) → j ∈ (ancB (ops.take n)).getD i [] →
    ∃ e ∈ o.after, Region.binds .any e = true ∧ (j = e.on ∨ j ∈ (ancB (ops.take n)).getD e.on []) := by
  intro n
  induction n with
  | zero => intro _ i j o hi; omega
  | succ n ih =>
    intro hn i j o hi ho hback hj
    have hlt : n < ops.length := by omega
    have htake : ops.take (n + 1) = ops.take n ++ [ops[n]] := by
      rw [List.take_succ_eq_append_getElem hlt]
    rw [htake, ancB_snoc] at hj ⊢
    have hlen : (ancB (ops.take n)).length = n := by rw [ancB_length]; simp; omega
    have hget : ∀ k, k < n → (ancB (ops.take n) ++ [addAll (ancB (ops.take n)) ops[n]]).getD k [] = (ancB (ops.take n)).getD k [] := by
      intro k hk
      simp only [List.getD_eq_getElem?_getD]
      rw [List.getElem?_append_left (by omega)]
    by_cases hin : i < n
    · rw [hget i hin] at hj
      obtain ⟨e, he, hb, h⟩ := ih (by omega) i j o hin ho hback hj
      refine ⟨e, he, hb, ?_⟩
      have := hback e he hb
      rw [hget e.on (by omega)]; exact h
    · have hieq : i = n := by omega
      subst hieq
      have ho' : ops[i] = o := by rw [List.getElem?_eq_getElem hlt] at ho; exact Option.some.inj ho
      have : (ancB (ops.take i) ++ [addAll (ancB (ops.take i)) ops[i]]).getD i [] = addAll (ancB (ops.take i)) ops[i] := by
        simp only [List.getD_eq_getElem?_getD]
        rw [List.getElem?_append_right (by omega), hlen]; simp
      rw [this, ho'] at hj
      obtain ⟨e, he, hb, h⟩ := addAll_mem hj
      refine ⟨e, he, hb, ?_⟩
      have := hback e he hb
      rw [hget e.on (by omega)]; exact h

theorem closed_anc {md : Region.Mode} {ops : Array Oper} (hb : backEdges ops = true) {l : List Nat} (hl : Closed md ops l) (hr : ∀ i ∈ l, i < ops.size) :
    ∀ (p i : Nat), l[p]? = some i → ∀ j ∈ (ancB ops.toList).getD i [], j ∈ l.take p := by
  intro p
  induction p using Nat.strongRecOn with
  | _ p ih =>
    intro i hp j hj
    have hi : i < ops.size := hr i (List.mem_of_getElem? hp)
    have hm := ancB_mem ops.toList ops.size (by simp) i j ops[i] hi (by simp) (fun e he hbe => backEdges_spec hb (Array.getElem?_eq_getElem hi) he hbe)
    have htk : ops.toList.take ops.size = ops.toList := by rw [List.take_of_length_le (by simp)]
    rw [htk] at hm
    obtain ⟨e, he, hbe, h⟩ := hm hj
    have hbe' : Region.binds md e = true := by
      unfold Region.binds at hbe ⊢
      split <;> simp_all
    have hin := hl p i ops[i] hp (Array.getElem?_eq_getElem hi) e he hbe'
    rcases h with rfl | h
    · exact hin
    · obtain ⟨p', hp'⟩ := List.mem_iff_getElem?.1 hin
      have hlt : p' < p := by
        have := (List.getElem?_eq_some_iff.1 hp').1
        simp at this; omega
      rw [List.getElem?_take, if_pos hlt] at hp'
      have := ih p' hlt e.on hp' j h
      exact (List.take_subset_take_left l (Nat.le_of_lt hlt)) this

/-- a row whose order may be drawn: each two that hang together stand in order -/
def okOrder (ops : Array Oper) (hn : Oper → Nat) : Bool :=
  (backEdges ops && rankB .any ops (ranks .any ops) && (!Region.departs ops || rankB .text ops (ranks .text ops)) && (!Region.departs ops || rankB .gc ops (ranks .gc ops))) && (ops.toList.all fun o => (cl (hn o) o.op).isSome) &&
  (let anc := ancB ops.toList
   (List.range ops.size).all fun i => (List.range i).all fun j => match ops[j]?, ops[i]? with
    | some oj, some oi => indep ops hn oj oi || (anc.getD i []).contains j
    | _, _ => true)

theorem schedule_ok {ops : Array Oper} {hn : Oper → Nat} (h : okOrder ops hn = true) (mixed : Bool) (t : Nat) :
    (Region.schedule mixed ops t).Perm (List.range ops.size) ∧ (Region.schedule mixed ops t).Pairwise (RespR ops hn) := by
  simp only [okOrder, Bool.and_eq_true] at h
  obtain ⟨⟨⟨⟨⟨hb, hra⟩, hrt⟩, hrg⟩, _⟩, hd⟩ := h
  have main : ∀ md t, rankB md ops (ranks md ops) = true → (Region.linearise md ops t).Perm (List.range ops.size) ∧ (Region.linearise md ops t).Pairwise (RespR ops hn) := by
    intro md t hrk
    unfold Region.linearise
    obtain ⟨k1, k2, k3, k4⟩ := lin_go (md := md) hrk ops.size t (Array.replicate ops.size false) [] (by simp) (fun i hi => by simp [Array.getD, hi]) (by simp) (by simp) (fun p i o hp => by simp at hp) (by simp)
    generalize Region.linearise.go md ops ops.size t (Array.replicate ops.size false) [] = l at k1 k2 k3 k4
    refine ⟨?_, ?_⟩
    · refine (List.perm_ext_iff_of_nodup k1 List.nodup_range).2 fun a => ⟨fun ha => by simpa using k2 a ha, fun ha => ?_⟩
      rcases Classical.em (a ∈ l) with h | h
      · exact h
      · exfalso
        have h1 : (a :: l).Nodup := List.nodup_cons.2 ⟨h, k1⟩
        have h2 : (a :: l) ⊆ List.range ops.size := by
          intro x hx
          rcases List.mem_cons.1 hx with rfl | hx
          · exact ha
          · simpa using k2 x hx
        have := List.Nodup.length_le_of_subset h1 h2
        simp at this
        omega
    · rw [List.pairwise_iff_getElem]
      intro p q hp hq hpq hlt oj oi hoj hoi
      have hiq := k2 _ (List.getElem_mem hp)
      have hc := List.all_eq_true.1 hd (l[p]) (by simpa using hiq)
      have hc := List.all_eq_true.1 hc (l[q]) (by simpa using hlt)
      rw [hoj, hoi] at hc
      simp only [Bool.or_eq_true] at hc
      rcases hc with hc | hc
      · exact hc
      · exfalso
        have := closed_anc hb k3 k2 p l[p] (List.getElem?_eq_getElem hp) l[q] (by simpa using hc)
        obtain ⟨r, hr⟩ := List.mem_iff_getElem?.1 this
        have hrp : r < p := by
          have := (List.getElem?_eq_some_iff.1 hr).1
          simp at this; omega
        rw [List.getElem?_take, if_pos hrp] at hr
        have hrl : r < l.length := by omega
        rw [List.getElem?_eq_getElem hrl] at hr
        have := (List.getElem_inj k1).1 (Option.some.inj hr)
        omega
  unfold Region.schedule
  split
  · exact main _ _ hra
  · rename_i hdep
    have hdp : Region.departs ops = true := by
      revert hdep
      cases mixed <;> cases Region.departs ops <;> simp
    rw [hdp] at hrt hrg
    simp only [Bool.not_true, Bool.false_or] at hrt hrg
    split
    · exact main _ _ hrt
    · exact main _ _ hrg

end Go.AM

/-! AM, part 16: a region whose order is drawn. -/
namespace Go.AM
open Go

def regd (P : Program) (gl : Glob) (hn : Oper → Nat) (ops : Array Oper) : List Oper → Env → Heap → (Env → Heap → Prop) → Prop
  | [], e, H, K => K e H
  | o :: l, e, H, K =>
    match o.guard with
    | none => opwD P gl o.op (hn o) (ev gl e) H fun x H' => regd P gl hn ops l (upd e o.dst x) H' K
    | some (j, want) => match (ops[j]?).bind (·.dst) with
      | some d => match e d with
        | .bool b => (b = want → opwD P gl o.op (hn o) (ev gl e) H fun x H' => regd P gl hn ops l (upd e o.dst x) H' K) ∧ (b = !want → regd P gl hn ops l (upd e o.dst (.tup [])) H K)
        | .tup [] => regd P gl hn ops l (upd e o.dst (.tup [])) H K
        | _ => False
      | none => False

def RegDK (P : Program) (gl : Glob) (hn : Oper → Nat) (ops : Array Oper) (l : List Oper) (e : Env) (d : Option Tmp) (K : Env → Heap → Prop) : PV → Heap → Prop :=
  fun x H' => regd P gl hn ops l (upd e d x) H' K

theorem regd_nil (P : Program) (gl : Glob) (hn : Oper → Nat) (ops : Array Oper) (e : Env) (H : Heap) (K : Env → Heap → Prop) : regd P gl hn ops [] e H K = K e H := rfl

theorem regd_none (P : Program) (gl : Glob) (hn : Oper → Nat) (ops : Array Oper) (d : Option Tmp) (op : Op) (ty : TypeId) (pos : String) (af : Array Edge) (l : List Oper) (e : Env) (H : Heap) (K : Env → Heap → Prop) :
    regd P gl hn ops (⟨d, op, ty, pos, af, none⟩ :: l) e H K = opwD P gl op (hn ⟨d, op, ty, pos, af, none⟩) (ev gl e) H (RegDK P gl hn ops l e d K) := rfl

theorem regd_some (P : Program) (gl : Glob) (hn : Oper → Nat) (ops : Array Oper) (d : Option Tmp) (op : Op) (ty : TypeId) (pos : String) (af : Array Edge) (j : Nat) (want : Bool) (l : List Oper) (e : Env) (H : Heap) (K : Env → Heap → Prop) :
    regd P gl hn ops (⟨d, op, ty, pos, af, some (j, want)⟩ :: l) e H K = match (ops[j]?).bind (·.dst) with
      | some t => match e t with
        | .bool b => (b = want → opwD P gl op (hn ⟨d, op, ty, pos, af, some (j, want)⟩) (ev gl e) H (RegDK P gl hn ops l e d K)) ∧ (b = !want → regd P gl hn ops l (upd e d (.tup [])) H K)
        | .tup [] => regd P gl hn ops l (upd e d (.tup [])) H K
        | _ => False
      | none => False := rfl

theorem RegDK_apply (P : Program) (gl : Glob) (hn : Oper → Nat) (ops : Array Oper) (l : List Oper) (e : Env) (d : Option Tmp) (K : Env → Heap → Prop) (x : PV) (H : Heap) :
    RegDK P gl hn ops l e d K x H = regd P gl hn ops l (upd e d x) H K := rfl

theorem regd_chain {P : Program} {gl : Glob} {hn : Oper → Nat} {ops : Array Oper} {K : Env → Heap → Prop} (hc : ∀ o ∈ ops.toList, (cl (hn o) o.op).isSome = true) : ∀ (is : List Nat) (l : List Oper) (e : Env) (H : Heap),
    is.map (fun i => ops[i]?) = l.map some → regd P gl hn ops l e H K → ∃ e2 H2, Chain P gl hn ops is e H e2 H2 ∧ K e2 H2 := by
  intro is
  induction is with
  | nil =>
    intro l e H hl h
    have : l = [] := by simpa using hl
    subst this
    exact ⟨e, H, .nil e H, h⟩
  | cons i is ih =>
    intro l e H hl h
    cases l with
    | nil => simp at hl
    | cons o l =>
      simp only [List.map_cons, List.cons.injEq] at hl
      obtain ⟨hi, hl⟩ := hl
      have hmem : o ∈ ops.toList := by
        obtain ⟨hlt, he⟩ := Array.getElem?_eq_some_iff.1 hi
        rw [← he]; exact Array.getElem_mem_toList hlt
      unfold regd at h
      split at h
      · rename_i hg
        obtain ⟨r, H', hk, hs⟩ := opwD_step (hc o hmem) h
        obtain ⟨e2, H2, h1, h2⟩ := ih l _ _ hl hk
        exact ⟨e2, H2, .cons hi (.inl ⟨r, rfl, hs, by rw [hg]; trivial⟩) h1, h2⟩
      · rename_i j want hg
        split at h
        · rename_i d hd
          split at h
          · rename_i b hb
            by_cases hbw : b = want
            · obtain ⟨r, H', hk, hs⟩ := opwD_step (hc o hmem) (h.1 hbw)
              obtain ⟨e2, H2, h1, h2⟩ := ih l _ _ hl hk
              exact ⟨e2, H2, .cons hi (.inl ⟨r, rfl, hs, by rw [hg]; exact ⟨d, hd, by rw [hb, hbw]⟩⟩) h1, h2⟩
            · have hbn : b = !want := by revert hbw; cases b <;> cases want <;> simp
              obtain ⟨e2, H2, h1, h2⟩ := ih l _ _ hl (h.2 hbn)
              exact ⟨e2, H2, .cons hi (.inr ⟨rfl, rfl, j, want, d, hg, hd, .inl (by rw [hb, hbn])⟩) h1, h2⟩
          · rename_i hb
            obtain ⟨e2, H2, h1, h2⟩ := ih l _ _ hl h
            exact ⟨e2, H2, .cons hi (.inr ⟨rfl, rfl, j, want, d, hg, hd, .inr hb⟩) h1, h2⟩
          · exact h.elim
        · exact h.elim

theorem yielded_of {gl : Glob} {n : Nat} {g : Gh} {e : Env} {H : Heap} {a : Act} {w : World} (hst : St gl n g e H a w) {ops : Array Oper} {j : Nat} {d : Tmp} {b : Bool} (hd : (ops[j]?).bind (·.dst) = some d) (hb : e d = .bool b) :
    yielded ops a.tmps j = some b := by
  unfold yielded
  rw [hd]
  simp only [Option.bind_some]
  have hr := hst.env.2 d
  rw [hb] at hr
  have hlt : d < a.tmps.size := by
    rcases Nat.lt_or_ge d a.tmps.size with h | h
    · exact h
    · exfalso
      rw [Array.getD_eq_getD_getElem?, Array.getElem?_eq_none h] at hr
      simp only [Option.getD_none, undef] at hr
      cases hr
  rw [Array.getD_eq_getD_getElem?, Array.getElem?_eq_getElem hlt] at hr
  rw [Array.getElem?_eq_getElem hlt]
  simp only [Option.getD_some] at hr
  generalize a.tmps[d] = v at hr
  cases hr; rfl

theorem chain_sound {P : Program} {gl : Glob} {hn : Oper → Nat} {n : Nat} {ops : Array Oper} (hd : ops.toList.all (dstLt n) = true) {e2 : Env} {H2 : Heap} : ∀ (is : List Nat) (g : Gh) (e : Env) (H : Heap) (a : Act) (w : World),
    St gl n g e H a w → Chain P gl hn ops is e H e2 H2 →
    wpOps P ops (fun ex a' w' => ∃ g', ex = .normal ∧ St gl n g' e2 H2 a' w' ∧ Ext g H w g' H2 w') is a w := by
  intro is
  induction is with
  | nil =>
    intro g e H a w hst h
    cases h
    exact ⟨g, rfl, hst, .refl _ _ _⟩
  | cons i is ih =>
    intro g e H a w hst h
    cases h with
    | cons ho h1 hs =>
      rename_i o e1 H1
      have hmem : o ∈ ops.toList := by
        obtain ⟨hlt, he⟩ := Array.getElem?_eq_some_iff.1 ho
        rw [← he]; exact Array.getElem_mem_toList hlt
      have hdo : ∀ t, o.dst = some t → t < n := by
        intro t ht
        have := List.all_eq_true.1 hd o hmem
        simpa [dstLt, ht] using this
      unfold wpOps
      rw [ho]
      simp only
      rcases h1 with ⟨r, rfl, hst1, hg⟩ | ⟨rfl, rfl, j, want, d, hg, hdd, hb⟩
      · have hw : Region.wanted o (yielded ops a.tmps) = true := by
          unfold Region.wanted
          split at hg
          · rename_i hgn; rw [hgn]
          · rename_i j want hgs
            obtain ⟨d, hdd, hb⟩ := hg
            rw [hgs]
            simp [yielded_of hst hdd hb]
        rw [if_pos hw]
        left
        have hno := opw_sound hst.sim hst.glob (o := o) (a := a) (fun x => hst.env.ev hst.glob x) hst1.1
        have cont : ∀ (g1 : Gh) (H1' : Heap) (w1 : World) (x : PV) (v : Value), Sim g1 H1' w1 → Ext g H w g1 H1' w1 → Rel g1 w1 x v → (x = r ∧ H1' = H1) →
            wpOps P ops (fun ex a' w' => ∃ g', ex = .normal ∧ St gl n g' e2 H2 a' w' ∧ Ext g H w g' H2 w') is (a.put o.dst v) w1 := by
          rintro g1 H1' w1 x v k1 k2 k3 ⟨rfl, rfl⟩
          have := ih g1 (upd e o.dst x) H1' (a.put o.dst v) w1 (hst.next k1 k2 k3 o.dst hdo) hs
          refine wpOps_mono _ ?_ _ _ this
          rintro ex a' w' ⟨g', rfl, j1, j2⟩
          exact ⟨g', rfl, j1, k2.trans j2⟩
        unfold Oper.wp
        rcases hno with ⟨v, w', g', H', x, h1, h2, h3, h4, h5⟩ | ⟨w', g', H', h1, h2, h3, h4⟩ | ⟨f, vs, h1, h2⟩
        · rw [h1]; exact cont g' H' w' x v h2 h3 h4 h5
        · rw [h1]; exact cont g' H' w' (.tup []) undef h2 h3 (undef_rel g' w') h4
        · rw [h1]
          refine h2.mono ?_
          rintro ex w' ⟨v, g', H', x, rfl, k1, k2, k3, k4⟩
          exact cont g' H' w' x v k1 k2 k3 k4
      · have hw : ¬ Region.wanted o (yielded ops a.tmps) = true := by
          unfold Region.wanted
          rw [hg]
          rcases hb with hb | hb
          · simp [yielded_of hst hdd hb]
          · simp [yielded_none hst hdd hb]
        rw [if_neg hw]
        exact ih g (upd e o.dst (.tup [])) _ (a.put o.dst undef) w (hst.next hst.sim (.refl _ _ _) (undef_rel g w) o.dst hdo) hs

theorem aw_region_draw {P : Program} {gl : Glob} {n : Nat} {id : Nat} {ops : Array Oper} {Q : Ex → Env → Heap → Prop} {e : Env} {H : Heap} (hn : Oper → Nat) (hok : okOrder ops hn = true) (h : regd P gl hn ops ops.toList e H (Q .normal)) :
    AW P gl n (.region id ops true) Q e H := by
  intro hd g a w hst
  have hcl : ∀ o ∈ ops.toList, (cl (hn o) o.op).isSome = true := by
    have := hok
    simp only [okOrder, Bool.and_eq_true] at this
    exact List.all_eq_true.1 this.1.2
  obtain ⟨e2, H2, hch, hq⟩ := regd_chain hcl _ _ e H (range_getElem? ops) h
  refine wp_region_draw fun t => ?_
  obtain ⟨hp, hr⟩ := schedule_ok hok (P.follows .mixedOrders) t
  have hch' := perm_chain _ _ _ _ _ _ List.pairwise_lt_range hp hr hch
  have hst' : St gl n g e H a w.drew := ⟨hst.sim.drew, hst.glob.mono (Gext.drew g w), hst.env.mono (Gext.drew g w), hst.dfr⟩
  refine wpOps_mono _ ?_ _ _ (chain_sound hd _ g e H a w.drew hst' hch')
  rintro ex a' w' ⟨g', rfl, k1, k2⟩
  exact ⟨.normal, g', e2, H2, trivial, k1, (Ext.drew g H w).trans k2, hq⟩

end Go.AM

/-! AM, part 17: what the arguments' reading tells: pure values, well typed. -/
namespace Go.AM
open Go Go.RowKit

/-- a row that falls apart into rows, each of its type -/
def WFs (R : TypeId → List PV → Prop) : List TypeId → List PV → Prop
  | [], xs => xs = []
  | t :: ts, xs => ∃ a b, xs = a ++ b ∧ R t a ∧ WFs R ts b

def WTp (P : Program) : Nat → TypeId → List PV → Prop
  | 0, _, _ => False
  | k + 1, t, xs => match P.underlying t with
    | some .bool => ∃ b, xs = [.bool b]
    | some (.int kd) => ∃ n, xs = [.int kd n] ∧ kd.min ≤ n ∧ n ≤ kd.max
    | some .string => ∃ s, xs = [.str s] ∧ s.size ≤ maxLen
    | some (.slice e) => ∃ es, xs = [.list es .no] ∧ es.length ≤ maxLen ∧ ∀ r ∈ es, WTp P k e r
    | some (.struct fs) => WFs (WTp P k) (fs.toList.map (·.type)) xs
    | some (.array n e) => WFs (WTp P k) (List.replicate n e) xs
    | _ => False

def offsOk (P : Program) : Nat → List Field → Nat → Bool
  | o, [], n => o == n
  | o, f :: fs, n => f.offset == o && offsOk P (o + P.cellsOf f.type) fs n

/-- the reading knows such a type -/
def fine (P : Program) : Nat → TypeId → Bool
  | 0, _ => false
  | k + 1, t => match P.underlying t with
    | some .bool | some (.int _) | some .string => true
    | some (.slice e) => fine P k e
    | some (.struct fs) => offsOk P 0 fs.toList (P.cellsOf t) && fs.toList.all (fun f => fine P k f.type)
    | some (.array n e) => P.cellsOf t == n * P.cellsOf e && fine P k e
    | _ => false

def gh0 (W : World) : Gh := ⟨0, fun _ => 0, fun _ => 0, fun _ => 0, fun b _ => b < W.heap.size, fun _ _ => False⟩

theorem sim0 (W : World) : Sim (gh0 W) [] W where
  n := rfl
  inj := fun o _ _ _ _ h => by simp at h
  cells := fun o cs h => by simp at h
  tok := fun o h => by simp at h
  imm := fun _ _ h => h
  abs := fun o r h => by simp at h

theorem below_of_ext {W W' : World} {g' : Gh} {H' : Heap} (h : Ext (gh0 W) [] W g' H' W') : Below W.heap.size W W' :=
  ⟨h.os, h.tape, h.output, h.size, fun k hk => h.frame k hk (fun ⟨o, ob, ho, _⟩ => by simp at ho)⟩

theorem cells_lt {w : World} {A : Addr} {v : Value} (h : w.cell? A = some v) : A.block < w.heap.size := by
  unfold World.cell? at h
  split at h
  · rename_i hb; exact (Array.getElem?_eq_some_iff.1 hb).1
  · cases h

theorem cell_spot {w : World} {A : Addr} {v : Value} (h : w.cell? A = some v) : A.spot = none := by
  unfold World.cell? at h
  split at h
  · split at h
    · cases h
    · rename_i hs; cases hq : A.spot with
      | none => rfl
      | some _ => simp [hq] at hs
  · cases h

theorem cells?_len {w : World} {b : Nat} {A : Addr} {n : Nat} {cs : List Value} (h : w.cells? b A n = some cs) : cs.length = n ∧ ∀ i, i < n → w.cell? (A.add i) = cs[i]? := by
  unfold World.cells? at h
  split at h
  · refine ⟨by simpa using mapM_some_length h, fun i hi => ?_⟩
    exact mapM_some_get h i i (by simp [List.getElem?_range hi])
  · cases h

theorem wfs_of_fields {P : Program} {g : Gh} {w : World} {R : TypeId → List PV → Prop} : ∀ (fs : List Field) (o n : Nat) (cs : List Value), offsOk P o fs n = true → cs.length = n →
    (∀ f ∈ fs, ∃ xs, RelL g w xs ((cs.drop f.offset).take (P.cellsOf f.type)) ∧ R f.type xs) → o ≤ n → ∃ xs, RelL g w xs (cs.drop o) ∧ WFs R (fs.map (·.type)) xs
  | [], o, n, cs, ho, hl, _, _ => by
    simp only [offsOk, beq_iff_eq] at ho
    refine ⟨[], ?_, rfl⟩
    rw [List.drop_eq_nil_of_le (by omega)]; exact .nil
  | f :: fs, o, n, cs, ho, hl, hf, hn => by
    simp only [offsOk, Bool.and_eq_true, beq_iff_eq] at ho
    have hle : ∀ (fs : List Field) (o : Nat), offsOk P o fs n = true → o ≤ n := by
      intro fs
      induction fs with
      | nil => intro o h; simp only [offsOk, beq_iff_eq] at h; omega
      | cons f fs ih => intro o h; simp only [offsOk, Bool.and_eq_true] at h; have := ih _ h.2; omega
    have hn' := hle _ _ ho.2
    obtain ⟨ys, hy, hw⟩ := wfs_of_fields fs _ n cs ho.2 hl (fun f' hf' => hf f' (List.mem_cons_of_mem _ hf')) hn'
    obtain ⟨xs, hx, hr⟩ := hf f List.mem_cons_self
    refine ⟨xs ++ ys, ?_, xs, ys, rfl, hr, hw⟩
    have e : cs.drop o = (cs.drop f.offset).take (P.cellsOf f.type) ++ cs.drop (o + P.cellsOf f.type) := by
      rw [ho.1, ← List.drop_drop, List.take_append_drop]
    rw [e]; exact hx.append hy

theorem wfs_of_elems {g : Gh} {w : World} {R : TypeId → List PV → Prop} {e : TypeId} {s : Nat} : ∀ (n : Nat) (cs : List Value), cs.length = n * s →
    (∀ i, i < n → ∃ xs, RelL g w xs ((cs.drop (i * s)).take s) ∧ R e xs) → ∃ xs, RelL g w xs cs ∧ WFs R (List.replicate n e) xs
  | 0, cs, hl, _ => by
    refine ⟨[], ?_, rfl⟩
    have h0 : cs = [] := List.eq_nil_of_length_eq_zero (by simpa using hl)
    subst h0; exact .nil
  | n + 1, cs, hl, hf => by
    have hl' : cs.length = n * s + s := by rw [hl]; exact Nat.succ_mul n s
    obtain ⟨xs, hx, hr⟩ := hf 0 (Nat.succ_pos n)
    obtain ⟨ys, hy, hw⟩ := wfs_of_elems (g := g) (w := w) (R := R) (e := e) (s := s) n (cs.drop s) (by rw [List.length_drop, hl']; omega) (fun i hi => by
      obtain ⟨zs, hz, hq⟩ := hf (i + 1) (by omega)
      refine ⟨zs, ?_, hq⟩
      rw [List.drop_drop, show s + i * s = (i + 1) * s by rw [Nat.succ_mul]; omega]; exact hz)
    refine ⟨xs ++ ys, ?_, xs, ys, rfl, hr, hw⟩
    simp only [Nat.zero_mul, List.drop_zero] at hx
    have := hx.append hy
    rwa [List.take_append_drop] at this

theorem flatten_get_of {α : Type} {s : Nat} : ∀ (es : List (List α)), (∀ e ∈ es, e.length = s) → ∀ q, q < es.flatten.length → es.flatten[q]? = (es.getD (q / s) [])[q % s]? ∧ q / s < es.length ∧ 0 < s
  | [], _, q, hq => by simp at hq
  | e :: es, h, q, hq => by
    have he := h e List.mem_cons_self
    have hs := fun e' (h' : e' ∈ es) => h e' (List.mem_cons_of_mem _ h')
    simp only [List.flatten_cons, List.length_append] at hq
    by_cases hq1 : q < s
    · have hdiv : q / s = 0 := Nat.div_eq_of_lt hq1
      have hmod : q % s = q := Nat.mod_eq_of_lt hq1
      refine ⟨?_, by rw [hdiv]; simp, by omega⟩
      rw [hdiv, hmod, List.flatten_cons, List.getElem?_append_left (by omega)]; rfl
    · obtain ⟨h1, h2, h3⟩ := flatten_get_of es hs (q - s) (by omega)
      have hdiv : q / s = (q - s) / s + 1 := by rw [Nat.div_eq_sub_div h3 (by omega)]
      have hmod : q % s = (q - s) % s := by rw [Nat.mod_eq_sub_mod (by omega)]
      refine ⟨?_, by rw [hdiv]; simpa using h2, h3⟩
      rw [List.flatten_cons, List.getElem?_append_right (by omega), he, h1, hdiv, hmod]; rfl

theorem read_elems {g : Gh} {w : World} {R : List PV → Prop} {s : Nat} (A : Addr) (base : Nat) : ∀ (n : Nat),
    (∀ i, i < n → ∃ cs xs, w.cells? base (A.add (i * s)) s = some cs ∧ RelL g w xs cs ∧ R xs) →
    ∃ es : List (List PV), es.length = n ∧ (∀ e ∈ es, e.length = s ∧ R e) ∧ ∀ i, i < n → ∃ cs, w.cells? base (A.add (i * s)) s = some cs ∧ RelL g w (es.getD i []) cs
  | 0, _ => ⟨[], rfl, fun e he => by simp at he, fun i hi => by omega⟩
  | n + 1, h => by
    obtain ⟨es, hl, he, hi⟩ := read_elems A base n (fun i hi => h i (by omega))
    obtain ⟨cs, xs, h1, h2, h3⟩ := h n (by omega)
    refine ⟨es ++ [xs], by simp [hl], fun e hm => ?_, fun i hlt => ?_⟩
    · rcases List.mem_append.1 hm with hm | hm
      · exact he e hm
      · simp only [List.mem_singleton] at hm; subst hm
        exact ⟨h2.1.trans (cells?_len h1).1, h3⟩
    · by_cases hin : i < n
      · obtain ⟨cs', k1, k2⟩ := hi i hin
        refine ⟨cs', k1, ?_⟩
        rw [List.getD_eq_getElem?_getD, List.getElem?_append_left (by omega), ← List.getD_eq_getElem?_getD]; exact k2
      · have : i = n := by omega
        subst this
        refine ⟨cs, h1, ?_⟩
        rw [List.getD_eq_getElem?_getD, List.getElem?_append_right (by omega), hl]; simpa using h2

theorem add_add (b o u v : Nat) : ((⟨b, o, none⟩ : Addr).add u).add v = ⟨b, o + (u + v), none⟩ := by
  unfold Addr.add
  by_cases hu : u = 0
  · subst hu
    by_cases hv : v = 0
    · subst hv; rfl
    · rw [if_pos rfl, if_neg hv, Nat.zero_add]
  · by_cases hv : v = 0
    · subst hv; rw [if_pos rfl, if_neg hu, Nat.add_zero]
    · rw [if_neg hv, if_neg hu]; simp only [Nat.add_assoc]

theorem rel_list_of {g : Gh} {w : World} {s n cap : Nat} {a : Option Addr} {base : Nat} {es : List (List PV)} (hl : es.length = n) (hcap : n ≤ cap)
    (he : ∀ e ∈ es, e.length = s) (hg : ∀ A, a = some A → ∀ q, g.imm A.block (A.off + q) ∨ w.heap.size ≤ A.block)
    (ha : 0 < n → ∃ A, a = some A ∧ ∀ i, i < n → ∃ cs, w.cells? base (A.add (i * s)) s = some cs ∧ RelL g w (es.getD i []) cs) : Rel g w (.list es .no) (.slice a n cap) := by
  subst hl
  have key : ∀ q, q < es.flatten.length → ∃ A c, a = some A ∧ A.spot = none ∧ g.imm A.block (A.off + q) ∧ w.cell? (At A q) = some c ∧ ∀ x, es.flatten[q]? = some x → Rel g w x c := by
    intro q hq
    obtain ⟨h1, h2, h3⟩ := flatten_get_of es he q hq
    obtain ⟨A, e, hA⟩ := ha (Nat.lt_of_le_of_lt (Nat.zero_le _) h2)
    obtain ⟨cs, k1, k2⟩ := hA (q / s) h2
    obtain ⟨k3, k4⟩ := cells?_len k1
    have k5 := k4 (q % s) (Nat.mod_lt _ h3)
    have hoff : q / s * s + q % s = q := by rw [Nat.mul_comm]; exact Nat.div_add_mod q s
    have hc : (cs[q % s]?).isSome := by simp [k3, Nat.mod_lt _ h3]
    obtain ⟨c, hc⟩ := Option.isSome_iff_exists.1 hc
    rw [hc] at k5
    have hsp : A.spot = none := by
      obtain ⟨cs0, m1, m2⟩ := hA 0 (Nat.lt_of_le_of_lt (Nat.zero_le _) h2)
      obtain ⟨m3, m4⟩ := cells?_len m1
      have m5 := m4 0 h3
      have m6 : (cs0[0]?).isSome := by simp [m3, h3]
      obtain ⟨c0, m6⟩ := Option.isSome_iff_exists.1 m6
      rw [m6] at m5
      simp only [Nat.zero_mul, Addr.add, if_true] at m5
      exact cell_spot m5
    have hAt : (A.add (q / s * s)).add (q % s) = At A q := by
      cases A with
      | mk b o sp =>
        simp only at hsp; subst hsp
        rw [add_add, hoff]; rfl
    have k6 := k5
    rw [hAt] at k6
    refine ⟨A, c, e, hsp, ?_, k6, fun x hx => ?_⟩
    · rcases hg A e q with h | h
      · exact h
      · exact absurd (cells_lt k6) (by simp only [At]; omega)
    · rw [h1] at hx
      exact k2.2 _ x c hx hc
  refine .list es .no a cap (fun q => match a with | some A => (w.cell? (At A q)).getD default | none => default) (fun e h e' h' => (he e h).trans (he e' h').symm) hcap trivial (fun q hq => ?_) (fun q x hx => ?_)
  · obtain ⟨A, c, e, hsp, him, k6, _⟩ := key q hq
    refine ⟨A, e, hsp, him, ?_⟩
    subst e; simp only [k6, Option.getD_some]
  · obtain ⟨A, c, e, _, _, k6, k7⟩ := key q (List.getElem?_eq_some_iff.1 hx).1
    subst e; simp only [k6, Option.getD_some]
    exact k7 x hx

theorem rel_of_trod {H : Type} {enc : TypeId × Value → H} {P : Program} {W : World} {base : Nat} {spare : Nat → Bool} {held : Bool} : ∀ (k n : Nat) (t : TypeId) (cs : List Value) (x : DataW H × List MemPlace), fine P k t = true →
    DataW.trod enc P W base spare held n t cs = some x → ∃ xs, RelL (gh0 W) W xs cs ∧ WTp P k t xs
  | 0, _, _, _, _, hf, _ => by simp [fine] at hf
  | k + 1, n, t, cs, x, hf, h => by
    unfold fine at hf
    unfold WTp
    cases hu : P.underlying t with
    | none => rw [hu] at hf; simp at hf
    | some ty =>
      rw [hu] at hf
      cases ty with
      | bool =>
        obtain ⟨b, rfl, _⟩ := DataW.trod_bool hu h
        exact ⟨[.bool b], .cons (.bool b) .nil, b, rfl⟩
      | int kd =>
        obtain ⟨m, rfl, _, hw⟩ := DataW.trod_int hu h
        simp only [Lit.wf, Bool.and_eq_true, decide_eq_true_eq] at hw
        exact ⟨[.int _ m], .cons (.int _ m) .nil, m, rfl, hw⟩
      | string =>
        obtain ⟨s, rfl, _, hs⟩ := DataW.trod_string hu h
        exact ⟨[.str s], .cons (.str s) .nil, s, rfl, hs⟩
      | slice e =>
        simp only at hf
        rcases DataW.trod_slice hu h with ⟨rfl, _⟩ | ⟨a, len, cap, elems, rest, m, rfl, rfl, _, _, hl, hm, he, hi, _⟩
        · refine ⟨[.list [] .no], .cons (.list [] .no none 0 (fun _ => .nilIface) (fun e he => by simp at he) (Nat.le_refl _) trivial (fun q hq => by simp at hq) (fun q x hx => by simp at hx)) .nil, [], rfl, Nat.zero_le _, fun r hr => by simp at hr⟩
        · have hr : ∀ i, i < len → ∃ cs xs, W.cells? base (a.add (i * P.cellsOf e)) (P.cellsOf e) = some cs ∧ RelL (gh0 W) W xs cs ∧ WTp P k e xs := by
            intro i hlt
            have h1 := hi i hlt
            rw [List.getElem?_eq_getElem (by omega)] at h1
            obtain ⟨cs, h2, h3⟩ := Option.bind_eq_some_iff.1 h1
            obtain ⟨xs, h4, h5⟩ := rel_of_trod k m e cs _ hf h3
            exact ⟨cs, xs, h2, h4, h5⟩
          obtain ⟨es, e1, e2, e3⟩ := read_elems a base len hr
          refine ⟨[.list es .no], .cons ?_ .nil, es, rfl, by omega, fun r hr => (e2 r hr).2⟩
          refine rel_list_of (s := P.cellsOf e) (base := base) e1 hl (fun e he => (e2 e he).1) (fun A hA q => ?_) (fun _ => ⟨a, rfl, e3⟩)
          show A.block < W.heap.size ∨ _
          omega
      | struct fs =>
        simp only [Bool.and_eq_true, List.all_eq_true] at hf
        obtain ⟨xs, m, rfl, _, hl, hs, hi⟩ := DataW.trod_struct hu h
        obtain ⟨ys, h1, h2⟩ := wfs_of_fields (P := P) (g := gh0 W) (w := W) (R := WTp P k) fs.toList 0 _ cs hf.1 hl (fun f hmem => by
          obtain ⟨i, hlt, he⟩ := List.getElem_of_mem hmem
          have h1 := hi i f (by rw [← he]; simp)
          have hlt' : i < xs.length := by rw [hs]; simpa using hlt
          rw [List.getElem?_eq_getElem hlt'] at h1
          exact rel_of_trod k m _ _ _ (hf.2 f hmem) h1) (Nat.zero_le _)
        exact ⟨ys, by simpa using h1, h2⟩
      | array c e =>
        simp only [Bool.and_eq_true, beq_iff_eq] at hf
        obtain ⟨xs, m, rfl, _, hl, hs, hi⟩ := DataW.trod_array hu h
        exact wfs_of_elems (s := P.cellsOf e) c cs (by rw [hl, hf.1]) (fun i hlt => by
          have h1 := hi i hlt
          rw [List.getElem?_eq_getElem (by omega)] at h1
          exact rel_of_trod k m _ _ _ hf.2 h1)
      | _ => simp at hf

/-- all arguments at once -/
theorem rels_of_trodAll {H : Type} {enc : TypeId × Value → H} {P : Program} {W : World} {base : Nat} {spare : Nat → Bool} {held : Bool} (k : Nat) : ∀ (ts : List TypeId) (vs : List Value) (ds : List (DataW H)) (ps : List MemPlace),
    ts.all (fun t => fine P k t && P.cellsOf t == 1) = true → (∀ v ∈ vs, v.cells.size = 1 → True) → DataW.TrodAll enc P W base spare held ts vs ds ps →
    ∃ xs : List (List PV), xs.length = ts.length ∧ vs.length = ts.length ∧ ∀ (j : Nat) (t : TypeId) (v : Value), ts[j]? = some t → vs[j]? = some v → ∃ x, xs[j]? = some x ∧ RelL (gh0 W) W x v.cells.toList ∧ WTp P k t x
  | [], [], [], _, _, _, _ => ⟨[], rfl, rfl, fun j t v h => by simp at h⟩
  | t :: ts, v :: vs, d :: ds, ps, hf, _, ⟨p, q, ⟨n, h1⟩, h2, _⟩ => by
    simp only [List.all_cons, Bool.and_eq_true] at hf
    obtain ⟨x, hx, hw⟩ := rel_of_trod k n t _ _ hf.1.1 h1
    obtain ⟨xs, e1, e2, e3⟩ := rels_of_trodAll k ts vs ds q hf.2 (fun _ _ _ => trivial) h2
    refine ⟨x :: xs, by simp [e1], by simp [e2], fun j t' v' ht hv => ?_⟩
    cases j with
    | zero => simp at ht hv; subst ht; subst hv; exact ⟨x, rfl, hx, hw⟩
    | succ j => exact e3 j t' v' (by simpa using ht) (by simpa using hv)
  | [], _ :: _, _, _, _, _, h => h.elim
  | [], [], _ :: _, _, _, _, h => h.elim
  | _ :: _, [], _, _, _, _, h => h.elim
  | _ :: _, _ :: _, [], _, _, _, h => h.elim

#print axioms rel_of_trod
end Go.AM

