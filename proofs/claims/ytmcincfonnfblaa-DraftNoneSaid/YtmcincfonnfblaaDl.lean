/-
  Plain laws of choices: the first of all ways, and the best of all ways, in no program's words.
-/
import Derived.Test.YtmcincfonnfblaaA42
namespace Go.Proofs.Ytmcincfonnfblaa
open Go Go.AM Go.Proofs

-- choices: rows of yes and no, the places of either, the order in which the yeses come first
def lexB : Nat → List (List Bool)
  | 0 => [[]]
  | n + 1 => (lexB n).map (true :: ·) ++ (lexB n).map (false :: ·)
def plB (v : Bool) : Nat → List Bool → List Nat
  | _, [] => []
  | a, b :: bs => if b = v then a :: plB v (a + 1) bs else plB v (a + 1) bs
def lexlt : List Bool → List Bool → Bool
  | x :: a, y :: b => if x = y then lexlt a b else x
  | _, _ => false
def aheadN : List Nat → List Nat → Bool
  | [], [] => false
  | [], _ :: _ => true
  | _ :: _, [] => false
  | x :: a, y :: b => if x = y then aheadN a b else decide (x < y)
def sumP (pn : Nat → Int) : List Nat → Int
  | [] => 0
  | k :: ps => pn k + sumP pn ps
theorem sumP_append (pn : Nat → Int) (a b : List Nat) : sumP pn (a ++ b) = sumP pn a + sumP pn b := by
  induction a with
  | nil => show sumP pn b = 0 + sumP pn b; omega
  | cons k a ih => show pn k + sumP pn (a ++ b) = pn k + sumP pn a + sumP pn b; omega
theorem sumP_nonneg {pn : Nat → Int} (h : ∀ k, 0 ≤ pn k) (ps : List Nat) : 0 ≤ sumP pn ps := by
  induction ps with
  | nil => exact Int.le_refl _
  | cons k ps ih => have := h k; show 0 ≤ pn k + sumP pn ps; omega
theorem sumP_pos {pn : Nat → Int} : ∀ {ps : List Nat}, (∀ k ∈ ps, 1 ≤ pn k) → ps ≠ [] → 1 ≤ sumP pn ps
  | [], _, h => absurd rfl h
  | k :: ps, h, _ => by
    have h1 := h k (by simp)
    have h2 : 0 ≤ sumP pn ps := by
      by_cases c : ps = []
      · rw [c]; exact Int.le_refl _
      · have := sumP_pos (fun j hj => h j (List.mem_cons_of_mem _ hj)) c; omega
    show 1 ≤ pn k + sumP pn ps; omega
theorem lexB_len : ∀ {n : Nat} {bs : List Bool}, bs ∈ lexB n ↔ bs.length = n
  | 0, bs => by simp [lexB]
  | n + 1, bs => by
    simp only [lexB, List.mem_append, List.mem_map]
    constructor
    · rintro (⟨a, ha, rfl⟩ | ⟨a, ha, rfl⟩) <;> simp [lexB_len.1 ha]
    · intro h
      cases bs with
      | nil => simp at h
      | cons b bs =>
        have : bs ∈ lexB n := lexB_len.2 (by simpa using h)
        cases b
        · exact .inr ⟨bs, this, rfl⟩
        · exact .inl ⟨bs, this, rfl⟩
theorem lexB_sorted : ∀ n, (lexB n).Pairwise (fun a b => lexlt a b = true)
  | 0 => by simp [lexB]
  | n + 1 => by
    have ih := lexB_sorted n
    rw [lexB, List.pairwise_append]
    refine ⟨?_, ?_, ?_⟩
    · rw [List.pairwise_map]; exact ih.imp fun {a b} h => by simpa [lexlt] using h
    · rw [List.pairwise_map]; exact ih.imp fun {a b} h => by simpa [lexlt] using h
    · intro a ha b hb
      obtain ⟨a', _, rfl⟩ := List.mem_map.1 ha
      obtain ⟨b', _, rfl⟩ := List.mem_map.1 hb
      rfl
theorem lexlt_irrefl : ∀ a, lexlt a a = false
  | [] => rfl
  | x :: a => by rw [lexlt, if_pos rfl]; exact lexlt_irrefl a
theorem lexlt_asymm : ∀ {a b}, lexlt a b = true → lexlt b a = false
  | [], [], h => by cases h
  | [], _ :: _, h => by cases h
  | _ :: _, [], h => by cases h
  | x :: a, y :: b, h => by
    rw [lexlt] at h ⊢
    by_cases c : x = y
    · rw [if_pos c] at h; rw [if_pos c.symm]; exact lexlt_asymm h
    · rw [if_neg c] at h; rw [if_neg (fun k => c k.symm)]
      cases y
      · rfl
      · exact absurd h c
theorem lexlt_total : ∀ {a b : List Bool}, a.length = b.length → a = b ∨ lexlt a b = true ∨ lexlt b a = true
  | [], [], _ => .inl rfl
  | [], _ :: _, h => by simp at h
  | _ :: _, [], h => by simp at h
  | x :: a, y :: b, h => by
    rw [lexlt, lexlt]
    by_cases c : x = y
    · subst c
      rw [if_pos rfl, if_pos rfl]
      rcases lexlt_total (a := a) (b := b) (by simpa using h) with k | k | k
      · exact .inl (by rw [k])
      · exact .inr (.inl k)
      · exact .inr (.inr k)
    · rw [if_neg c, if_neg (fun k => c k.symm)]
      cases x
      · cases y
        · exact absurd rfl c
        · exact .inr (.inr rfl)
      · exact .inr (.inl rfl)
theorem lexlt_trans : ∀ {a b c : List Bool}, lexlt a b = true → lexlt b c = true → lexlt a c = true
  | [], [], _, h, _ => by cases h
  | [], _ :: _, _, h, _ => by cases h
  | _ :: _, [], _, h, _ => by cases h
  | _ :: _, _ :: _, [], _, h => by cases h
  | x :: a, y :: b, z :: c, h1, h2 => by
    rw [lexlt] at h1 h2 ⊢
    by_cases c1 : x = y
    · subst c1
      rw [if_pos rfl] at h1
      by_cases c2 : x = z
      · rw [if_pos c2] at h2 ⊢; exact lexlt_trans h1 h2
      · rw [if_neg c2] at h2 ⊢; exact h2
    · rw [if_neg c1] at h1
      subst h1
      by_cases c2 : y = z
      · subst c2; rw [if_neg c1]
      · rw [if_neg c2] at h2; exact absurd h2.symm c1
theorem plB_ge {v : Bool} : ∀ {bs : List Bool} {a k : Nat}, k ∈ plB v a bs → a ≤ k
  | [], _, _, h => by simp [plB] at h
  | b :: bs, a, k, h => by
    rw [plB] at h
    by_cases c : b = v
    · rw [if_pos c] at h
      rcases List.mem_cons.1 h with rfl | h
      · exact Nat.le_refl _
      · have := plB_ge h; omega
    · rw [if_neg c] at h
      have := plB_ge h; omega
theorem plB_lt {v : Bool} : ∀ {bs : List Bool} {a k : Nat}, k ∈ plB v a bs → k < a + bs.length
  | [], _, _, h => by simp [plB] at h
  | b :: bs, a, k, h => by
    rw [plB] at h
    rw [List.length_cons]
    by_cases c : b = v
    · rw [if_pos c] at h
      rcases List.mem_cons.1 h with rfl | h
      · omega
      · have := plB_lt h; omega
    · rw [if_neg c] at h
      have := plB_lt h; omega
/-- places that hold players stand ahead of one another as the choices do -/
theorem ahead_lex {pn : Nat → Int} : ∀ {bs cs : List Bool} {a : Nat}, bs.length = cs.length → (∀ k ∈ plB true a bs, 1 ≤ pn k) → (∀ k ∈ plB true a cs, 1 ≤ pn k) →
    sumP pn (plB true a bs) = sumP pn (plB true a cs) → aheadN (plB true a bs) (plB true a cs) = lexlt bs cs
  | [], [], _, _, _, _, _ => rfl
  | [], _ :: _, _, h, _, _, _ => by simp at h
  | _ :: _, [], _, h, _, _, _ => by simp at h
  | true :: bs, true :: cs, a, h, h1, h2, h3 => by
    simp only [plB, if_true] at h1 h2 h3 ⊢
    rw [aheadN, if_pos rfl, lexlt, if_pos rfl]
    exact ahead_lex (by simpa using h) (fun k hk => h1 k (List.mem_cons_of_mem _ hk)) (fun k hk => h2 k (List.mem_cons_of_mem _ hk)) (by simp only [sumP] at h3; omega)
  | false :: bs, false :: cs, a, h, h1, h2, h3 => by
    simp only [plB, Bool.false_eq_true, if_false] at h1 h2 h3 ⊢
    rw [lexlt, if_pos rfl]
    exact ahead_lex (by simpa using h) h1 h2 h3
  | true :: bs, false :: cs, a, _, h1, _, h3 => by
    have hl : lexlt (true :: bs) (false :: cs) = true := rfl
    simp only [plB, if_true, Bool.false_eq_true, if_false] at h1 h3 ⊢
    rw [hl]
    cases hq : plB true (a + 1) cs with
    | nil =>
      rw [hq] at h3
      have := sumP_pos h1 (by simp)
      rw [h3] at this; exact absurd this (show ¬ (1 : Int) ≤ 0 by decide)
    | cons y q =>
      have : a + 1 ≤ y := plB_ge (v := true) (bs := cs) (by rw [hq]; simp)
      rw [aheadN, if_neg (by omega), decide_eq_true (by omega)]
  | false :: bs, true :: cs, a, _, _, h2, h3 => by
    have hl : lexlt (false :: bs) (true :: cs) = false := rfl
    simp only [plB, if_true, Bool.false_eq_true, if_false] at h2 h3 ⊢
    rw [hl]
    cases hq : plB true (a + 1) bs with
    | nil =>
      rw [hq] at h3
      have := sumP_pos h2 (by simp)
      rw [← h3] at this; exact absurd this (show ¬ (1 : Int) ≤ 0 by decide)
    | cons y q =>
      have : a + 1 ≤ y := plB_ge (v := true) (bs := bs) (by rw [hq]; simp)
      rw [aheadN, if_neg (by omega), decide_eq_false (by omega)]

-- the best of a row, one by one
def pickIf {γ : Type} (p : γ → Bool) (R : γ → γ → Bool) (st : Option γ) (c : γ) : Option γ :=
  if p c = true then (match st with | none => some c | some s => if R c s = true then some c else some s) else st
structure Ord {γ : Type} (p : γ → Bool) (R : γ → γ → Bool) : Prop where
  tot : ∀ a b, p a = true → p b = true → a = b ∨ R a b = true ∨ R b a = true
  tr : ∀ a b c, p a = true → p b = true → p c = true → R a b = true → R b c = true → R a c = true
  as : ∀ a b, p a = true → p b = true → R a b = true → R b a = false
theorem pick_some {γ : Type} {p : γ → Bool} {R : γ → γ → Bool} (h : Ord p R) : ∀ (L : List γ) (s : γ), p s = true → ∃ m, L.foldl (pickIf p R) (some s) = some m ∧ p m = true ∧ (m = s ∨ m ∈ L) ∧ (s = m ∨ R m s = true) ∧ ∀ c ∈ L, p c = true → c = m ∨ R m c = true
  | [], s, hs => ⟨s, rfl, hs, .inl rfl, .inl rfl, by simp⟩
  | c :: L, s, hs => by
    rw [List.foldl_cons]
    by_cases hc : p c = true
    · by_cases hr : R c s = true
      · rw [show pickIf p R (some s) c = some c by unfold pickIf; rw [if_pos hc]; simp only; rw [if_pos hr]]
        obtain ⟨m, h1, h2, h3, h4, h5⟩ := pick_some h L c hc
        refine ⟨m, h1, h2, .inr (by rcases h3 with rfl | h3; simp; exact List.mem_cons_of_mem _ h3), .inr ?_, fun d hd hpd => ?_⟩
        · rcases h4 with rfl | h4
          · exact hr
          · exact h.tr m c s h2 hc hs h4 hr
        · rcases List.mem_cons.1 hd with rfl | hd
          · exact h4
          · exact h5 d hd hpd
      · rw [show pickIf p R (some s) c = some s by unfold pickIf; rw [if_pos hc]; simp only; rw [if_neg hr]]
        obtain ⟨m, h1, h2, h3, h4, h5⟩ := pick_some h L s hs
        refine ⟨m, h1, h2, by rcases h3 with h3 | h3; exact .inl h3; exact .inr (List.mem_cons_of_mem _ h3), h4, fun d hd hpd => ?_⟩
        rcases List.mem_cons.1 hd with rfl | hd
        · rcases h.tot d s hc hs with rfl | k | k
          · exact h4
          · exact absurd k hr
          · rcases h4 with rfl | h4
            · exact .inr k
            · exact .inr (h.tr m s d h2 hs hc h4 k)
        · exact h5 d hd hpd
    · rw [show pickIf p R (some s) c = some s by unfold pickIf; rw [if_neg hc]]
      obtain ⟨m, h1, h2, h3, h4, h5⟩ := pick_some h L s hs
      refine ⟨m, h1, h2, by rcases h3 with h3 | h3; exact .inl h3; exact .inr (List.mem_cons_of_mem _ h3), h4, fun d hd hpd => ?_⟩
      rcases List.mem_cons.1 hd with rfl | hd
      · exact absurd hpd hc
      · exact h5 d hd hpd
/-- nothing, where nothing is right; else the one that stands ahead of all others -/
theorem pick_none {γ : Type} {p : γ → Bool} {R : γ → γ → Bool} (h : Ord p R) : ∀ (L : List γ), (L.foldl (pickIf p R) none = none ∧ ∀ c ∈ L, p c = false) ∨ ∃ m, L.foldl (pickIf p R) none = some m ∧ p m = true ∧ m ∈ L ∧ ∀ c ∈ L, p c = true → c = m ∨ R m c = true
  | [] => .inl ⟨rfl, by simp⟩
  | c :: L => by
    rw [List.foldl_cons]
    by_cases hc : p c = true
    · rw [show pickIf p R none c = some c by unfold pickIf; rw [if_pos hc]]
      obtain ⟨m, h1, h2, h3, h4, h5⟩ := pick_some h L c hc
      refine .inr ⟨m, h1, h2, by rcases h3 with rfl | h3; simp; exact List.mem_cons_of_mem _ h3, fun d hd hpd => ?_⟩
      rcases List.mem_cons.1 hd with rfl | hd
      · exact h4
      · exact h5 d hd hpd
    · rw [show pickIf p R none c = none by unfold pickIf; rw [if_neg hc]]
      rcases pick_none h L with ⟨h1, h2⟩ | ⟨m, h1, h2, h3, h4⟩
      · refine .inl ⟨h1, fun d hd => ?_⟩
        rcases List.mem_cons.1 hd with rfl | hd
        · simpa using hc
        · exact h2 d hd
      · refine .inr ⟨m, h1, h2, List.mem_cons_of_mem _ h3, fun d hd hpd => ?_⟩
        rcases List.mem_cons.1 hd with rfl | hd
        · exact absurd hpd hc
        · exact h4 d hd hpd
theorem pick_perm {γ : Type} {p : γ → Bool} {R : γ → γ → Bool} (h : Ord p R) {L M : List γ} (hm : ∀ c, p c = true → (c ∈ L ↔ c ∈ M)) : L.foldl (pickIf p R) none = M.foldl (pickIf p R) none := by
  rcases pick_none h L with ⟨h1, h2⟩ | ⟨m, h1, h2, h3, h4⟩ <;> rcases pick_none h M with ⟨k1, k2⟩ | ⟨n, k1, k2, k3, k4⟩
  · rw [h1, k1]
  · have := h2 n ((hm n k2).2 k3); rw [k2] at this; cases this
  · have := k2 m ((hm m h2).1 h3); rw [h2] at this; cases this
  · rw [h1, k1]
    rcases h4 n ((hm n k2).2 k3) k2 with e | e
    · rw [e]
    · rcases k4 m ((hm m h2).1 h3) h2 with e' | e'
      · rw [e']
      · rw [h.as m n h2 k2 e] at e'; cases e'
theorem pick_congr {γ : Type} {p : γ → Bool} {R R' : γ → γ → Bool} (h : ∀ a b, p a = true → p b = true → R a b = R' a b) : ∀ (L : List γ) (st : Option γ), (∀ s, st = some s → p s = true) → L.foldl (pickIf p R) st = L.foldl (pickIf p R') st
  | [], _, _ => rfl
  | c :: L, st, hs => by
    rw [List.foldl_cons, List.foldl_cons]
    have e : pickIf p R st c = pickIf p R' st c := by
      unfold pickIf
      by_cases hc : p c = true
      · rw [if_pos hc, if_pos hc]
        cases st with
        | none => rfl
        | some s => simp only; rw [h c s hc (hs s rfl)]
      · rw [if_neg hc, if_neg hc]
    rw [e]
    refine pick_congr h L _ fun s k => ?_
    unfold pickIf at k
    by_cases hc : p c = true
    · rw [if_pos hc] at k
      cases st with
      | none => simp only at k; cases k; exact hc
      | some s' =>
        simp only at k
        split at k
        · cases k; exact hc
        · cases k; exact hs _ rfl
    · rw [if_neg hc] at k; exact hs s k
/-- a row that rises: who comes later need not be told from who is as good -/
theorem pick_sorted {p : List Bool → Bool} {d : List Bool → Int} : ∀ (L : List (List Bool)) (st : Option (List Bool)), L.Pairwise (fun a b => lexlt a b = true) → (∀ s, st = some s → ∀ c ∈ L, lexlt s c = true) →
    L.foldl (pickIf p (fun c s => decide (d c < d s))) st = L.foldl (pickIf p (fun c s => decide (d c < d s) || (d c == d s && lexlt c s))) st
  | [], _, _, _ => rfl
  | c :: L, st, hL, hs => by
    rw [List.foldl_cons, List.foldl_cons]
    have hL' := List.pairwise_cons.1 hL
    have e : pickIf p (fun c s => decide (d c < d s)) st c = pickIf p (fun c s => decide (d c < d s) || (d c == d s && lexlt c s)) st c := by
      unfold pickIf
      cases st with
      | none => rfl
      | some s =>
        have := lexlt_asymm (hs s rfl c (by simp))
        simp only [this, Bool.and_false, Bool.or_false]
    rw [e]
    refine pick_sorted L _ hL'.2 fun s k a ha => ?_
    unfold pickIf at k
    by_cases hc : p c = true
    · rw [if_pos hc] at k
      cases st with
      | none => simp only at k; cases k; exact hL'.1 a ha
      | some s' =>
        simp only at k
        split at k
        · cases k; exact hL'.1 a ha
        · cases k; exact hs _ rfl a (List.mem_cons_of_mem _ ha)
    · rw [if_neg hc] at k; exact hs s k a (List.mem_cons_of_mem _ ha)
/-- the first one that is right, of a row that rises -/
theorem pick_first {p : List Bool → Bool} : ∀ (L : List (List Bool)), L.Pairwise (fun a b => lexlt a b = true) → L.foldl (pickIf p lexlt) none = L.find? p
  | [], _ => rfl
  | c :: L, hL => by
    have hL' := List.pairwise_cons.1 hL
    rw [List.foldl_cons, List.find?_cons]
    by_cases hc : p c = true
    · rw [show pickIf p lexlt none c = some c by unfold pickIf; rw [if_pos hc], hc]
      have keep : ∀ (M : List (List Bool)), (∀ a ∈ M, lexlt c a = true) → M.foldl (pickIf p lexlt) (some c) = some c := by
        intro M
        induction M with
        | nil => intro _; rfl
        | cons a M ih =>
          intro hM
          rw [List.foldl_cons]
          have : pickIf p lexlt (some c) a = some c := by
            unfold pickIf
            have := lexlt_asymm (hM a (by simp))
            simp only [this, Bool.false_eq_true, if_false, ite_self]
          rw [this]
          exact ih fun b hb => hM b (List.mem_cons_of_mem _ hb)
      exact keep L hL'.1
    · rw [show pickIf p lexlt none c = none by unfold pickIf; rw [if_neg hc], Bool.eq_false_iff.2 hc]
      exact pick_first L hL'.2
-- masks
def bitsB : Nat → Nat → List Bool
  | 0, _ => []
  | n + 1, m => decide (m % 2 = 1) :: bitsB n (m / 2)
theorem bitsB_len : ∀ n m, (bitsB n m).length = n
  | 0, _ => rfl
  | n + 1, m => by rw [bitsB, List.length_cons, bitsB_len]
theorem bits_of : ∀ {n : Nat} {bs : List Bool}, bs.length = n → ∃ m, m < 2 ^ n ∧ bitsB n m = bs
  | 0, [], _ => ⟨0, by decide, rfl⟩
  | n + 1, b :: bs, h => by
    obtain ⟨m, h1, h2⟩ := bits_of (n := n) (bs := bs) (by simpa using h)
    rw [Nat.pow_succ]
    cases b
    · refine ⟨2 * m, by omega, ?_⟩
      rw [bitsB, show 2 * m / 2 = m by omega, h2, decide_eq_false (by omega)]
    · refine ⟨2 * m + 1, by omega, ?_⟩
      rw [bitsB, show (2 * m + 1) / 2 = m by omega, h2, decide_eq_true (by omega)]
-- the program's parting
def absI (x : Int) : Int := mxI x (-x)
abbrev PSt := Option (List Nat × List Nat × Int)
def updP (c : List Nat × List Nat × Int) : PSt → PSt
  | none => some c
  | some s => if c.2.2 < s.2.2 then some c else some s
def partN (K : Int) (pn wp : Nat → Int) : Nat → Nat → List Nat → List Nat → Int → Int → Int → PSt → PSt
  | 0, _, A, B, a, b, w, st => if a > K ∨ b > K then st else if a = K ∧ b = K then updP (A, B, absI w) st else st
  | n + 1, at', A, B, a, b, w, st => if a > K ∨ b > K then st else
    if at' > 0 then partN K pn wp n (at' + 1) A (B ++ [at']) a (b + pn at') (w - wp at') (partN K pn wp n (at' + 1) (A ++ [at']) B (a + pn at') b (w + wp at') st)
    else partN K pn wp n (at' + 1) (A ++ [at']) B (a + pn at') b (w + wp at') st
def stepN (K : Int) (pn wp : Nat → Int) (at' : Nat) (A B : List Nat) (a b w : Int) (st : PSt) (bs : List Bool) : PSt :=
  if a + sumP pn (plB true at' bs) = K ∧ b + sumP pn (plB false at' bs) = K then
    updP (A ++ plB true at' bs, B ++ plB false at' bs, absI (w + sumP wp (plB true at' bs) - sumP wp (plB false at' bs))) st else st
theorem foldl_same {α β : Type} {f : β → α → β} : ∀ (L : List α) (st : β), (∀ c ∈ L, ∀ s, f s c = s) → L.foldl f st = st
  | [], _, _ => rfl
  | c :: L, st, h => by rw [List.foldl_cons, h c (by simp)]; exact foldl_same L st fun d hd => h d (List.mem_cons_of_mem _ hd)
theorem stepN_true (K : Int) (pn wp : Nat → Int) (at' : Nat) (A B : List Nat) (a b w : Int) (st : PSt) (bs : List Bool) :
    stepN K pn wp at' A B a b w st (true :: bs) = stepN K pn wp (at' + 1) (A ++ [at']) B (a + pn at') b (w + wp at') st bs := by
  unfold stepN
  simp only [plB, if_true, Bool.true_eq_false, if_false, sumP, List.append_assoc, List.singleton_append, Int.add_assoc]
theorem stepN_false (K : Int) (pn wp : Nat → Int) (at' : Nat) (A B : List Nat) (a b w : Int) (st : PSt) (bs : List Bool) :
    stepN K pn wp at' A B a b w st (false :: bs) = stepN K pn wp (at' + 1) A (B ++ [at']) a (b + pn at') (w - wp at') st bs := by
  unfold stepN
  simp only [plB, if_true, Bool.false_eq_true, if_false, sumP, List.append_assoc, List.singleton_append, Int.add_assoc]
  rw [show w - wp at' + sumP wp (plB true (at' + 1) bs) - sumP wp (plB false (at' + 1) bs) = w + sumP wp (plB true (at' + 1) bs) - (wp at' + sumP wp (plB false (at' + 1) bs)) by omega]
theorem partN_eq {K : Int} {pn wp : Nat → Int} (h : ∀ k, 0 ≤ pn k) : ∀ (n at' : Nat) (A B : List Nat) (a b w : Int) (st : PSt), 0 < at' → partN K pn wp n at' A B a b w st = (lexB n).foldl (stepN K pn wp at' A B a b w) st
  | 0, at', A, B, a, b, w, st, _ => by
    rw [partN, lexB, List.foldl_cons, List.foldl_nil]
    unfold stepN
    simp only [plB, sumP, List.append_nil, Int.add_zero, Int.sub_zero]
    by_cases c : a > K ∨ b > K
    · rw [if_pos c, if_neg (by omega)]
    · rw [if_neg c]
  | n + 1, at', A, B, a, b, w, st, hat => by
    rw [partN]
    by_cases c : a > K ∨ b > K
    · rw [if_pos c]
      refine (foldl_same _ _ fun bs _ s => ?_).symm
      unfold stepN
      have h1 := sumP_nonneg h (plB true at' bs)
      have h2 := sumP_nonneg h (plB false at' bs)
      rw [if_neg (by omega)]
    · rw [if_neg c, if_pos hat, lexB, List.foldl_append, List.foldl_map, List.foldl_map, partN_eq h n _ _ _ _ _ _ _ (by omega), partN_eq h n _ _ _ _ _ _ _ (by omega)]
      simp only [stepN_true, stepN_false]
/-- a way to part -/
def legB (K : Int) (pn : Nat → Int) (bs : List Bool) : Bool := decide (sumP pn (plB true 0 bs) = K ∧ sumP pn (plB false 0 bs) = K)
def apB (wp : Nat → Int) (bs : List Bool) : Int := absI (sumP wp (plB true 0 bs) - sumP wp (plB false 0 bs))
def outB (wp : Nat → Int) (bs : List Bool) : List Nat × List Nat × Int := (plB true 0 bs, plB false 0 bs, apB wp bs)
theorem stepN_pick (K : Int) (pn wp : Nat → Int) : ∀ (L : List (List Bool)) (st : Option (List Bool)),
    L.foldl (stepN K pn wp 0 [] [] 0 0 0) (st.map (outB wp)) = (L.foldl (pickIf (legB K pn) (fun c s => decide (apB wp c < apB wp s))) st).map (outB wp)
  | [], _ => rfl
  | bs :: L, st => by
    rw [List.foldl_cons, List.foldl_cons, ← stepN_pick K pn wp L]
    congr 1
    unfold stepN pickIf legB
    simp only [Int.zero_add, List.nil_append, decide_eq_true_eq]
    by_cases c : sumP pn (plB true 0 bs) = K ∧ sumP pn (plB false 0 bs) = K
    · rw [if_pos c, if_pos c]
      cases st with
      | none => rfl
      | some s =>
        show updP (outB wp bs) (some (outB wp s)) = _
        unfold updP
        simp only
        by_cases d : apB wp bs < apB wp s
        · rw [if_pos (show (outB wp bs).2.2 < (outB wp s).2.2 from d), if_pos d]; rfl
        · rw [if_neg (show ¬ (outB wp bs).2.2 < (outB wp s).2.2 from d), if_neg d]; rfl
    · rw [if_neg c, if_neg c]
/-- the first ticket in the first team -/
def oddL (n : Nat) : List (List Bool) := match n with
  | 0 => []
  | n + 1 => (lexB n).map (true :: ·)
theorem oddL_mem {n : Nat} {bs : List Bool} : bs ∈ oddL n ↔ bs.length = n ∧ ∃ cs, bs = true :: cs := by
  cases n with
  | zero =>
    simp only [oddL, List.not_mem_nil, false_iff]
    rintro ⟨h, cs, rfl⟩; simp at h
  | succ n =>
    simp only [oddL, List.mem_map]
    constructor
    · rintro ⟨a, ha, rfl⟩; exact ⟨by simp [lexB_len.1 ha], a, rfl⟩
    · rintro ⟨h, cs, rfl⟩; exact ⟨cs, lexB_len.2 (by simpa using h), rfl⟩
theorem oddL_sorted (n : Nat) : (oddL n).Pairwise (fun a b => lexlt a b = true) := by
  cases n with
  | zero => simp [oddL]
  | succ n => rw [oddL, List.pairwise_map]; exact (lexB_sorted n).imp fun {a b} h => by simpa [lexlt] using h
def bestB (K : Int) (pn wp : Nat → Int) (n : Nat) : Option (List Bool) := (oddL n).foldl (pickIf (legB K pn) (fun c s => decide (apB wp c < apB wp s) || (apB wp c == apB wp s && lexlt c s))) none
theorem partN_best {K : Int} {pn wp : Nat → Int} (h : ∀ k, 0 ≤ pn k) (hK : 1 ≤ K) (n : Nat) : partN K pn wp n 0 [] [] 0 0 0 none = (bestB K pn wp n).map (outB wp) := by
  cases n with
  | zero =>
    rw [partN, if_neg (by omega), if_neg (by omega)]; rfl
  | succ n =>
    rw [partN, if_neg (by omega), if_neg (by omega), partN_eq h n _ _ _ _ _ _ _ (by omega)]
    have e : (lexB n).foldl (stepN K pn wp (0 + 1) ([] ++ [0]) [] (0 + pn 0) 0 (0 + wp 0)) none = (oddL (n + 1)).foldl (stepN K pn wp 0 [] [] 0 0 0) none := by
      rw [oddL, List.foldl_map]; simp only [stepN_true]
    rw [e, show (none : PSt) = (none : Option (List Bool)).map (outB wp) from rfl, stepN_pick, bestB, pick_sorted (oddL (n + 1)) none (oddL_sorted _) (by intro s h; cases h)]
theorem bt_ord {p : List Bool → Bool} {n : Nat} {d : List Bool → Int} (hp : ∀ a, p a = true → a.length = n) : Ord p (fun c s => decide (d c < d s) || (d c == d s && lexlt c s)) := by
  refine ⟨fun a b ha hb => ?_, fun a b c _ _ _ h1 h2 => ?_, fun a b _ _ h => ?_⟩
  · rcases lexlt_total (a := a) (b := b) (by rw [hp a ha, hp b hb]) with e | e | e
    · exact .inl e
    · by_cases c : d b < d a
      · exact .inr (.inr (by rw [decide_eq_true c]; rfl))
      · refine .inr (.inl ?_)
        by_cases c' : d a < d b
        · rw [decide_eq_true c']; rfl
        · rw [show d a = d b by omega]; simp [e]
    · by_cases c : d a < d b
      · exact .inr (.inl (by rw [decide_eq_true c]; rfl))
      · refine .inr (.inr ?_)
        by_cases c' : d b < d a
        · rw [decide_eq_true c']; rfl
        · rw [show d a = d b by omega]; simp [e]
  · simp only [Bool.or_eq_true, decide_eq_true_eq, Bool.and_eq_true, beq_iff_eq] at h1 h2 ⊢
    rcases h1 with h1 | ⟨h1, k1⟩ <;> rcases h2 with h2 | ⟨h2, k2⟩
    · exact .inl (by omega)
    · exact .inl (by omega)
    · exact .inl (by omega)
    · exact .inr ⟨by omega, lexlt_trans k1 k2⟩
  · simp only [Bool.or_eq_true, decide_eq_true_eq, Bool.and_eq_true, beq_iff_eq] at h
    rw [Bool.or_eq_false_iff, decide_eq_false_iff_not, Bool.and_eq_false_iff]
    rcases h with h | ⟨h, k⟩
    · exact ⟨by omega, .inl (by simp; omega)⟩
    · exact ⟨by omega, .inr (lexlt_asymm k)⟩
/-- over whatever row that has the same ways in it, told apart by their places -/
theorem best_of {K : Int} {pn wp : Nat → Int} {n : Nat} (h : ∀ k, k < n → 1 ≤ pn k) (L : List (List Bool)) (hL : ∀ bs, bs ∈ L ↔ bs.length = n ∧ ∃ cs, bs = true :: cs) :
    L.foldl (pickIf (legB K pn) (fun c s => decide (apB wp c < apB wp s) || (apB wp c == apB wp s && aheadN (plB true 0 c) (plB true 0 s)))) none = bestB K pn wp n := by
  have hpl : ∀ bs : List Bool, bs.length = n → ∀ k ∈ plB true 0 bs, 1 ≤ pn k := fun bs hb k hk => h k (by have := plB_lt hk; omega)
  -- what stands in the row has that length
  let p : List Bool → Bool := fun bs => decide (bs.length = n) && legB K pn bs
  have ep : ∀ (R : List Bool → List Bool → Bool) (M : List (List Bool)), (∀ c ∈ M, c.length = n) → ∀ st : Option (List Bool), M.foldl (pickIf (legB K pn) R) st = M.foldl (pickIf p R) st := by
    intro R M
    induction M with
    | nil => intro _ _; rfl
    | cons c M ih =>
      intro hM st
      rw [List.foldl_cons, List.foldl_cons]
      have : pickIf (legB K pn) R st c = pickIf p R st c := by
        unfold pickIf
        rw [show p c = legB K pn c by simp only [p]; rw [decide_eq_true (hM c (by simp)), Bool.true_and]]
      rw [this]
      exact ih (fun d hd => hM d (List.mem_cons_of_mem _ hd)) _
  have hp : ∀ a, p a = true → a.length = n := fun a ha => by simp only [p, Bool.and_eq_true, decide_eq_true_eq] at ha; exact ha.1
  rw [ep _ L fun c hc => ((hL c).1 hc).1, bestB, ep _ (oddL n) fun c hc => (oddL_mem.1 hc).1]
  rw [pick_congr (R' := fun c s => decide (apB wp c < apB wp s) || (apB wp c == apB wp s && lexlt c s)) (fun a b ha hb => ?_) L none (by intro s h; cases h)]
  · exact pick_perm (bt_ord hp) fun c _ => by rw [hL, oddL_mem]
  · simp only [p, Bool.and_eq_true, decide_eq_true_eq, legB] at ha hb
    rw [ahead_lex (pn := pn) (by rw [ha.1, hb.1]) (hpl a ha.1) (hpl b hb.1) (by rw [ha.2.1, hb.2.1])]
-- the program's walk
abbrev TmT := List Nat → Option (List Nat × List Nat)
def walkN (K : Int) (pn : Nat → Int) (nr : Nat → Nat → Bool) (tm : TmT) : Nat → Nat → List Nat → Int → Option (List Nat × List Nat)
  | 0, _, ps, q => if q = 2 * K then tm ps else none
  | n + 1, at', ps, q => if q = 2 * K then tm ps else
    match (if 1 ≤ pn at' ∧ pn at' ≤ K ∧ q + pn at' ≤ 2 * K ∧ ps.all (nr at') = true then walkN K pn nr tm n (at' + 1) (ps ++ [at']) (q + pn at') else none) with
    | some r => some r
    | none => walkN K pn nr tm n (at' + 1) ps q
def legF (K : Int) (pn : Nat → Int) (nr : Nat → Nat → Bool) (tm : TmT) (ps : List Nat) : Bool :=
  decide (sumP pn ps = 2 * K) && decide (ps.Pairwise fun a b => nr b a = true) && (tm ps).isSome
theorem legF_iff {K : Int} {pn : Nat → Int} {nr : Nat → Nat → Bool} {tm : TmT} {ps : List Nat} : legF K pn nr tm ps = true ↔ sumP pn ps = 2 * K ∧ (ps.Pairwise fun a b => nr b a = true) ∧ (tm ps).isSome = true := by
  unfold legF; rw [Bool.and_eq_true, Bool.and_eq_true, decide_eq_true_eq, decide_eq_true_eq, and_assoc]
theorem find_none {α : Type} {p : α → Bool} {L : List α} (h : ∀ c ∈ L, p c = false) : L.find? p = none := by
  rw [List.find?_eq_none]; intro c hc; rw [h c hc]; decide
def noB (n : Nat) : List Bool := List.replicate n false
theorem plB_noB : ∀ n a, plB true a (noB n) = []
  | 0, _ => rfl
  | n + 1, a => by
    rw [noB, List.replicate_succ, plB, if_neg (by decide)]; exact plB_noB n _
theorem bits_zero : ∀ n, bitsB n 0 = noB n
  | 0 => rfl
  | n + 1 => by rw [bitsB, Nat.zero_div, bits_zero n, noB, noB, List.replicate_succ]; rfl
theorem walkN_eq {K : Int} {pn : Nat → Int} {nr : Nat → Nat → Bool} {tm : TmT} (h0 : ∀ k, 0 ≤ pn k) (htm : ∀ ps, (tm ps).isSome = true → ∀ k ∈ ps, 1 ≤ pn k ∧ pn k ≤ K) :
    ∀ (n at' : Nat) (ps : List Nat) (q : Int), q = sumP pn ps → (ps.Pairwise fun a b => nr b a = true) →
    walkN K pn nr tm n at' ps q = ((lexB n).find? fun bs => legF K pn nr tm (ps ++ plB true at' bs)).bind fun bs => tm (ps ++ plB true at' bs) := by
  have full : ∀ (n at' : Nat) (ps : List Nat) (q : Int), q = sumP pn ps → (ps.Pairwise fun a b => nr b a = true) → q = 2 * K →
      tm ps = ((lexB n).find? fun bs => legF K pn nr tm (ps ++ plB true at' bs)).bind fun bs => tm (ps ++ plB true at' bs) := by
    intro n at' ps q hq hps h2
    have nil : ∀ bs, legF K pn nr tm (ps ++ plB true at' bs) = true → plB true at' bs = [] := by
      intro bs hb
      obtain ⟨k1, _, k3⟩ := legF_iff.1 hb
      by_cases c : plB true at' bs = []
      · exact c
      · have := sumP_pos (pn := pn) (fun k hk => (htm _ k3 k (List.mem_append_right _ hk)).1) c
        rw [sumP_append] at k1
        omega
    cases hf : (lexB n).find? fun bs => legF K pn nr tm (ps ++ plB true at' bs) with
    | none =>
      have := List.find?_eq_none.1 hf (noB n) (lexB_len.2 (by simp [noB]))
      rw [plB_noB, List.append_nil] at this
      cases ht : tm ps with
      | none => rfl
      | some r => exact absurd (legF_iff.2 ⟨by omega, hps, by rw [ht]; rfl⟩) this
    | some bs =>
      have := List.find?_some hf
      have hn := nil bs this
      show tm ps = tm (ps ++ plB true at' bs)
      rw [hn, List.append_nil]
  intro n
  induction n with
  | zero =>
    intro at' ps q hq hps
    rw [walkN]
    by_cases c : q = 2 * K
    · rw [if_pos c]; exact full 0 at' ps q hq hps c
    · rw [if_neg c, find_none]
      · rfl
      · intro bs hb
        have : bs = [] := by simpa [lexB] using hb
        subst this
        rw [plB, List.append_nil]
        rw [Bool.eq_false_iff]
        intro k
        have := (legF_iff.1 k).1
        omega
  | succ n ih =>
    intro at' ps q hq hps
    rw [walkN]
    by_cases c : q = 2 * K
    · rw [if_pos c]; exact full (n + 1) at' ps q hq hps c
    rw [if_neg c, lexB, List.find?_append, List.find?_map, List.find?_map]
    have e1 : ∀ bs, ps ++ plB true at' (true :: bs) = (ps ++ [at']) ++ plB true (at' + 1) bs := fun bs => by simp [plB]
    have e2 : ∀ bs, ps ++ plB true at' (false :: bs) = ps ++ plB true (at' + 1) bs := fun bs => by simp [plB]
    simp only [Function.comp_def, e1, e2]
    have key : (if 1 ≤ pn at' ∧ pn at' ≤ K ∧ q + pn at' ≤ 2 * K ∧ ps.all (nr at') = true then walkN K pn nr tm n (at' + 1) (ps ++ [at']) (q + pn at') else none) =
        ((lexB n).find? fun bs => legF K pn nr tm ((ps ++ [at']) ++ plB true (at' + 1) bs)).bind fun bs => tm ((ps ++ [at']) ++ plB true (at' + 1) bs) := by
      by_cases d : 1 ≤ pn at' ∧ pn at' ≤ K ∧ q + pn at' ≤ 2 * K ∧ ps.all (nr at') = true
      · rw [if_pos d]
        refine ih (at' + 1) (ps ++ [at']) (q + pn at') ?_ ?_
        · rw [sumP_append, ← hq]; show q + pn at' = q + (pn at' + 0); omega
        · rw [List.pairwise_append]
          refine ⟨hps, List.pairwise_singleton _ _, fun a ha b hb => ?_⟩
          rw [List.mem_singleton] at hb; subst hb
          exact List.all_eq_true.1 d.2.2.2 a ha
      · rw [if_neg d, find_none]
        · rfl
        · intro bs _
          rw [Bool.eq_false_iff]
          intro k
          obtain ⟨k1, k2, k3⟩ := legF_iff.1 k
          have h1 := htm _ k3 at' (by simp)
          rw [sumP_append, sumP_append] at k1
          have h2 := sumP_nonneg h0 (plB true (at' + 1) bs)
          have h3 : sumP pn [at'] = pn at' := by show pn at' + 0 = _; omega
          refine d ⟨h1.1, h1.2, by omega, ?_⟩
          rw [List.all_eq_true]
          intro a ha
          exact (List.pairwise_append.1 (List.pairwise_append.1 k2).1).2.2 a ha at' (by simp)
    rw [key]
    cases hf : (lexB n).find? fun bs => legF K pn nr tm ((ps ++ [at']) ++ plB true (at' + 1) bs) with
    | none =>
      show walkN K pn nr tm n (at' + 1) ps q = _
      rw [ih (at' + 1) ps q hq hps]
      cases (lexB n).find? fun bs => legF K pn nr tm (ps ++ plB true (at' + 1) bs) with
      | none => rfl
      | some b =>
        show _ = tm (ps ++ plB true at' (false :: b))
        rw [e2]; rfl
    | some bs =>
      have hb : legF K pn nr tm (ps ++ [at'] ++ plB true (at' + 1) bs) = true := List.find?_some (p := fun bs => legF K pn nr tm (ps ++ [at'] ++ plB true (at' + 1) bs)) hf
      have := (legF_iff.1 hb).2.2
      obtain ⟨r, hr⟩ := Option.isSome_iff_exists.1 this
      show (match tm (ps ++ [at'] ++ plB true (at' + 1) bs) with | some r => some r | none => _) = tm (ps ++ plB true at' (true :: bs))
      rw [e1, hr]
theorem lexlt_ord {p : List Bool → Bool} {n : Nat} (hp : ∀ a, p a = true → a.length = n) : Ord p lexlt :=
  ⟨fun a b ha hb => lexlt_total (by rw [hp a ha, hp b hb]), fun a b c _ _ _ h1 h2 => lexlt_trans h1 h2, fun a b _ _ h => lexlt_asymm h⟩
/-- the document's answer is the walk's -/
theorem walk_of {K : Int} {pn : Nat → Int} {nr : Nat → Nat → Bool} {tm : TmT} {n : Nat} (h0 : ∀ k, 0 ≤ pn k) (hK : 1 ≤ K) (htm : ∀ ps, (tm ps).isSome = true → ∀ k ∈ ps, 1 ≤ pn k ∧ pn k ≤ K)
    (L : List (List Bool)) (hL : ∀ bs, bs ≠ noB n → (bs ∈ L ↔ bs.length = n)) (hN : ∀ bs ∈ L, bs.length = n) :
    (L.foldl (pickIf (fun bs => legF K pn nr tm (plB true 0 bs)) (fun c s => aheadN (plB true 0 c) (plB true 0 s))) none).bind (fun bs => tm (plB true 0 bs)) = walkN K pn nr tm n 0 [] 0 := by
  let p : List Bool → Bool := fun bs => decide (bs.length = n) && legF K pn nr tm (plB true 0 bs)
  have ep : ∀ (R : List Bool → List Bool → Bool) (M : List (List Bool)), (∀ c ∈ M, c.length = n) → ∀ st : Option (List Bool), M.foldl (pickIf (fun bs => legF K pn nr tm (plB true 0 bs)) R) st = M.foldl (pickIf p R) st := by
    intro R M
    induction M with
    | nil => intro _ _; rfl
    | cons c M ih =>
      intro hM st
      rw [List.foldl_cons, List.foldl_cons]
      have : pickIf (fun bs => legF K pn nr tm (plB true 0 bs)) R st c = pickIf p R st c := by
        unfold pickIf
        rw [show p c = legF K pn nr tm (plB true 0 c) by simp only [p]; rw [decide_eq_true (hM c (by simp)), Bool.true_and]]
      rw [this]
      exact ih (fun d hd => hM d (List.mem_cons_of_mem _ hd)) _
  have hp : ∀ a, p a = true → a.length = n := fun a ha => by simp only [p, Bool.and_eq_true, decide_eq_true_eq] at ha; exact ha.1
  have hf : ∀ a, p a = true → legF K pn nr tm (plB true 0 a) = true := fun a ha => by simp only [p, Bool.and_eq_true] at ha; exact ha.2
  rw [walkN_eq h0 htm n 0 [] 0 rfl List.Pairwise.nil]
  simp only [List.nil_append]
  rw [ep _ L hN, pick_congr (R' := lexlt) (fun a b ha hb => ?_) L none (by intro s h; cases h)]
  · rw [pick_perm (M := lexB n) (lexlt_ord hp) fun c hc => ?_]
    · rw [pick_first _ (lexB_sorted n)]
      congr 1
      have : ∀ M : List (List Bool), (∀ c ∈ M, c.length = n) → M.find? p = M.find? fun bs => legF K pn nr tm (plB true 0 bs) := by
        intro M
        induction M with
        | nil => intro _; rfl
        | cons c M ih =>
          intro hM
          rw [List.find?_cons, List.find?_cons, show p c = legF K pn nr tm (plB true 0 c) by simp only [p]; rw [decide_eq_true (hM c (by simp)), Bool.true_and], ih fun d hd => hM d (List.mem_cons_of_mem _ hd)]
      exact this _ fun c hc => lexB_len.1 hc
    · rw [lexB_len]
      refine hL c fun k => ?_
      have := (legF_iff.1 (hf c hc)).1
      rw [k, plB_noB] at this
      have : (0 : Int) = 2 * K := this
      omega
  · obtain ⟨a1, _, a3⟩ := legF_iff.1 (hf a ha)
    obtain ⟨b1, _, b3⟩ := legF_iff.1 (hf b hb)
    exact ahead_lex (pn := pn) (by rw [hp a ha, hp b hb]) (fun k hk => (htm _ a3 k hk).1) (fun k hk => (htm _ b3 k hk).1) (by rw [a1, b1])
end Go.Proofs.Ytmcincfonnfblaa
