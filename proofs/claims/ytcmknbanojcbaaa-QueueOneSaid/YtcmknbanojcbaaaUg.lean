/-
  Tickets in order and as they came: plain.
-/
import Derived.Test.YtcmknbanojcbaaaUf
namespace Go.Proofs.Ytcmknbanojcbaaa
open Go Go.AM Go.Proofs
-- tickets in order, and as they came
def bef (a b : Tk) : Prop := a.si < b.si ∨ (a.si = b.si ∧ a.id < b.id)
theorem bef_trans {a b c : Tk} (h : bef a b) (k : bef b c) : bef a c := by unfold bef at *; omega
theorem bef_irr {a : Tk} : ¬ bef a a := by unfold bef; omega
theorem bef_tot {a b : Tk} (h : a.id ≠ b.id) : bef a b ∨ bef b a := by unfold bef; omega
theorem befB_iff {a b : Tk} : befB a b = true ↔ bef a b := by
  unfold befB bef
  simp only [Bool.or_eq_true, Bool.and_eq_true, decide_eq_true_eq, beq_iff_eq]
theorem ordS_neg {a b : Tk} : ordS a b < 0 ↔ bef a b := by
  unfold ordS orS cmpS bef
  by_cases c1 : a.si < b.si
  · rw [if_pos c1, if_neg (by decide)]; exact ⟨fun _ => .inl c1, fun _ => by decide⟩
  · rw [if_neg c1]
    by_cases c2 : a.si > b.si
    · rw [if_pos c2, if_neg (by decide)]; exact ⟨fun h => by omega, fun h => by omega⟩
    · rw [if_neg c2, if_pos rfl]
      by_cases c3 : a.id < b.id
      · rw [if_pos c3]; exact ⟨fun _ => .inr ⟨by omega, c3⟩, fun _ => by decide⟩
      · rw [if_neg c3]
        split <;> exact ⟨fun h => by omega, fun h => by omega⟩
abbrev Srt (l : List Tk) : Prop := l.Pairwise bef
theorem srt_get {l : List Tk} (h : Srt l) {i j : Nat} (hij : i < j) (hj : j < l.length) : bef (l.getD i default) (l.getD j default) := by
  rw [getD_eq' (show i < l.length by omega), getD_eq' hj]
  exact List.pairwise_iff_getElem.1 h i j (by omega) hj hij
theorem lbT_ok {l : List Tk} (h : Srt l) (t : Tk) : LbT l t (lbT l t) := by
  refine ⟨List.findIdx_le_length, fun k hk => ?_, fun k hk hl => ?_⟩
  · have hkl : k < l.length := Nat.lt_of_lt_of_le hk List.findIdx_le_length
    have := List.not_of_lt_findIdx hk
    rw [getD_eq' hkl]
    simpa using this
  · have hpl : lbT l t < l.length := Nat.lt_of_le_of_lt hk hl
    have h1 : ¬ ordS (l.getD (lbT l t) default) t < 0 := by
      have := List.findIdx_getElem (p := fun r : Tk => decide (¬ ordS r t < 0)) (w := hpl)
      rw [getD_eq' hpl]
      exact of_decide_eq_true this
    rcases Nat.eq_or_lt_of_le hk with e | e
    · subst e; exact h1
    · intro c
      exact h1 (ordS_neg.2 (bef_trans (srt_get h e hl) (ordS_neg.1 c)))
theorem ins_perm (l : List Tk) (p : Nat) (t : Tk) : (insAt l p t).Perm (t :: l) := by
  unfold insAt
  refine List.perm_middle.trans ?_
  rw [List.take_append_drop]
theorem ins_srt {l : List Tk} {t : Tk} {p : Nat} (h : Srt l) (lo : ∀ k, k < p → k < l.length → bef (l.getD k default) t) (hi : ∀ k, p ≤ k → k < l.length → bef t (l.getD k default)) : Srt (insAt l p t) := by
  unfold insAt Srt
  rw [List.pairwise_append]
  refine ⟨h.sublist (List.take_sublist _ _), List.pairwise_cons.2 ⟨fun a ha => ?_, h.sublist (List.drop_sublist _ _)⟩, fun a ha b hb => ?_⟩
  · obtain ⟨k, hk, rfl⟩ := List.mem_iff_getElem.1 ha
    rw [List.length_drop] at hk
    have := hi (p + k) (by omega) (by omega)
    rw [getD_eq' (by omega)] at this
    rw [List.getElem_drop]; exact this
  · obtain ⟨k, hk, rfl⟩ := List.mem_iff_getElem.1 ha
    rw [List.length_take] at hk
    have h5 := lo k (by omega) (by omega)
    rw [getD_eq' (by omega)] at h5
    rw [List.getElem_take]
    rcases List.mem_cons.1 hb with rfl | hb
    · exact h5
    · obtain ⟨m, hm, rfl⟩ := List.mem_iff_getElem.1 hb
      rw [List.length_drop] at hm
      rw [List.getElem_drop]
      have := List.pairwise_iff_getElem.1 h k (p + m) (by omega) (by omega) (by omega)
      exact this
theorem ins_srtB {l : List Tk} {t : Tk} (h : Srt l) (hd : ∀ a ∈ l, a.id ≠ t.id) : Srt (insAt l (lbT l t) t) := by
  have lb := lbT_ok h t
  refine ins_srt h (fun k hk _ => ordS_neg.1 (lb.lo k hk)) (fun k hk hl => ?_)
  have h1 := lb.hi k hk hl
  have hm : l.getD k default ∈ l := getD_mem hl
  rcases bef_tot (hd _ hm) with c | c
  · exact absurd (ordS_neg.2 c) h1
  · exact c
theorem downK_lo {t : Tk} {out : List Tk} (h : Srt out) (hd : ∀ a ∈ out, a.id ≠ t.id) : ∀ n, n ≤ out.length → ∀ k, k < downK t out n → bef (out.getD k default) t
  | 0, _, k, hk => absurd hk (Nat.not_lt_zero _)
  | n + 1, hn, k, hk => by
    unfold downK at hk
    split at hk
    · exact downK_lo h hd n (by omega) k hk
    · rename_i c
      have hm : out.getD n default ∈ out := getD_mem (by omega)
      have hb : bef (out.getD n default) t := by
        rcases bef_tot (hd _ hm) with q | q
        · exact q
        · exact absurd (befB_iff.2 q) c
      rcases Nat.eq_or_lt_of_le (Nat.le_of_lt_succ hk) with rfl | q
      · exact hb
      · exact bef_trans (srt_get h q (by omega)) hb
theorem downK_hi {t : Tk} {out : List Tk} : ∀ n, n ≤ out.length → ∀ k, downK t out n ≤ k → k < n → bef t (out.getD k default)
  | 0, _, k, _, hk => absurd hk (Nat.not_lt_zero _)
  | n + 1, hn, k, h1, hk => by
    unfold downK at h1
    split at h1
    · rename_i c
      rcases Nat.eq_or_lt_of_le (Nat.le_of_lt_succ hk) with rfl | q
      · exact befB_iff.1 c
      · exact downK_hi n (by omega) k h1 q
    · omega
theorem insW_srt {out : List Tk} {t : Tk} (h : Srt out) (hd : ∀ a ∈ out, a.id ≠ t.id) : Srt (insW out t) :=
  ins_srt h (fun k hk _ => downK_lo h hd out.length (Nat.le_refl _) k hk) (fun k hk hl => downK_hi out.length (Nat.le_refl _) k hk hl)
abbrev Ids (l : List Tk) : Prop := l.Pairwise fun a b => a.id ≠ b.id
theorem fold_ins : ∀ (a out : List Tk), Srt out → Ids (out ++ a) → Srt (a.foldl insW out) ∧ (a.foldl insW out).Perm (out ++ a)
  | [], out, h, _ => ⟨h, by rw [List.append_nil]; exact .refl _⟩
  | x :: a, out, h, hd => by
    have hx : ∀ b ∈ out, b.id ≠ x.id := fun b hb => (List.pairwise_append.1 hd).2.2 b hb x (by simp)
    have hp : (insW out x ++ a).Perm (out ++ x :: a) := by
      refine ((ins_perm out _ x).append_right a).trans ?_
      exact (List.perm_middle (l₁ := out) (l₂ := a)).symm
    obtain ⟨h1, h2⟩ := fold_ins a (insW out x) (insW_srt h hx) (hp.symm.pairwise hd fun h e => h e.symm)
    exact ⟨h1, h2.trans hp⟩
theorem srt_eq {a b : List Tk} (ha : Srt a) (hb : Srt b) (hp : a.Perm b) : a = b :=
  List.Perm.eq_of_pairwise (fun _ _ _ _ h1 h2 => absurd (bef_trans h1 h2) bef_irr) ha hb hp
theorem mode_eq {Q W : List Tk} (hs : Srt Q) (hp : Q.Perm W) (hi : Ids W) (m : Int) : modeL Q m = modeW W m := by
  have hW : Ids ([] ++ modeL W m) := hi.sublist List.filter_sublist
  obtain ⟨h1, h2⟩ := fold_ins (modeL W m) [] List.Pairwise.nil hW
  exact srt_eq (hs.sublist List.filter_sublist) h1 ((hp.filter _).trans h2.symm)
-- what is told of a ticket, a player
theorem hasQ_iff {l : List Tk} {c : Int} : hasQ l c = true ↔ ∃ a ∈ l, a.id = c := by
  unfold hasQ byId
  rw [decide_eq_true_eq, List.findIdx_lt_length]
  simp
theorem hasQ_no {l : List Tk} {c : Int} : hasQ l c = false ↔ ∀ a ∈ l, a.id ≠ c := by
  rw [← Bool.not_eq_true, hasQ_iff]
  exact ⟨fun h a ha e => h ⟨a, ha, e⟩, fun h ⟨a, ha, e⟩ => h a ha e⟩
theorem getQ_mem {l : List Tk} {c : Int} (h : hasQ l c = true) : getQ l c ∈ l ∧ (getQ l c).id = c := by
  have h1 : l.findIdx (byId c) < l.length := of_decide_eq_true h
  refine ⟨getD_mem h1, ?_⟩
  have := List.findIdx_getElem (p := byId c) (w := h1)
  unfold getQ
  rw [getD_eq' h1]
  unfold byId at this ⊢
  simpa using this
theorem ids_inj {l : List Tk} (h : Ids l) {a b : Tk} (ha : a ∈ l) (hb : b ∈ l) (e : a.id = b.id) : a = b := by
  obtain ⟨i, hi, rfl⟩ := List.mem_iff_getElem.1 ha
  obtain ⟨j, hj, rfl⟩ := List.mem_iff_getElem.1 hb
  rcases Nat.lt_trichotomy i j with c | c | c
  · exact absurd e (List.pairwise_iff_getElem.1 h i j hi hj c)
  · subst c; rfl
  · exact absurd e.symm (List.pairwise_iff_getElem.1 h j i hj hi c)
theorem hasQ_perm {Q W : List Tk} (hp : Q.Perm W) (c : Int) : hasQ Q c = hasQ W c := by
  rw [Bool.eq_iff_iff, hasQ_iff, hasQ_iff]
  exact ⟨fun ⟨a, h, e⟩ => ⟨a, hp.mem_iff.1 h, e⟩, fun ⟨a, h, e⟩ => ⟨a, hp.mem_iff.2 h, e⟩⟩
theorem getQ_no {l : List Tk} {c : Int} (h : hasQ l c = false) : getQ l c = default := getQ_none (of_decide_eq_false h)
theorem getQ_perm {Q W : List Tk} (hp : Q.Perm W) (hi : Ids W) (c : Int) : getQ Q c = getQ W c := by
  cases h : hasQ Q c with
  | false => rw [getQ_no h, getQ_no (by rw [← hasQ_perm hp]; exact h)]
  | true =>
    obtain ⟨h1, h2⟩ := getQ_mem h
    obtain ⟨h3, h4⟩ := getQ_mem (show hasQ W c = true by rw [← hasQ_perm hp]; exact h)
    exact ids_inj hi (hp.mem_iff.1 h1) h3 (h2.trans h4.symm)
abbrev Prs (l : List Tk) : Prop := l.Pairwise fun a b => ∀ p ∈ a.pl, p ∉ b.pl
theorem prs_inj {l : List Tk} (h : Prs l) {a b : Tk} {p : Int} (ha : a ∈ l) (hb : b ∈ l) (ea : p ∈ a.pl) (eb : p ∈ b.pl) : a = b := by
  obtain ⟨i, hi, rfl⟩ := List.mem_iff_getElem.1 ha
  obtain ⟨j, hj, rfl⟩ := List.mem_iff_getElem.1 hb
  rcases Nat.lt_trichotomy i j with c | c | c
  · exact absurd eb (List.pairwise_iff_getElem.1 h i j hi hj c p ea)
  · subst c; rfl
  · exact absurd ea (List.pairwise_iff_getElem.1 h j i hj hi c p eb)
theorem ofQ_of {l : List Tk} (h : Prs l) {a : Tk} {p : Int} (ha : a ∈ l) (hp : p ∈ a.pl) : ofQ l p = a.id := by
  have h1 : l.findIdx (byPl p) < l.length := List.findIdx_lt_length.2 ⟨a, ha, memB_iff.2 hp⟩
  have h2 := List.findIdx_getElem (p := byPl p) (w := h1)
  unfold ofQ
  rw [if_pos h1, getD_eq' h1]
  rw [prs_inj h (List.getElem_mem h1) ha (memB_iff.1 h2) hp]
theorem ofQ_none {l : List Tk} {p : Int} (h : ∀ a ∈ l, p ∉ a.pl) : ofQ l p = 0 := by
  unfold ofQ
  rw [if_neg]
  rw [List.findIdx_lt_length]
  rintro ⟨a, ha, e⟩
  exact h a ha (memB_iff.1 e)
theorem ofQ_perm {Q W : List Tk} (hp : Q.Perm W) (hi : Prs W) (p : Int) : ofQ Q p = ofQ W p := by
  have hQ : Prs Q := hp.symm.pairwise hi fun h p h1 h2 => h p h2 h1
  by_cases c : ∃ a ∈ W, p ∈ a.pl
  · obtain ⟨a, ha, hpa⟩ := c
    rw [ofQ_of hi ha hpa, ofQ_of hQ (hp.mem_iff.2 ha) hpa]
  · have hc : ∀ a ∈ W, p ∉ a.pl := fun a ha h => c ⟨a, ha, h⟩
    rw [ofQ_none hc, ofQ_none fun a ha => hc a (hp.mem_iff.1 ha)]
theorem right_ge {n : Int} (h : rightS n = true) : 1 ≤ n := by unfold rightS at h; rw [decide_eq_true_eq] at h; omega
/-- a right queue -/
structure QO (M : Int) (l : List Tk) : Prop where
  rise : Srt l
  ids : Ids l
  prs : Prs l
  rt : ∀ t ∈ l, rightS t.id = true
  nd : ∀ t ∈ l, t.pl.Nodup
  gd : ∀ t ∈ l, badP t.pl = false
  ln : ∀ t ∈ l, t.pl.length ≤ 8
  md : ∀ t ∈ l, 0 ≤ t.md ∧ t.md < M
  full : ∀ m, (modeL l m).length ≤ 16
theorem QO.nil (M : Int) : QO M [] := ⟨.nil, .nil, .nil, (fun _ h => nomatch h), (fun _ h => nomatch h), (fun _ h => nomatch h), (fun _ h => nomatch h), (fun _ h => nomatch h), fun _ => (show (0 : Nat) ≤ 16 by decide)⟩
theorem QO.sml {M : Int} {l : List Tk} (h : QO M l) (hl : l.length ≤ 1000000) : Sml l := ⟨hl, fun t ht => by have := h.ln t ht; omega⟩
theorem QO.of0 {M : Int} {l : List Tk} (h : QO M l) {p : Int} : ofQ l p = 0 ↔ ∀ a ∈ l, p ∉ a.pl := by
  refine ⟨fun e a ha hp => ?_, ofQ_none⟩
  rw [ofQ_of h.prs ha hp] at e
  have := right_ge (h.rt a ha); omega
theorem nd_take {l : List Int} : l.Nodup ↔ ∀ k, k < l.length → l.getD k 0 ∉ l.take k := by
  unfold List.Nodup
  rw [List.pairwise_iff_getElem]
  constructor
  · intro h k hk hm
    obtain ⟨i, hi, e⟩ := List.mem_iff_getElem.1 hm
    rw [List.length_take] at hi
    rw [List.getElem_take, getD_eq' hk] at e
    exact h i k (by omega) hk (by omega) e
  · intro h i j hi hj hij e
    refine h j hj (List.mem_iff_getElem.2 ⟨i, by rw [List.length_take]; omega, ?_⟩)
    rw [List.getElem_take, getD_eq' hj]; exact e
theorem nd_drop {l : List Int} : l.Nodup ↔ ∀ k, k < l.length → l.getD k 0 ∉ l.drop (k + 1) := by
  unfold List.Nodup
  rw [List.pairwise_iff_getElem]
  constructor
  · intro h k hk hm
    obtain ⟨i, hi, e⟩ := List.mem_iff_getElem.1 hm
    rw [List.length_drop] at hi
    rw [List.getElem_drop, getD_eq' hk] at e
    exact h k (k + 1 + i) hk (by omega) (by omega) e.symm
  · intro h i j hi hj hij e
    refine h i hi (List.mem_iff_getElem.2 ⟨j - (i + 1), by rw [List.length_drop]; omega, ?_⟩)
    rw [List.getElem_drop, getD_eq' hi]
    rw [e]; congr 1; omega
theorem dblQ_no {M : Int} {l : List Tk} (h : QO M l) {pl : List Int} : dblQ l pl = false ↔ pl.Nodup ∧ ∀ p ∈ pl, ∀ a ∈ l, p ∉ a.pl := by
  unfold dblQ
  rw [decide_eq_false_iff_not]
  constructor
  · intro hn
    have h0 : ∀ k, k < pl.length → memB (pl.take k) (pl.getD k 0) = false ∧ ofQ l (pl.getD k 0) = 0 := by
      intro k hk
      have : ¬ dblB l pl k = true := fun c => hn ⟨k, hk, c⟩
      unfold dblB at this
      simpa using this
    refine ⟨nd_take.2 fun k hk hm => ?_, fun p hp => ?_⟩
    · have := (h0 k hk).1
      rw [memB_iff.2 hm] at this; cases this
    · obtain ⟨k, hk, e⟩ := List.mem_iff_getElem.1 hp
      have := (h0 k hk).2
      rw [getD_eq' hk, e] at this
      exact h.of0.1 this
  · rintro ⟨h1, h2⟩ ⟨k, hk, c⟩
    unfold dblB at c
    rw [Bool.or_eq_true] at c
    rcases c with c | c
    · exact nd_take.1 h1 k hk (memB_iff.1 c)
    · have := h.of0.2 (h2 (pl.getD k 0) (getD_mem hk))
      rw [this] at c; cases c
/-- what the document asks: does one of some players stand twice, or wait? -/
def dblW (l : List Tk) (pl : List Int) : Bool := decide (∃ k, k < pl.length ∧ (ofQ l (pl.getD k 0) != 0 || memB (pl.drop (k + 1)) (pl.getD k 0)) = true)
theorem dblW_no {l : List Tk} {pl : List Int} : dblW l pl = false ↔ pl.Nodup ∧ ∀ p ∈ pl, ofQ l p = 0 := by
  unfold dblW
  rw [decide_eq_false_iff_not]
  constructor
  · intro hn
    have h0 : ∀ k, k < pl.length → ofQ l (pl.getD k 0) = 0 ∧ memB (pl.drop (k + 1)) (pl.getD k 0) = false := by
      intro k hk
      have : ¬ (ofQ l (pl.getD k 0) != 0 || memB (pl.drop (k + 1)) (pl.getD k 0)) = true := fun c => hn ⟨k, hk, c⟩
      simpa using this
    refine ⟨nd_drop.2 fun k hk hm => ?_, fun p hp => ?_⟩
    · have := (h0 k hk).2
      rw [memB_iff.2 hm] at this; cases this
    · obtain ⟨k, hk, e⟩ := List.mem_iff_getElem.1 hp
      have := (h0 k hk).1
      rwa [getD_eq' hk, e] at this
  · rintro ⟨h1, h2⟩ ⟨k, hk, c⟩
    rw [Bool.or_eq_true] at c
    rcases c with c | c
    · rw [h2 _ (getD_mem hk)] at c; cases c
    · exact nd_drop.1 h1 k hk (memB_iff.1 c)
def errR (sz : List Int) (l : List Tk) (t : Tk) : Int :=
  if rightS t.id = true ∧ badP t.pl = false then
    if 0 ≤ t.md ∧ t.md < sz.length then
      if t.pl ≠ [] ∧ (t.pl.length : Int) ≤ sz.getD t.md.toNat 0 then
        if 0 ≤ t.rt ∧ t.rt ≤ 10000 then
          if hasQ l t.id = false ∧ dblW l t.pl = false then
            if (modeW l t.md).length < 16 then 0 else 10
          else 11
        else 2
      else 21
    else 20
  else 14
def putR (sz : List Int) (l : List Tk) (t : Tk) : List Tk := if errR sz l t = 0 then l ++ [t] else l
/-- the one queue is as the other one -/
structure QR (M : Int) (Q W : List Tk) : Prop where
  perm : Q.Perm W
  ok : QO M Q
theorem QR.nil (M : Int) : QR M [] [] := ⟨.refl _, QO.nil M⟩
theorem QR.ids {M : Int} {Q W : List Tk} (h : QR M Q W) : Ids W := h.perm.pairwise h.ok.ids fun h e => h e.symm
theorem QR.prs {M : Int} {Q W : List Tk} (h : QR M Q W) : Prs W := h.perm.pairwise h.ok.prs fun h p h1 h2 => h p h2 h1
theorem QR.len {M : Int} {Q W : List Tk} (h : QR M Q W) : Q.length = W.length := h.perm.length_eq
theorem QR.smlW {M : Int} {Q W : List Tk} (h : QR M Q W) (hl : W.length ≤ 1000000) : Sml W := ⟨hl, fun t ht => by have := h.ok.ln t (h.perm.mem_iff.2 ht); omega⟩
theorem QR.mode {M : Int} {Q W : List Tk} (h : QR M Q W) (m : Int) : modeL Q m = modeW W m := mode_eq h.ok.rise h.perm h.ids m
theorem QR.get {M : Int} {Q W : List Tk} (h : QR M Q W) (c : Int) : getQ Q c = getQ W c := getQ_perm h.perm h.ids c
theorem QR.has {M : Int} {Q W : List Tk} (h : QR M Q W) (c : Int) : hasQ Q c = hasQ W c := hasQ_perm h.perm c
theorem QR.of {M : Int} {Q W : List Tk} (h : QR M Q W) (p : Int) : ofQ Q p = ofQ W p := ofQ_perm h.perm h.prs p
theorem QR.dbl {M : Int} {Q W : List Tk} (h : QR M Q W) (pl : List Int) : dblQ Q pl = dblW W pl := by
  have key : dblQ Q pl = false ↔ dblW W pl = false := by
    rw [dblQ_no h.ok, dblW_no]
    refine and_congr_right fun _ => ⟨fun k p hp => ?_, fun k p hp => ?_⟩
    · rw [← h.of]; exact h.ok.of0.2 (k p hp)
    · exact h.ok.of0.1 (by rw [h.of]; exact k p hp)
  cases c : dblQ Q pl with
  | false => exact (key.1 c).symm
  | true =>
    cases d : dblW W pl with
    | false => rw [key.2 d] at c; cases c
    | true => rfl
theorem QR.err {M : Int} {Q W : List Tk} (h : QR M Q W) (sz : List Int) (t : Tk) : errQ sz Q t = errR sz W t := by
  unfold errQ errR
  rw [h.has, h.dbl, h.mode]
structure Put0 (sz : List Int) (l : List Tk) (t : Tk) : Prop where
  rt : rightS t.id = true
  gd : badP t.pl = false
  md : 0 ≤ t.md ∧ t.md < sz.length
  ne : t.pl ≠ []
  has : hasQ l t.id = false
  dbl : dblQ l t.pl = false
  full : (modeL l t.md).length < 16
theorem errQ_zero {sz : List Int} {l : List Tk} {t : Tk} (h : errQ sz l t = 0) : Put0 sz l t := by
  unfold errQ at h
  split at h
  · split at h
    · split at h
      · split at h
        · split at h
          · split at h
            · rename_i c1 c2 c3 _ c5 c6
              exact ⟨c1.1, c1.2, c2, c3.1, c5.1, c5.2, c6⟩
            · cases h
          · cases h
        · cases h
      · cases h
    · cases h
  · cases h
theorem modeL_perm {a b : List Tk} (h : a.Perm b) (m : Int) : (modeL a m).Perm (modeL b m) := h.filter _
theorem QO.ins {M : Int} {sz : List Int} {l : List Tk} {t : Tk} (h : QO M l) (hM : (sz.length : Int) = M) (ht : t.pl.length ≤ 8) (p : Put0 sz l t) : QO M (insAt l (lbT l t) t) := by
  have hp := ins_perm l (lbT l t) t
  have hd := hasQ_no.1 p.has
  obtain ⟨n1, n2⟩ := (dblQ_no h).1 p.dbl
  have mem : ∀ {P : Tk → Prop}, P t → (∀ a ∈ l, P a) → ∀ a ∈ insAt l (lbT l t) t, P a := fun h1 h2 a ha => by
    rcases List.mem_cons.1 (hp.mem_iff.1 ha) with rfl | ha
    · exact h1
    · exact h2 a ha
  refine ⟨ins_srtB h.rise hd, hp.symm.pairwise (List.pairwise_cons.2 ⟨fun a ha e => hd a ha e.symm, h.ids⟩) fun h e => h e.symm, hp.symm.pairwise (List.pairwise_cons.2 ⟨fun a ha p hp => n2 p hp a ha, h.prs⟩) fun h p h1 h2 => h p h2 h1, mem p.rt h.rt, mem n1 h.nd, mem p.gd h.gd, mem ht h.ln, mem (by rw [← hM]; exact p.md) h.md, fun m => ?_⟩
  rw [(modeL_perm hp m).length_eq]
  unfold modeL
  by_cases c : t.md = m
  · rw [List.filter_cons_of_pos (by simpa using c), List.length_cons]
    have := p.full
    unfold modeL at this
    rw [c] at this; omega
  · rw [List.filter_cons_of_neg (by simpa using c)]
    exact h.full m
theorem QO.put {M : Int} {sz : List Int} {l : List Tk} {t : Tk} (h : QO M l) (hM : (sz.length : Int) = M) (ht : t.pl.length ≤ 8) : QO M (putQ sz l t) := by
  unfold putQ
  split
  · rename_i c; exact h.ins hM ht (errQ_zero c)
  · exact h
theorem putQ_len (sz : List Int) {l : List Tk} (h : Srt l) (t : Tk) : (putQ sz l t).length ≤ l.length + 1 := by
  unfold putQ
  split
  · rw [insAt_length (lbT_ok h t).le]; exact Nat.le_refl _
  · omega
theorem QR.put {M : Int} {sz : List Int} {Q W : List Tk} (h : QR M Q W) (hM : (sz.length : Int) = M) {t : Tk} (ht : t.pl.length ≤ 8) : QR M (putQ sz Q t) (putR sz W t) := by
  refine ⟨?_, h.ok.put hM ht⟩
  unfold putQ putR
  rw [h.err sz t]
  split
  · exact (ins_perm Q _ t).trans ((List.Perm.cons _ h.perm).trans (List.perm_append_singleton _ _).symm)
  · exact h.perm
theorem QO.sub {M : Int} {l k : List Tk} (h : QO M l) (s : k.Sublist l) : QO M k :=
  ⟨h.rise.sublist s, h.ids.sublist s, h.prs.sublist s, fun t ht => h.rt t (s.subset ht), fun t ht => h.nd t (s.subset ht), fun t ht => h.gd t (s.subset ht), fun t ht => h.ln t (s.subset ht), fun t ht => h.md t (s.subset ht), fun m => by
    have := (s.filter (fun t : Tk => t.md == m)).length_le
    have h2 := h.full m
    unfold modeL at h2 ⊢; omega⟩
theorem erase_filter {c : Int} : ∀ {l : List Tk}, Ids l → hasQ l c = true → l.eraseIdx (l.findIdx (byId c)) = woQ l c
  | [], _, h => by cases h
  | a :: l, hi, h => by
    obtain ⟨h1, h2⟩ := List.pairwise_cons.1 hi
    by_cases e : a.id = c
    · have e1 : byId c a = true := by unfold byId; simpa using e
      have e2 : neI c a = false := by unfold neI; simpa using e
      rw [List.findIdx_cons, e1]
      unfold woQ
      rw [List.filter_cons_of_neg (by rw [e2]; decide)]
      show l = _
      rw [List.filter_eq_self.2]
      intro b hb
      unfold neI
      have := h1 b hb
      rw [bne_iff_ne]; omega
    · have e1 : byId c a = false := by unfold byId; simpa using e
      have e2 : neI c a = true := by unfold neI; simpa using e
      have hl : hasQ l c = true := by
        obtain ⟨b, hb, e3⟩ := hasQ_iff.1 h
        rcases List.mem_cons.1 hb with rfl | hb
        · exact absurd e3 e
        · exact hasQ_iff.2 ⟨b, hb, e3⟩
      rw [List.findIdx_cons, e1]
      unfold woQ
      rw [List.filter_cons_of_pos (by rw [e2])]
      show a :: l.eraseIdx (l.findIdx (byId c)) = _
      rw [erase_filter h2 hl]; rfl
theorem dropQ_eq {l : List Tk} (hi : Ids l) (c : Int) : dropQ l c = woQ l c := by
  unfold dropQ
  split
  · rename_i h; exact erase_filter hi h
  · rename_i h
    have h : hasQ l c = false := by simpa using h
    have := hasQ_no.1 h
    unfold woQ
    rw [List.filter_eq_self.2]
    intro b hb
    unfold neI
    rw [bne_iff_ne]; exact this b hb
theorem QO.drop {M : Int} {l : List Tk} (h : QO M l) (c : Int) : QO M (dropQ l c) := by
  rw [dropQ_eq h.ids]; exact h.sub List.filter_sublist
theorem dropQ_len {M : Int} {l : List Tk} (h : QO M l) (c : Int) : (dropQ l c).length ≤ l.length := by
  rw [dropQ_eq h.ids]; exact List.length_filter_le _ _
theorem QR.drop {M : Int} {Q W : List Tk} (h : QR M Q W) (c : Int) : QR M (dropQ Q c) (woQ W c) :=
  ⟨by rw [dropQ_eq h.ok.ids]; exact h.perm.filter _, h.ok.drop c⟩
end Go.Proofs.Ytcmknbanojcbaaa
