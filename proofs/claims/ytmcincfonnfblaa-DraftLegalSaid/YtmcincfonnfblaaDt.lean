/-
  The laws DraftLegal, DraftNone and DraftWaits answer true at whatever arguments.
-/
import Derived.Test.YtmcincfonnfblaaDr
import Derived.Test.YtmcincfonnfblaaProg
namespace Go.Proofs.Ytmcincfonnfblaa
open Go Go.AM Go.Proofs
-- the places of a match
def selB (v : Bool) : List Bool → List Nat → List Nat
  | c :: cs, k :: x => if c = v then k :: selB v cs x else selB v cs x
  | _, _ => []
theorem over_sel (v : Bool) : ∀ (cs : List Bool) (x pre : List Nat), cs.length = x.length → overL (pre ++ x) (plB v pre.length cs) = selB v cs x
  | [], [], pre, _ => by simp [plB, selB, overL]
  | [], _ :: _, _, h => by simp at h
  | _ :: _, [], _, h => by simp at h
  | c :: cs, k :: x, pre, h => by
    have ih := over_sel v cs x (pre ++ [k]) (by simpa using h)
    rw [List.append_assoc, List.singleton_append, List.length_append, List.length_singleton] at ih
    rw [plB, selB]
    by_cases hc : c = v
    · rw [if_pos hc, if_pos hc, ← ih]
      show (pre ++ k :: x).getD pre.length 0 :: overL (pre ++ k :: x) (plB v (pre.length + 1) cs) = _
      congr 1
      rw [List.getD_eq_getElem?_getD, List.getElem?_append_right (Nat.le_refl _), Nat.sub_self]; rfl
    · rw [if_neg hc, if_neg hc, ← ih]
theorem sel_sub (v : Bool) : ∀ (cs : List Bool) (x : List Nat), (selB v cs x).Sublist x
  | [], x => by rw [selB]; exact List.nil_sublist _; simp
  | c :: cs, [] => by rw [selB]; exact List.nil_sublist _; simp
  | c :: cs, k :: x => by
    rw [selB]
    by_cases hc : c = v
    · rw [if_pos hc]; exact (sel_sub v cs x).cons_cons k
    · rw [if_neg hc]; exact (sel_sub v cs x).cons k
theorem sel_perm : ∀ (cs : List Bool) (x : List Nat), cs.length = x.length → (selB true cs x ++ selB false cs x).Perm x
  | [], [], _ => by rw [selB]; exact .refl _; simp
  | [], _ :: _, h => by simp at h
  | _ :: _, [], h => by simp at h
  | c :: cs, k :: x, h => by
    have ih := sel_perm cs x (by simpa using h)
    rw [selB, selB]
    cases c
    · rw [if_neg (by decide), if_pos rfl]; exact List.perm_middle.trans (ih.cons k)
    · rw [if_pos rfl, if_neg (by decide)]; exact ih.cons k
theorem plB_sorted (v : Bool) : ∀ (bs : List Bool) (a : Nat), (plB v a bs).Pairwise (· < ·)
  | [], a => by rw [plB]; exact List.Pairwise.nil
  | b :: bs, a => by
    rw [plB]
    by_cases h : b = v
    · rw [if_pos h]
      exact List.pairwise_cons.2 ⟨fun k hk => by have := plB_ge hk; omega, plB_sorted v bs (a + 1)⟩
    · rw [if_neg h]; exact plB_sorted v bs (a + 1)
theorem sumP_map (f : Nat → Int) (g : Nat → Nat) : ∀ q : List Nat, sumP f (q.map g) = sumP (fun k => f (g k)) q
  | [] => rfl
  | k :: q => by rw [List.map_cons, sumP, sumP, sumP_map f g q]
theorem sumP_congr {f g : Nat → Int} : ∀ {q : List Nat}, (∀ k ∈ q, f k = g k) → sumP f q = sumP g q
  | [], _ => rfl
  | k :: q, h => by rw [sumP, sumP, h k (by simp), sumP_congr fun j hj => h j (List.mem_cons_of_mem _ hj)]
theorem sumP_perm (f : Nat → Int) {a b : List Nat} (h : a.Perm b) : sumP f a = sumP f b := by
  induction h with
  | nil => rfl
  | cons x _ ih => rw [sumP, sumP, ih]
  | swap x y l => rw [sumP, sumP, sumP, sumP]; omega
  | trans _ _ ih1 ih2 => rw [ih1, ih2]
theorem pn_taken (l : List Ti) (x : List Nat) {j : Nat} (h : j < x.length) : pnL (takenL l x) j = pnL l (x.getD j 0) := by
  unfold pnL takenL
  rw [List.getD_eq_getElem?_getD, List.getElem?_map, List.getElem?_eq_getElem h, List.getD_eq_getElem?_getD (l := x), List.getElem?_eq_getElem h]
  rfl
structure Match (m : Mo) (n : Int) (l : List Ti) (A E : List Nat) (bs : List Bool) : Prop where
  ok : okM m
  len : l.length ≤ 16
  fst : (lexB l.length).find? (lgB ⟨m, n, l⟩) = some bs
  bl : bs.length = l.length
  lg : lgB ⟨m, n, l⟩ bs = true
  ex : ∃ cs, cs.length = (plB true 0 bs).length ∧ (∃ ds, cs = true :: ds) ∧ A = selB true cs (plB true 0 bs) ∧ E = selB false cs (plB true 0 bs)
  sA : sumP (pnL l) A = m.K
  sE : sumP (pnL l) E = m.K
theorem match_of {m : Mo} {n : Int} {l : List Ti} {r : List Nat × List Nat} (h : findS m n l = some r) : ∃ bs, Match m n l r.1 r.2 bs := by
  obtain ⟨ok, h16, bs, hf, hb, hl, r0, hr0, rfl⟩ := find_what h
  obtain ⟨_, cs, h1, h2, h3, rfl⟩ := teams_what hr0
  rw [taken_len] at h1
  have hs := of_decide_eq_true h3
  have e : ∀ v, sumP (pnL (takenL l (plB true 0 bs))) (plB v 0 cs) = sumP (pnL l) (overL (plB true 0 bs) (plB v 0 cs)) := fun v => by
    unfold overL
    rw [sumP_map]
    exact sumP_congr fun k hk => pn_taken l _ (by have := (plB_small (v := v) h1).2 k hk; exact this)
  have o : ∀ v, overL (plB true 0 bs) (plB v 0 cs) = selB v cs (plB true 0 bs) := fun v => over_sel v cs (plB true 0 bs) [] h1
  exact ⟨bs, ok, h16, hf, hb, hl, ⟨cs, h1, h2, o true, o false⟩, by show sumP (pnL l) (overL _ _) = _; rw [← e]; exact hs.1, by show sumP (pnL l) (overL _ _) = _; rw [← e]; exact hs.2⟩
structure Places (l : List Ti) (A : List Nat) : Prop where
  up : A.Pairwise (· < ·)
  lt : ∀ k ∈ A, k < l.length
theorem Match.pA {m : Mo} {n : Int} {l : List Ti} {A E : List Nat} {bs : List Bool} (h : Match m n l A E bs) : Places l A ∧ Places l E := by
  obtain ⟨cs, _, _, rfl, rfl⟩ := h.ex
  have hx := plB_sorted true bs 0
  have hm := (plB_small (v := true) h.bl).2
  exact ⟨⟨hx.sublist (sel_sub _ _ _), fun k hk => hm k ((sel_sub _ _ _).subset hk)⟩, ⟨hx.sublist (sel_sub _ _ _), fun k hk => hm k ((sel_sub _ _ _).subset hk)⟩⟩
theorem Match.perm {m : Mo} {n : Int} {l : List Ti} {A E : List Nat} {bs : List Bool} (h : Match m n l A E bs) : (A ++ E).Perm (plB true 0 bs) := by
  obtain ⟨cs, h1, _, rfl, rfl⟩ := h.ex
  exact sel_perm cs _ h1
theorem Match.first {m : Mo} {n : Int} {l : List Ti} {A E : List Nat} {bs : List Bool} (h : Match m n l A E bs) : A ≠ [] ∧ E ≠ [] ∧ A.getD 0 0 < E.getD 0 0 ∧ A.getD 0 0 = (plB true 0 bs).getD 0 0 := by
  have hK := h.ok.1
  have hA : A ≠ [] := fun e => by have := h.sA; rw [e] at this; have : (0 : Int) = m.K := this; omega
  have hE : E ≠ [] := fun e => by have := h.sE; rw [e] at this; have : (0 : Int) = m.K := this; omega
  refine ⟨hA, hE, ?_⟩
  obtain ⟨cs, h1, ⟨ds, rfl⟩, rfl, rfl⟩ := h.ex
  have hx := plB_sorted true bs 0
  cases hq : plB true 0 bs with
  | nil => rw [hq] at h1; simp at h1
  | cons k x =>
    rw [hq] at hE hx
    have e1 : selB true (true :: ds) (k :: x) = k :: selB true ds x := by rw [selB, if_pos rfl]
    have e2 : selB false (true :: ds) (k :: x) = selB false ds x := by rw [selB, if_neg (by decide)]
    rw [e1]
    rw [e2] at hE ⊢
    refine ⟨?_, rfl⟩
    have hm : (selB false ds x).getD 0 0 ∈ selB false ds x := getD_mem (by
      cases hz : selB false ds x with
      | nil => exact absurd hz hE
      | cons _ _ => simp)
    exact (List.pairwise_cons.1 hx).1 _ ((sel_sub _ _ _).subset hm)
theorem near_sym (m : Mo) (n : Int) (a b : Ti) : nearT m n a b = nearT m n b a := by
  unfold nearT nearS
  have : dist a.Rating b.Rating = dist b.Rating a.Rating := by unfold dist mxI; (repeat' split) <;> omega
  rw [this]
  apply decide_eq_decide.2
  exact ⟨fun h => ⟨h.2, h.1⟩, fun h => ⟨h.2, h.1⟩⟩
/-- each two of a match fit -/
theorem Match.near {m : Mo} {n : Int} {l : List Ti} {A E : List Nat} {bs : List Bool} (h : Match m n l A E bs) : (A ++ E).Pairwise (fun i k => i ≠ k ∧ nearT m n (l.getD k Ti.zero) (l.getD i Ti.zero) = true) := by
  have h1 := (lgB_iff.1 h.lg).2.1
  have h2 := plB_sorted true bs 0
  have h3 : (plB true 0 bs).Pairwise (fun i k => i ≠ k ∧ nearT m n (l.getD k Ti.zero) (l.getD i Ti.zero) = true) := by
    have := h1.and h2
    exact this.imp fun {a b} q => ⟨by omega, q.1⟩
  exact h.perm.symm.pairwise h3 (fun {a b} q => ⟨fun e => q.1 e.symm, by rw [near_sym]; exact q.2⟩)
theorem col_red (l : List Ti) (x : List Nat) (a : Int) (i : Nat) (R : Ex → List PV → Heap → Prop) : (br (decide ((↑i : Int) < (↑(List.length (List.map pcs x)) : Int))) (InL (List.map pcs x) 1 (↑i : Int) ∧ br (true && fitX [CK.int IntKind.i64] 0 (List.getD (List.map pcs x) (Int.toNat (↑i : Int)) [])) (br (decide (cI (List.getD (List.map pcs x) (Int.toNat (↑i : Int)) []) 0 < 0) == false) (InL (List.map pcs x) 1 (↑i : Int) ∧ br (true && fitX [CK.int IntKind.i64] 0 (List.getD (List.map pcs x) (Int.toNat (↑i : Int)) [])) (br (decide (cI (List.getD (List.map pcs x) (Int.toNat (↑i : Int)) []) 0 ≥ (↑(List.length (List.map Ti.cs l)) : Int)) == false) (br (decide ((↑i : Int) > 0) == true) (InL (List.map pcs x) 1 (wI ((↑i : Int) - 1)) ∧ br (true && fitX [CK.int IntKind.i64] 0 (List.getD (List.map pcs x) (Int.toNat (wI ((↑i : Int) - 1))) [])) (InL (List.map pcs x) 1 (↑i : Int) ∧ br (true && fitX [CK.int IntKind.i64] 0 (List.getD (List.map pcs x) (Int.toNat (↑i : Int)) [])) (br (decide (cI (List.getD (List.map pcs x) (Int.toNat (wI ((↑i : Int) - 1))) []) 0 ≥ cI (List.getD (List.map pcs x) (Int.toNat (↑i : Int)) []) 0)) (R Ex.ret [PV.list (List.map Ti.cs l) Tail.no, PV.list (List.map pcs x) Tail.no, PV.int IntKind.i64 0, PV.bool false, PV.int IntKind.i64 a, PV.int IntKind.i64 (↑i : Int)] []) (InL (List.map pcs x) 1 (↑i : Int) ∧ br (true && fitX [CK.int IntKind.i64] 0 (List.getD (List.map pcs x) (Int.toNat (↑i : Int)) [])) (InL (List.map Ti.cs l) 5 (cI (List.getD (List.map pcs x) (Int.toNat (↑i : Int)) []) 0) ∧ br (true && fitX [CK.list] 0 (List.drop 2 (List.getD (List.map Ti.cs l) (Int.toNat (cI (List.getD (List.map pcs x) (Int.toNat (↑i : Int)) []) 0)) []))) (R Ex.normal [PV.list (List.map Ti.cs l) Tail.no, PV.list (List.map pcs x) Tail.no, PV.int IntKind.i64 0, PV.bool false, PV.int IntKind.i64 (wI (a + (↑(List.length (cL (List.drop 2 (List.getD (List.map Ti.cs l) (Int.toNat (cI (List.getD (List.map pcs x) (Int.toNat (↑i : Int)) []) 0)) [])) 0)) : Int))), PV.int IntKind.i64 (wI ((↑i : Int) + 1))] []) False) False)) False) False) (InL (List.map pcs x) 1 (↑i : Int) ∧ br (true && fitX [CK.int IntKind.i64] 0 (List.getD (List.map pcs x) (Int.toNat (↑i : Int)) [])) (InL (List.map Ti.cs l) 5 (cI (List.getD (List.map pcs x) (Int.toNat (↑i : Int)) []) 0) ∧ br (true && fitX [CK.list] 0 (List.drop 2 (List.getD (List.map Ti.cs l) (Int.toNat (cI (List.getD (List.map pcs x) (Int.toNat (↑i : Int)) []) 0)) []))) (R Ex.normal [PV.list (List.map Ti.cs l) Tail.no, PV.list (List.map pcs x) Tail.no, PV.int IntKind.i64 0, PV.bool false, PV.int IntKind.i64 (wI (a + (↑(List.length (cL (List.drop 2 (List.getD (List.map Ti.cs l) (Int.toNat (cI (List.getD (List.map pcs x) (Int.toNat (↑i : Int)) []) 0)) [])) 0)) : Int))), PV.int IntKind.i64 (wI ((↑i : Int) + 1))] []) False) False)) (R Ex.ret [PV.list (List.map Ti.cs l) Tail.no, PV.list (List.map pcs x) Tail.no, PV.int IntKind.i64 0, PV.bool false, PV.int IntKind.i64 a, PV.int IntKind.i64 (↑i : Int)] [])) False) (R Ex.ret [PV.list (List.map Ti.cs l) Tail.no, PV.list (List.map pcs x) Tail.no, PV.int IntKind.i64 0, PV.bool false, PV.int IntKind.i64 a, PV.int IntKind.i64 (↑i : Int)] [])) False) (R (Ex.exit 0) [PV.list (List.map Ti.cs l) Tail.no, PV.list (List.map pcs x) Tail.no, PV.int IntKind.i64 0, PV.bool false, PV.int IntKind.i64 a, PV.int IntKind.i64 (↑i : Int)] [])) = wpc br Try.prog gl TV [] (fun _ => 0) (subOf [1, 1, 0, 1, 0] (bodyOf Try.f18)) [] (envS [0, 1, 4, 5, 6, 7] [.list (l.map Ti.cs) .no, .list (x.map pcs) .no, .int .i64 0, .bool false, .int .i64 a, .int .i64 i]) [] (fun ex e H => R ex (List.map e [0, 1, 4, 5, 6, 7]) H) := by kernel_rfl
theorem col_vc (l : List Ti) (x : List Nat) (a : Int) (i : Nat) (R : Ex → List PV → Heap → Prop) (h : br (decide ((↑i : Int) < (↑(List.length (List.map pcs x)) : Int))) (InL (List.map pcs x) 1 (↑i : Int) ∧ br (true && fitX [CK.int IntKind.i64] 0 (List.getD (List.map pcs x) (Int.toNat (↑i : Int)) [])) (br (decide (cI (List.getD (List.map pcs x) (Int.toNat (↑i : Int)) []) 0 < 0) == false) (InL (List.map pcs x) 1 (↑i : Int) ∧ br (true && fitX [CK.int IntKind.i64] 0 (List.getD (List.map pcs x) (Int.toNat (↑i : Int)) [])) (br (decide (cI (List.getD (List.map pcs x) (Int.toNat (↑i : Int)) []) 0 ≥ (↑(List.length (List.map Ti.cs l)) : Int)) == false) (br (decide ((↑i : Int) > 0) == true) (InL (List.map pcs x) 1 (wI ((↑i : Int) - 1)) ∧ br (true && fitX [CK.int IntKind.i64] 0 (List.getD (List.map pcs x) (Int.toNat (wI ((↑i : Int) - 1))) [])) (InL (List.map pcs x) 1 (↑i : Int) ∧ br (true && fitX [CK.int IntKind.i64] 0 (List.getD (List.map pcs x) (Int.toNat (↑i : Int)) [])) (br (decide (cI (List.getD (List.map pcs x) (Int.toNat (wI ((↑i : Int) - 1))) []) 0 ≥ cI (List.getD (List.map pcs x) (Int.toNat (↑i : Int)) []) 0)) (R Ex.ret [PV.list (List.map Ti.cs l) Tail.no, PV.list (List.map pcs x) Tail.no, PV.int IntKind.i64 0, PV.bool false, PV.int IntKind.i64 a, PV.int IntKind.i64 (↑i : Int)] []) (InL (List.map pcs x) 1 (↑i : Int) ∧ br (true && fitX [CK.int IntKind.i64] 0 (List.getD (List.map pcs x) (Int.toNat (↑i : Int)) [])) (InL (List.map Ti.cs l) 5 (cI (List.getD (List.map pcs x) (Int.toNat (↑i : Int)) []) 0) ∧ br (true && fitX [CK.list] 0 (List.drop 2 (List.getD (List.map Ti.cs l) (Int.toNat (cI (List.getD (List.map pcs x) (Int.toNat (↑i : Int)) []) 0)) []))) (R Ex.normal [PV.list (List.map Ti.cs l) Tail.no, PV.list (List.map pcs x) Tail.no, PV.int IntKind.i64 0, PV.bool false, PV.int IntKind.i64 (wI (a + (↑(List.length (cL (List.drop 2 (List.getD (List.map Ti.cs l) (Int.toNat (cI (List.getD (List.map pcs x) (Int.toNat (↑i : Int)) []) 0)) [])) 0)) : Int))), PV.int IntKind.i64 (wI ((↑i : Int) + 1))] []) False) False)) False) False) (InL (List.map pcs x) 1 (↑i : Int) ∧ br (true && fitX [CK.int IntKind.i64] 0 (List.getD (List.map pcs x) (Int.toNat (↑i : Int)) [])) (InL (List.map Ti.cs l) 5 (cI (List.getD (List.map pcs x) (Int.toNat (↑i : Int)) []) 0) ∧ br (true && fitX [CK.list] 0 (List.drop 2 (List.getD (List.map Ti.cs l) (Int.toNat (cI (List.getD (List.map pcs x) (Int.toNat (↑i : Int)) []) 0)) []))) (R Ex.normal [PV.list (List.map Ti.cs l) Tail.no, PV.list (List.map pcs x) Tail.no, PV.int IntKind.i64 0, PV.bool false, PV.int IntKind.i64 (wI (a + (↑(List.length (cL (List.drop 2 (List.getD (List.map Ti.cs l) (Int.toNat (cI (List.getD (List.map pcs x) (Int.toNat (↑i : Int)) []) 0)) [])) 0)) : Int))), PV.int IntKind.i64 (wI ((↑i : Int) + 1))] []) False) False)) (R Ex.ret [PV.list (List.map Ti.cs l) Tail.no, PV.list (List.map pcs x) Tail.no, PV.int IntKind.i64 0, PV.bool false, PV.int IntKind.i64 a, PV.int IntKind.i64 (↑i : Int)] [])) False) (R Ex.ret [PV.list (List.map Ti.cs l) Tail.no, PV.list (List.map pcs x) Tail.no, PV.int IntKind.i64 0, PV.bool false, PV.int IntKind.i64 a, PV.int IntKind.i64 (↑i : Int)] [])) False) (R (Ex.exit 0) [PV.list (List.map Ti.cs l) Tail.no, PV.list (List.map pcs x) Tail.no, PV.int IntKind.i64 0, PV.bool false, PV.int IntKind.i64 a, PV.int IntKind.i64 (↑i : Int)] [])) : Holds (wpc br Try.prog gl TV [] (fun _ => 0) (subOf [1, 1, 0, 1, 0] (bodyOf Try.f18)) [] (envS [0, 1, 4, 5, 6, 7] [.list (l.map Ti.cs) .no, .list (x.map pcs) .no, .int .i64 0, .bool false, .int .i64 a, .int .i64 i]) [] (fun ex e H => R ex (List.map e [0, 1, 4, 5, 6, 7]) H)) := holds_of_eq (col_red l x a i R) h
theorem lg0_red (m : Mo) (n : Int) (l : List Ti) (X Y : List Nat) (R : List PV → Heap → Prop) : (AppL [] (List.map pcs X) 1 8 ∧ (List.all (List.flatten (List.map pcs X)) PV.one = true ∧ List.map pcs X ≠ []) ∧ AppL ([] ++ List.map pcs X) (List.map pcs Y) 1 8 ∧ (List.all (List.flatten (List.map pcs Y)) PV.one = true ∧ List.map pcs Y ≠ []) ∧ R [PV.int IntKind.i64 n, PV.list (List.map Ti.cs l) Tail.no, PV.ptr 0 0, PV.bool false, PV.ptr 1 0, PV.list ([] ++ List.map pcs X ++ List.map pcs Y) (Tail.tok 3)] [Ob.cells [PV.int IntKind.i64 (Mo.K m), PV.int IntKind.i64 (Mo.Base m), PV.int IntKind.i64 (Mo.Step m), PV.int IntKind.i64 (Mo.Cap m), PV.int IntKind.i64 (Mo.Every m)], Ob.cells [PV.list (List.map pcs X) Tail.no, PV.list (List.map pcs Y) Tail.no], Ob.dead, Ob.tok]) = regc br Try.prog gl TV (fun o => match o.dst with | some 85 => 1 | some 88 => 1 | _ => 0) true (opsOf (atOf [1, 1, 1, 1, 1, 1, 1, 1, 0] (bodyOf Try.f5))) (inOrder (opsOf (atOf [1, 1, 1, 1, 1, 1, 1, 1, 0] (bodyOf Try.f5))) [0, 1, 2, 4, 5, 3, 6, 7]) (envS [1, 2, 3, 6, 8] [.int .i64 n, .list (l.map Ti.cs) .no, .ptr 0 0, .bool false, .ptr 1 0]) [.cells m.cs, .cells (sp2 X Y)] (fun e H => R (List.map e [1, 2, 3, 6, 8, 14]) H) := by kernel_rfl
theorem lg0_vc (m : Mo) (n : Int) (l : List Ti) (X Y : List Nat) (R : List PV → Heap → Prop) (h : AppL [] (List.map pcs X) 1 8 ∧ (List.all (List.flatten (List.map pcs X)) PV.one = true ∧ List.map pcs X ≠ []) ∧ AppL ([] ++ List.map pcs X) (List.map pcs Y) 1 8 ∧ (List.all (List.flatten (List.map pcs Y)) PV.one = true ∧ List.map pcs Y ≠ []) ∧ R [PV.int IntKind.i64 n, PV.list (List.map Ti.cs l) Tail.no, PV.ptr 0 0, PV.bool false, PV.ptr 1 0, PV.list ([] ++ List.map pcs X ++ List.map pcs Y) (Tail.tok 3)] [Ob.cells [PV.int IntKind.i64 (Mo.K m), PV.int IntKind.i64 (Mo.Base m), PV.int IntKind.i64 (Mo.Step m), PV.int IntKind.i64 (Mo.Cap m), PV.int IntKind.i64 (Mo.Every m)], Ob.cells [PV.list (List.map pcs X) Tail.no, PV.list (List.map pcs Y) Tail.no], Ob.dead, Ob.tok]) : Holds (regc br Try.prog gl TV (fun o => match o.dst with | some 85 => 1 | some 88 => 1 | _ => 0) true (opsOf (atOf [1, 1, 1, 1, 1, 1, 1, 1, 0] (bodyOf Try.f5))) (inOrder (opsOf (atOf [1, 1, 1, 1, 1, 1, 1, 1, 0] (bodyOf Try.f5))) [0, 1, 2, 4, 5, 3, 6, 7]) (envS [1, 2, 3, 6, 8] [.int .i64 n, .list (l.map Ti.cs) .no, .ptr 0 0, .bool false, .ptr 1 0]) [.cells m.cs, .cells (sp2 X Y)] (fun e H => R (List.map e [1, 2, 3, 6, 8, 14]) H)) := holds_of_eq (lg0_red m n l X Y R) h
theorem lq0_red (m : Mo) (n : Int) (l : List Ti) (X Y : List Nat) (z : List Nat) (i j : Nat) (R : List PV → Heap → Prop) : (InL (List.map pcs z) 1 (↑i : Int) ∧ br (true && fitX [CK.int IntKind.i64] 0 (List.getD (List.map pcs z) (Int.toNat (↑i : Int)) [])) (InL (List.map Ti.cs l) 5 (cI (List.getD (List.map pcs z) (Int.toNat (↑i : Int)) []) 0) ∧ br (true && fitX [CK.int IntKind.u32, CK.int IntKind.i64, CK.list, CK.int IntKind.i64, CK.int IntKind.i64] 0 (List.getD (List.map Ti.cs l) (Int.toNat (cI (List.getD (List.map pcs z) (Int.toNat (↑i : Int)) []) 0)) [])) (InL (List.map pcs z) 1 (↑j : Int) ∧ br (true && fitX [CK.int IntKind.i64] 0 (List.getD (List.map pcs z) (Int.toNat (↑j : Int)) [])) (InL (List.map Ti.cs l) 5 (cI (List.getD (List.map pcs z) (Int.toNat (↑j : Int)) []) 0) ∧ br (true && fitX [CK.int IntKind.u32, CK.int IntKind.i64, CK.list, CK.int IntKind.i64, CK.int IntKind.i64] 0 (List.getD (List.map Ti.cs l) (Int.toNat (cI (List.getD (List.map pcs z) (Int.toNat (↑j : Int)) []) 0)) [])) (R [PV.int IntKind.i64 n, PV.list (List.map Ti.cs l) Tail.no, PV.ptr 0 0, PV.bool false, PV.ptr 1 0, PV.list (List.map pcs z) Tail.no, PV.int IntKind.i64 (↑i : Int), PV.int IntKind.i64 (↑j : Int), PV.ptr 4 0, PV.ptr 5 0] [Ob.cells [PV.int IntKind.i64 (Mo.K m), PV.int IntKind.i64 (Mo.Base m), PV.int IntKind.i64 (Mo.Step m), PV.int IntKind.i64 (Mo.Cap m), PV.int IntKind.i64 (Mo.Every m)], Ob.cells [PV.list (List.map pcs X) Tail.no, PV.list (List.map pcs Y) Tail.no], Ob.dead, Ob.tok, Ob.cells [PV.int IntKind.u32 (cI (List.getD (List.map Ti.cs l) (Int.toNat (cI (List.getD (List.map pcs z) (Int.toNat (↑i : Int)) []) 0)) []) 0), PV.int IntKind.i64 (cI (List.getD (List.map Ti.cs l) (Int.toNat (cI (List.getD (List.map pcs z) (Int.toNat (↑i : Int)) []) 0)) []) 1), PV.list (cL (List.getD (List.map Ti.cs l) (Int.toNat (cI (List.getD (List.map pcs z) (Int.toNat (↑i : Int)) []) 0)) []) 2) (cT (List.getD (List.map Ti.cs l) (Int.toNat (cI (List.getD (List.map pcs z) (Int.toNat (↑i : Int)) []) 0)) []) 2), PV.int IntKind.i64 (cI (List.getD (List.map Ti.cs l) (Int.toNat (cI (List.getD (List.map pcs z) (Int.toNat (↑i : Int)) []) 0)) []) 3), PV.int IntKind.i64 (cI (List.getD (List.map Ti.cs l) (Int.toNat (cI (List.getD (List.map pcs z) (Int.toNat (↑i : Int)) []) 0)) []) 4)], Ob.cells [PV.int IntKind.u32 (cI (List.getD (List.map Ti.cs l) (Int.toNat (cI (List.getD (List.map pcs z) (Int.toNat (↑j : Int)) []) 0)) []) 0), PV.int IntKind.i64 (cI (List.getD (List.map Ti.cs l) (Int.toNat (cI (List.getD (List.map pcs z) (Int.toNat (↑j : Int)) []) 0)) []) 1), PV.list (cL (List.getD (List.map Ti.cs l) (Int.toNat (cI (List.getD (List.map pcs z) (Int.toNat (↑j : Int)) []) 0)) []) 2) (cT (List.getD (List.map Ti.cs l) (Int.toNat (cI (List.getD (List.map pcs z) (Int.toNat (↑j : Int)) []) 0)) []) 2), PV.int IntKind.i64 (cI (List.getD (List.map Ti.cs l) (Int.toNat (cI (List.getD (List.map pcs z) (Int.toNat (↑j : Int)) []) 0)) []) 3), PV.int IntKind.i64 (cI (List.getD (List.map Ti.cs l) (Int.toNat (cI (List.getD (List.map pcs z) (Int.toNat (↑j : Int)) []) 0)) []) 4)]]) False) False) False) False) = regc br Try.prog gl TV (fun o => match o.dst with | some 104 => 900 | some 106 => 900 | some 111 => 900 | some 113 => 900 | _ => 0) true (opsOf (atOf [1, 1, 1, 1, 1, 1, 1, 1, 1, 0, 1, 0, 0, 1, 0, 0, 1, 0, 0, 1, 0, 0, 0] (bodyOf Try.f5))) (inOrder (opsOf (atOf [1, 1, 1, 1, 1, 1, 1, 1, 1, 0, 1, 0, 0, 1, 0, 0, 1, 0, 0, 1, 0, 0, 0] (bodyOf Try.f5))) [0, 1, 2, 3, 4, 5, 6, 7, 8, 9, 10, 11, 12, 13, 14, 15, 16, 17]) (envS [1, 2, 3, 6, 8, 14, 15, 16] [.int .i64 n, .list (l.map Ti.cs) .no, .ptr 0 0, .bool false, .ptr 1 0, .list (z.map pcs) .no, .int .i64 i, .int .i64 j]) [.cells m.cs, .cells (sp2 X Y), .dead, .tok] (fun e H => R (List.map e [1, 2, 3, 6, 8, 14, 15, 16, 17, 18]) H) := by kernel_rfl
theorem lq0_vc (m : Mo) (n : Int) (l : List Ti) (X Y : List Nat) (z : List Nat) (i j : Nat) (R : List PV → Heap → Prop) (h : InL (List.map pcs z) 1 (↑i : Int) ∧ br (true && fitX [CK.int IntKind.i64] 0 (List.getD (List.map pcs z) (Int.toNat (↑i : Int)) [])) (InL (List.map Ti.cs l) 5 (cI (List.getD (List.map pcs z) (Int.toNat (↑i : Int)) []) 0) ∧ br (true && fitX [CK.int IntKind.u32, CK.int IntKind.i64, CK.list, CK.int IntKind.i64, CK.int IntKind.i64] 0 (List.getD (List.map Ti.cs l) (Int.toNat (cI (List.getD (List.map pcs z) (Int.toNat (↑i : Int)) []) 0)) [])) (InL (List.map pcs z) 1 (↑j : Int) ∧ br (true && fitX [CK.int IntKind.i64] 0 (List.getD (List.map pcs z) (Int.toNat (↑j : Int)) [])) (InL (List.map Ti.cs l) 5 (cI (List.getD (List.map pcs z) (Int.toNat (↑j : Int)) []) 0) ∧ br (true && fitX [CK.int IntKind.u32, CK.int IntKind.i64, CK.list, CK.int IntKind.i64, CK.int IntKind.i64] 0 (List.getD (List.map Ti.cs l) (Int.toNat (cI (List.getD (List.map pcs z) (Int.toNat (↑j : Int)) []) 0)) [])) (R [PV.int IntKind.i64 n, PV.list (List.map Ti.cs l) Tail.no, PV.ptr 0 0, PV.bool false, PV.ptr 1 0, PV.list (List.map pcs z) Tail.no, PV.int IntKind.i64 (↑i : Int), PV.int IntKind.i64 (↑j : Int), PV.ptr 4 0, PV.ptr 5 0] [Ob.cells [PV.int IntKind.i64 (Mo.K m), PV.int IntKind.i64 (Mo.Base m), PV.int IntKind.i64 (Mo.Step m), PV.int IntKind.i64 (Mo.Cap m), PV.int IntKind.i64 (Mo.Every m)], Ob.cells [PV.list (List.map pcs X) Tail.no, PV.list (List.map pcs Y) Tail.no], Ob.dead, Ob.tok, Ob.cells [PV.int IntKind.u32 (cI (List.getD (List.map Ti.cs l) (Int.toNat (cI (List.getD (List.map pcs z) (Int.toNat (↑i : Int)) []) 0)) []) 0), PV.int IntKind.i64 (cI (List.getD (List.map Ti.cs l) (Int.toNat (cI (List.getD (List.map pcs z) (Int.toNat (↑i : Int)) []) 0)) []) 1), PV.list (cL (List.getD (List.map Ti.cs l) (Int.toNat (cI (List.getD (List.map pcs z) (Int.toNat (↑i : Int)) []) 0)) []) 2) (cT (List.getD (List.map Ti.cs l) (Int.toNat (cI (List.getD (List.map pcs z) (Int.toNat (↑i : Int)) []) 0)) []) 2), PV.int IntKind.i64 (cI (List.getD (List.map Ti.cs l) (Int.toNat (cI (List.getD (List.map pcs z) (Int.toNat (↑i : Int)) []) 0)) []) 3), PV.int IntKind.i64 (cI (List.getD (List.map Ti.cs l) (Int.toNat (cI (List.getD (List.map pcs z) (Int.toNat (↑i : Int)) []) 0)) []) 4)], Ob.cells [PV.int IntKind.u32 (cI (List.getD (List.map Ti.cs l) (Int.toNat (cI (List.getD (List.map pcs z) (Int.toNat (↑j : Int)) []) 0)) []) 0), PV.int IntKind.i64 (cI (List.getD (List.map Ti.cs l) (Int.toNat (cI (List.getD (List.map pcs z) (Int.toNat (↑j : Int)) []) 0)) []) 1), PV.list (cL (List.getD (List.map Ti.cs l) (Int.toNat (cI (List.getD (List.map pcs z) (Int.toNat (↑j : Int)) []) 0)) []) 2) (cT (List.getD (List.map Ti.cs l) (Int.toNat (cI (List.getD (List.map pcs z) (Int.toNat (↑j : Int)) []) 0)) []) 2), PV.int IntKind.i64 (cI (List.getD (List.map Ti.cs l) (Int.toNat (cI (List.getD (List.map pcs z) (Int.toNat (↑j : Int)) []) 0)) []) 3), PV.int IntKind.i64 (cI (List.getD (List.map Ti.cs l) (Int.toNat (cI (List.getD (List.map pcs z) (Int.toNat (↑j : Int)) []) 0)) []) 4)]]) False) False) False) False) : Holds (regc br Try.prog gl TV (fun o => match o.dst with | some 104 => 900 | some 106 => 900 | some 111 => 900 | some 113 => 900 | _ => 0) true (opsOf (atOf [1, 1, 1, 1, 1, 1, 1, 1, 1, 0, 1, 0, 0, 1, 0, 0, 1, 0, 0, 1, 0, 0, 0] (bodyOf Try.f5))) (inOrder (opsOf (atOf [1, 1, 1, 1, 1, 1, 1, 1, 1, 0, 1, 0, 0, 1, 0, 0, 1, 0, 0, 1, 0, 0, 0] (bodyOf Try.f5))) [0, 1, 2, 3, 4, 5, 6, 7, 8, 9, 10, 11, 12, 13, 14, 15, 16, 17]) (envS [1, 2, 3, 6, 8, 14, 15, 16] [.int .i64 n, .list (l.map Ti.cs) .no, .ptr 0 0, .bool false, .ptr 1 0, .list (z.map pcs) .no, .int .i64 i, .int .i64 j]) [.cells m.cs, .cells (sp2 X Y), .dead, .tok] (fun e H => R (List.map e [1, 2, 3, 6, 8, 14, 15, 16, 17, 18]) H)) := holds_of_eq (lq0_red m n l X Y z i j R) h
theorem lq1_red (m : Mo) (n : Int) (l : List Ti) (X Y : List Nat) (z : List Nat) (i j : Nat) (R : List PV → Heap → Prop) : (InL (List.map pcs z) 1 (↑i : Int) ∧ br (true && fitX [CK.int IntKind.i64] 0 (List.getD (List.map pcs z) (Int.toNat (↑i : Int)) [])) (InL (List.map Ti.cs l) 5 (cI (List.getD (List.map pcs z) (Int.toNat (↑i : Int)) []) 0) ∧ br (true && fitX [CK.int IntKind.u32, CK.int IntKind.i64, CK.list, CK.int IntKind.i64, CK.int IntKind.i64] 0 (List.getD (List.map Ti.cs l) (Int.toNat (cI (List.getD (List.map pcs z) (Int.toNat (↑i : Int)) []) 0)) [])) (InL (List.map pcs z) 1 (↑j : Int) ∧ br (true && fitX [CK.int IntKind.i64] 0 (List.getD (List.map pcs z) (Int.toNat (↑j : Int)) [])) (InL (List.map Ti.cs l) 5 (cI (List.getD (List.map pcs z) (Int.toNat (↑j : Int)) []) 0) ∧ br (true && fitX [CK.int IntKind.u32, CK.int IntKind.i64, CK.list, CK.int IntKind.i64, CK.int IntKind.i64] 0 (List.getD (List.map Ti.cs l) (Int.toNat (cI (List.getD (List.map pcs z) (Int.toNat (↑j : Int)) []) 0)) [])) (R [PV.int IntKind.i64 n, PV.list (List.map Ti.cs l) Tail.no, PV.ptr 0 0, PV.bool false, PV.ptr 1 0, PV.list (List.map pcs z) Tail.no, PV.int IntKind.i64 (↑i : Int), PV.int IntKind.i64 (↑j : Int), PV.ptr 5 0, PV.ptr 4 0] [Ob.cells [PV.int IntKind.i64 (Mo.K m), PV.int IntKind.i64 (Mo.Base m), PV.int IntKind.i64 (Mo.Step m), PV.int IntKind.i64 (Mo.Cap m), PV.int IntKind.i64 (Mo.Every m)], Ob.cells [PV.list (List.map pcs X) Tail.no, PV.list (List.map pcs Y) Tail.no], Ob.dead, Ob.tok, Ob.cells [PV.int IntKind.u32 (cI (List.getD (List.map Ti.cs l) (Int.toNat (cI (List.getD (List.map pcs z) (Int.toNat (↑j : Int)) []) 0)) []) 0), PV.int IntKind.i64 (cI (List.getD (List.map Ti.cs l) (Int.toNat (cI (List.getD (List.map pcs z) (Int.toNat (↑j : Int)) []) 0)) []) 1), PV.list (cL (List.getD (List.map Ti.cs l) (Int.toNat (cI (List.getD (List.map pcs z) (Int.toNat (↑j : Int)) []) 0)) []) 2) (cT (List.getD (List.map Ti.cs l) (Int.toNat (cI (List.getD (List.map pcs z) (Int.toNat (↑j : Int)) []) 0)) []) 2), PV.int IntKind.i64 (cI (List.getD (List.map Ti.cs l) (Int.toNat (cI (List.getD (List.map pcs z) (Int.toNat (↑j : Int)) []) 0)) []) 3), PV.int IntKind.i64 (cI (List.getD (List.map Ti.cs l) (Int.toNat (cI (List.getD (List.map pcs z) (Int.toNat (↑j : Int)) []) 0)) []) 4)], Ob.cells [PV.int IntKind.u32 (cI (List.getD (List.map Ti.cs l) (Int.toNat (cI (List.getD (List.map pcs z) (Int.toNat (↑i : Int)) []) 0)) []) 0), PV.int IntKind.i64 (cI (List.getD (List.map Ti.cs l) (Int.toNat (cI (List.getD (List.map pcs z) (Int.toNat (↑i : Int)) []) 0)) []) 1), PV.list (cL (List.getD (List.map Ti.cs l) (Int.toNat (cI (List.getD (List.map pcs z) (Int.toNat (↑i : Int)) []) 0)) []) 2) (cT (List.getD (List.map Ti.cs l) (Int.toNat (cI (List.getD (List.map pcs z) (Int.toNat (↑i : Int)) []) 0)) []) 2), PV.int IntKind.i64 (cI (List.getD (List.map Ti.cs l) (Int.toNat (cI (List.getD (List.map pcs z) (Int.toNat (↑i : Int)) []) 0)) []) 3), PV.int IntKind.i64 (cI (List.getD (List.map Ti.cs l) (Int.toNat (cI (List.getD (List.map pcs z) (Int.toNat (↑i : Int)) []) 0)) []) 4)]]) False) False) False) False) = regc br Try.prog gl TV (fun o => match o.dst with | some 104 => 900 | some 106 => 900 | some 111 => 900 | some 113 => 900 | _ => 0) true (opsOf (atOf [1, 1, 1, 1, 1, 1, 1, 1, 1, 0, 1, 0, 0, 1, 0, 0, 1, 0, 0, 1, 0, 0, 0] (bodyOf Try.f5))) (inOrder (opsOf (atOf [1, 1, 1, 1, 1, 1, 1, 1, 1, 0, 1, 0, 0, 1, 0, 0, 1, 0, 0, 1, 0, 0, 0] (bodyOf Try.f5))) [0, 1, 2, 3, 4, 5, 6, 7, 8, 9, 10, 11, 12, 13, 15, 14, 16, 17]) (envS [1, 2, 3, 6, 8, 14, 15, 16] [.int .i64 n, .list (l.map Ti.cs) .no, .ptr 0 0, .bool false, .ptr 1 0, .list (z.map pcs) .no, .int .i64 i, .int .i64 j]) [.cells m.cs, .cells (sp2 X Y), .dead, .tok] (fun e H => R (List.map e [1, 2, 3, 6, 8, 14, 15, 16, 17, 18]) H) := by kernel_rfl
theorem lq1_vc (m : Mo) (n : Int) (l : List Ti) (X Y : List Nat) (z : List Nat) (i j : Nat) (R : List PV → Heap → Prop) (h : InL (List.map pcs z) 1 (↑i : Int) ∧ br (true && fitX [CK.int IntKind.i64] 0 (List.getD (List.map pcs z) (Int.toNat (↑i : Int)) [])) (InL (List.map Ti.cs l) 5 (cI (List.getD (List.map pcs z) (Int.toNat (↑i : Int)) []) 0) ∧ br (true && fitX [CK.int IntKind.u32, CK.int IntKind.i64, CK.list, CK.int IntKind.i64, CK.int IntKind.i64] 0 (List.getD (List.map Ti.cs l) (Int.toNat (cI (List.getD (List.map pcs z) (Int.toNat (↑i : Int)) []) 0)) [])) (InL (List.map pcs z) 1 (↑j : Int) ∧ br (true && fitX [CK.int IntKind.i64] 0 (List.getD (List.map pcs z) (Int.toNat (↑j : Int)) [])) (InL (List.map Ti.cs l) 5 (cI (List.getD (List.map pcs z) (Int.toNat (↑j : Int)) []) 0) ∧ br (true && fitX [CK.int IntKind.u32, CK.int IntKind.i64, CK.list, CK.int IntKind.i64, CK.int IntKind.i64] 0 (List.getD (List.map Ti.cs l) (Int.toNat (cI (List.getD (List.map pcs z) (Int.toNat (↑j : Int)) []) 0)) [])) (R [PV.int IntKind.i64 n, PV.list (List.map Ti.cs l) Tail.no, PV.ptr 0 0, PV.bool false, PV.ptr 1 0, PV.list (List.map pcs z) Tail.no, PV.int IntKind.i64 (↑i : Int), PV.int IntKind.i64 (↑j : Int), PV.ptr 5 0, PV.ptr 4 0] [Ob.cells [PV.int IntKind.i64 (Mo.K m), PV.int IntKind.i64 (Mo.Base m), PV.int IntKind.i64 (Mo.Step m), PV.int IntKind.i64 (Mo.Cap m), PV.int IntKind.i64 (Mo.Every m)], Ob.cells [PV.list (List.map pcs X) Tail.no, PV.list (List.map pcs Y) Tail.no], Ob.dead, Ob.tok, Ob.cells [PV.int IntKind.u32 (cI (List.getD (List.map Ti.cs l) (Int.toNat (cI (List.getD (List.map pcs z) (Int.toNat (↑j : Int)) []) 0)) []) 0), PV.int IntKind.i64 (cI (List.getD (List.map Ti.cs l) (Int.toNat (cI (List.getD (List.map pcs z) (Int.toNat (↑j : Int)) []) 0)) []) 1), PV.list (cL (List.getD (List.map Ti.cs l) (Int.toNat (cI (List.getD (List.map pcs z) (Int.toNat (↑j : Int)) []) 0)) []) 2) (cT (List.getD (List.map Ti.cs l) (Int.toNat (cI (List.getD (List.map pcs z) (Int.toNat (↑j : Int)) []) 0)) []) 2), PV.int IntKind.i64 (cI (List.getD (List.map Ti.cs l) (Int.toNat (cI (List.getD (List.map pcs z) (Int.toNat (↑j : Int)) []) 0)) []) 3), PV.int IntKind.i64 (cI (List.getD (List.map Ti.cs l) (Int.toNat (cI (List.getD (List.map pcs z) (Int.toNat (↑j : Int)) []) 0)) []) 4)], Ob.cells [PV.int IntKind.u32 (cI (List.getD (List.map Ti.cs l) (Int.toNat (cI (List.getD (List.map pcs z) (Int.toNat (↑i : Int)) []) 0)) []) 0), PV.int IntKind.i64 (cI (List.getD (List.map Ti.cs l) (Int.toNat (cI (List.getD (List.map pcs z) (Int.toNat (↑i : Int)) []) 0)) []) 1), PV.list (cL (List.getD (List.map Ti.cs l) (Int.toNat (cI (List.getD (List.map pcs z) (Int.toNat (↑i : Int)) []) 0)) []) 2) (cT (List.getD (List.map Ti.cs l) (Int.toNat (cI (List.getD (List.map pcs z) (Int.toNat (↑i : Int)) []) 0)) []) 2), PV.int IntKind.i64 (cI (List.getD (List.map Ti.cs l) (Int.toNat (cI (List.getD (List.map pcs z) (Int.toNat (↑i : Int)) []) 0)) []) 3), PV.int IntKind.i64 (cI (List.getD (List.map Ti.cs l) (Int.toNat (cI (List.getD (List.map pcs z) (Int.toNat (↑i : Int)) []) 0)) []) 4)]]) False) False) False) False) : Holds (regc br Try.prog gl TV (fun o => match o.dst with | some 104 => 900 | some 106 => 900 | some 111 => 900 | some 113 => 900 | _ => 0) true (opsOf (atOf [1, 1, 1, 1, 1, 1, 1, 1, 1, 0, 1, 0, 0, 1, 0, 0, 1, 0, 0, 1, 0, 0, 0] (bodyOf Try.f5))) (inOrder (opsOf (atOf [1, 1, 1, 1, 1, 1, 1, 1, 1, 0, 1, 0, 0, 1, 0, 0, 1, 0, 0, 1, 0, 0, 0] (bodyOf Try.f5))) [0, 1, 2, 3, 4, 5, 6, 7, 8, 9, 10, 11, 12, 13, 15, 14, 16, 17]) (envS [1, 2, 3, 6, 8, 14, 15, 16] [.int .i64 n, .list (l.map Ti.cs) .no, .ptr 0 0, .bool false, .ptr 1 0, .list (z.map pcs) .no, .int .i64 i, .int .i64 j]) [.cells m.cs, .cells (sp2 X Y), .dead, .tok] (fun e H => R (List.map e [1, 2, 3, 6, 8, 14, 15, 16, 17, 18]) H)) := holds_of_eq (lq1_red m n l X Y z i j R) h
def co_l : LSp := fun e H Q => ∃ (l : List Ti) (x : List Nat), LsOk l ∧ Places l x ∧ x.length ≤ 100 ∧ SlIs (List.map e [0, 1, 4, 5, 6, 7]) [.list (l.map Ti.cs) .no, .list (x.map pcs) .no, .int .i64 0, .bool false, .int .i64 0, .int .i64 0] ∧ HpIs H [] ∧
  Q (.exit 0) (envS [0, 1, 4, 5, 6, 7] [.list (l.map Ti.cs) .no, .list (x.map pcs) .no, .int .i64 0, .bool false, .int .i64 (sumP (pnL l) x), .int .i64 x.length]) []
theorem co_l_ok : ∀ e H Q, co_l e H Q → AW Try.prog gl Try.f18.ntmps (.loop (subOf [1, 1, 0, 1, 0] (bodyOf Try.f18))) Q e H := by
  rintro e H Q ⟨l, x, hl, hp, hlen, he, hH, hQ⟩
  refine aw_loop4 (hn := fun _ => 0) gl_low TV_ok (.nil _ _ _ _ _) (σ := Nat) [0, 1, 4, 5, 6, 7] (fun i => i ≤ x.length)
    (fun i => [.list (l.map Ti.cs) .no, .list (x.map pcs) .no, .int .i64 0, .bool false, .int .i64 (sumP (pnL l) (x.take i)), .int .i64 i]) (fun _ => []) (fun i => x.length - i) 0 (Nat.zero_le _) he hH ?_
  intro i h1
  refine col_vc l x _ i _ ?_
  simp only [br_if, dt, df, bt, bf, List.length_map, inL_p, toNat_nat]
  by_cases h : i < x.length
  · rw [if_pos (by omega)]
    have hq := hp.lt _ (getD_mem (d := 0) h)
    simp only [getD_map 0 h, pcs_f, pcs_c, inL_ti, toNat_nat, getD_map Ti.zero hq, ti_f, ti_d, en1_length]
    have hlt : (x.take i).length ≤ 100 := by rw [List.length_take]; omega
    have b1 := sum_in (f := pnL l) (b := 100) (by decide) (x := x.take i) fun k hk' => by have := wp_in l hl k (hp.lt k (List.mem_of_mem_take hk')); exact ⟨this.1, this.2.1⟩
    have s1 := sumP_take (pnL l) h
    have e1 : (((l.getD (x.getD i 0) Ti.zero).Ps.length : Nat) : Int) = pnL l (x.getD i 0) := rfl
    have hw := wp_in l hl _ hq
    have nx : loopR Q [0, 1, 4, 5, 6, 7] (fun i => i ≤ x.length)
        (fun i => [.list (l.map Ti.cs) .no, .list (x.map pcs) .no, .int .i64 0, .bool false, .int .i64 (sumP (pnL l) (x.take i)), .int .i64 i]) (fun _ => []) (fun i => x.length - i) i .normal
        [.list (l.map Ti.cs) .no, .list (x.map pcs) .no, .int .i64 0, .bool false, .int .i64 (wI (sumP (pnL l) (x.take i) + ((l.getD (x.getD i 0) Ti.zero).Ps.length : Nat))), .int .i64 (wI ((i : Int) + 1))] [] := by
      rw [e1, w_small (n := sumP (pnL l) (x.take i) + pnL l (x.getD i 0)) (by omega) (by omega), ← s1, wI_succ h (by omega)]
      exact ⟨i + 1, (show x.length - (i + 1) < x.length - i by omega), h, rfl, [], rfl, Nat.le_refl _, .inl rfl⟩
    refine ⟨h, ?_⟩
    rw [if_pos (by rfl : (true && true) = true), if_pos (by omega)]
    refine ⟨h, ?_⟩
    rw [if_pos (by rfl : (true && true) = true), if_pos (by omega)]
    by_cases h0 : i > 0
    · rw [if_pos (by omega)]
      have hi1 : wI ((i : Int) - 1) = ((i - 1 : Nat) : Int) := by rw [w_small (by omega) (by omega)]; omega
      have hlt2 : i - 1 < x.length := by omega
      simp only [hi1, inL_p, toNat_nat, getD_map 0 hlt2, pcs_f, pcs_c]
      refine ⟨hlt2, ?_⟩
      rw [if_pos (by rfl : (true && true) = true)]
      refine ⟨h, ?_⟩
      have hup : x.getD (i - 1) 0 < x.getD i 0 := by
        have := List.pairwise_iff_getElem.1 hp.up (i - 1) i hlt2 h (by omega)
        rw [List.getD_eq_getElem?_getD, List.getD_eq_getElem?_getD, List.getElem?_eq_getElem hlt2, List.getElem?_eq_getElem h]; exact this
      rw [if_pos (by rfl : (true && true) = true), if_neg (by omega)]
      refine ⟨h, ?_⟩
      rw [if_pos (by rfl : (true && true) = true)]
      refine ⟨hq, ?_⟩
      rw [if_pos (by rfl : (true && true) = true)]
      exact nx
    · rw [if_neg (by omega)]
      refine ⟨h, ?_⟩
      rw [if_pos (by rfl : (true && true) = true)]
      refine ⟨hq, ?_⟩
      rw [if_pos (by rfl : (true && true) = true)]
      exact nx
  · rw [if_neg (by omega)]
    have : i = x.length := by omega
    subst this
    rw [List.take_length]
    exact hQ
theorem countF_red (l : List Ti) (x : List Nat) (K : PV → Prop) : (∃ (l_1 : List Ti), ∃ (x_1 : List Nat), LsOk l_1 ∧ Places l_1 x_1 ∧ List.length x_1 ≤ 100 ∧ SlIs [PV.list (List.map Ti.cs l) Tail.no, PV.list (List.map pcs x) Tail.no, PV.int IntKind.i64 0, PV.bool false, PV.int IntKind.i64 0, PV.int IntKind.i64 0] [PV.list (List.map Ti.cs l_1) Tail.no, PV.list (List.map pcs x_1) Tail.no, PV.int IntKind.i64 0, PV.bool false, PV.int IntKind.i64 0, PV.int IntKind.i64 0] ∧ HpIs [] [] ∧ K (PV.tup [PV.int IntKind.i64 (sumP (pnL l_1) x_1), PV.bool true])) = wpc br Try.prog gl TV [([1, 1, 0, 1, 0], co_l)] (fun _ => 0) (bodyOf Try.f18) [] (env0 [.list (l.map Ti.cs) .no, .list (x.map pcs) .no]) [] (resQ Try.prog Try.f18.results.toList (fun x _ => K x)) := by kernel_rfl
theorem countF_vc (l : List Ti) (x : List Nat)  (K : PV → Prop) (h : ∃ (l_1 : List Ti), ∃ (x_1 : List Nat), LsOk l_1 ∧ Places l_1 x_1 ∧ List.length x_1 ≤ 100 ∧ SlIs [PV.list (List.map Ti.cs l) Tail.no, PV.list (List.map pcs x) Tail.no, PV.int IntKind.i64 0, PV.bool false, PV.int IntKind.i64 0, PV.int IntKind.i64 0] [PV.list (List.map Ti.cs l_1) Tail.no, PV.list (List.map pcs x_1) Tail.no, PV.int IntKind.i64 0, PV.bool false, PV.int IntKind.i64 0, PV.int IntKind.i64 0] ∧ HpIs [] [] ∧ K (PV.tup [PV.int IntKind.i64 (sumP (pnL l_1) x_1), PV.bool true])) : ACalls Try.prog gl 18 [.list (l.map Ti.cs) .no, .list (x.map pcs) .no] [] (fun x _ => K x) :=
  acalls_of_wpc2 (T := TV) (L := [([1, 1, 0, 1, 0], co_l)]) (fun _ => 0) Try.func18 (by kernel_rfl) (by kernel_rfl) (by kernel_rfl) (TV_ok) (.cons (sub_of (by kernel_rfl)) co_l_ok (.nil _ _ _ _ _)) (holds_of_eq (countF_red l x K) h)
def count_s (args : List PV) (K : PV → Prop) : Prop := ∃ (l : List Ti) (x : List Nat) (u v : Tail), SlIs args [.list (l.map Ti.cs) u, .list (x.map pcs) v] ∧ LsOk l ∧ Places l x ∧ x.length ≤ 100 ∧ K (.tup [.int .i64 (sumP (pnL l) x), .bool true])
theorem count_ok : SpOk Try.prog gl 18 (.pure count_s) := by
  rintro args K ⟨l, x, u, v, he, hl, hp, hlen, hk⟩
  have he : args = _ := he
  subst he
  exact spure_w gl_low (.cons (.list _ _) (.cons (.list _ _) .nil)) (by intro z hz; simp only [List.mem_cons, List.not_mem_nil, or_false] at hz; rcases hz with rfl | rfl; exact low_list NT.no (low_ls hl); exact low_list NT.no (low_p _)) (.tup _ (by intro z hz; simp only [List.mem_cons, List.not_mem_nil, or_false] at hz; rcases hz with rfl | rfl; exact .int _ _; exact .bool _))
    (countF_vc l x (fun z => z = .tup [.int .i64 (sumP (pnL l) x), .bool true]) ⟨l, x, hl, hp, hlen, rfl, rfl, rfl⟩) hk
def TC : Tab := (18, .pure count_s) :: TV
theorem TC_ok : TabOk Try.prog gl TC := .cons count_ok TV_ok
-- a match is legal
def lg_l : LSp := fun e H Q => ∃ (m : Mo) (n : Int) (l : List Ti) (X Y : List Nat), X ≠ [] ∧ Y ≠ [] ∧ X.length + Y.length ≤ 100 ∧ SlIs (List.map e [1, 2, 3, 6, 8]) [.int .i64 n, .list (l.map Ti.cs) .no, .ptr 0 0, .bool false, .ptr 1 0] ∧ HpIs H [.cells m.cs, .cells (sp2 X Y)] ∧
  Q .normal (envS [1, 2, 3, 6, 8, 14] [.int .i64 n, .list (l.map Ti.cs) .no, .ptr 0 0, .bool false, .ptr 1 0, .list ((X ++ Y).map pcs) .no]) [.cells m.cs, .cells (sp2 X Y), .dead, .tok]
theorem lg_draw : isDraw (atOf [1, 1, 1, 1, 1, 1, 1, 1, 0] (bodyOf Try.f5)) = true := by kernel_rfl
theorem lg_fam : okFam (opsOf (atOf [1, 1, 1, 1, 1, 1, 1, 1, 0] (bodyOf Try.f5))) (fun o => match o.dst with | some 85 => 1 | some 88 => 1 | _ => 0) [] [[0, 1, 2, 4, 5, 3, 6, 7]] = true := by kernel_rfl
theorem appL_pp (x y : List Nat) (h : x.length + y.length ≤ 100) : AppL (x.map pcs) (y.map pcs) 1 8 := ⟨uni_map pcs_len x, uni_map pcs_len y, by simp; omega⟩
theorem AW.wkout {P : Program} {gl : Glob} {n : Nat} {c : Code} {Q : Ex → Env → Heap → Prop} {e : Env} {H : Heap} {slots : List Nat} (h : AW P gl n c (fun ex e' H' => ∃ vs, WkL (slots.map e') vs ∧ Q ex (envS slots vs) H') e H) : AW P gl n c Q e H := by
  intro hd g a w hst
  refine wp_mono (h hd g a w hst) ?_
  rintro ex a' w' ⟨ex', g', e', H', k0, k1, k2, vs, k3, k4⟩
  have k5 := k1.weaken (envS_le e' slots)
  exact ⟨ex', g', _, H', k0, ⟨k5.sim, k5.glob, ⟨k5.env.1, fun t => envS_wk k3 t _ (k5.env.2 t)⟩, k5.dfr⟩, k2, k4⟩
theorem lg_l_ok : ∀ e H Q, lg_l e H Q → AW Try.prog gl Try.f5.ntmps (atOf [1, 1, 1, 1, 1, 1, 1, 1, 0] (bodyOf Try.f5)) Q e H := by
  rintro e H Q ⟨m, n, l, X, Y, hX, hY, hlen, he, hH, hQ⟩
  refine AW.wkout (slots := [1, 2, 3, 6, 8, 14]) (aw_family (slots := [1, 2, 3, 6, 8]) (outs := [1, 2, 3, 6, 8, 14]) TV_ok [] [[0, 1, 2, 4, 5, 3, 6, 7]] lg_draw lg_fam he hH ?_)
  intro is his
  rw [List.mem_singleton] at his
  subst his
  refine lg0_vc m n l X Y (fun vs H' => ∃ vs2, WkL (List.map (envS [1, 2, 3, 6, 8, 14] vs) [1, 2, 3, 6, 8, 14]) vs2 ∧ Q .normal (envS [1, 2, 3, 6, 8, 14] vs2) H') ?_
  refine ⟨⟨by intro e he; simp at he, uni_map pcs_len _, by rw [List.length_map]; simp; omega⟩, ⟨one_p _, fun q => hX (List.map_eq_nil_iff.1 q)⟩, appL_pp X Y hlen, ⟨one_p _, fun q => hY (List.map_eq_nil_iff.1 q)⟩, _, .cons (.refl _) (.cons (.refl _) (.cons (.refl _) (.cons (.refl _) (.cons (.refl _) (.cons (.list _ _) .nil))))), ?_⟩
  rw [List.map_append] at hQ
  exact hQ
def lq_l : LSp := fun e H Q => ∃ (m : Mo) (n : Int) (l : List Ti) (X Y : List Nat) (z : List Nat) (i j : Nat), i < z.length ∧ j < z.length ∧ (∀ k ∈ z, k < l.length) ∧ SlIs (List.map e [1, 2, 3, 6, 8, 14, 15, 16]) [.int .i64 n, .list (l.map Ti.cs) .no, .ptr 0 0, .bool false, .ptr 1 0, .list (z.map pcs) .no, .int .i64 i, .int .i64 j] ∧ HpIs H [.cells m.cs, .cells (sp2 X Y), .dead, .tok] ∧
  Q .normal (envS [1, 2, 3, 6, 8, 14, 15, 16, 17, 18] [.int .i64 n, .list (l.map Ti.cs) .no, .ptr 0 0, .bool false, .ptr 1 0, .list (z.map pcs) .no, .int .i64 i, .int .i64 j, .ptr 4 0, .ptr 5 0]) [.cells m.cs, .cells (sp2 X Y), .dead, .tok, .cells (l.getD (z.getD i 0) Ti.zero).cs, .cells (l.getD (z.getD j 0) Ti.zero).cs] ∧
  Q .normal (envS [1, 2, 3, 6, 8, 14, 15, 16, 17, 18] [.int .i64 n, .list (l.map Ti.cs) .no, .ptr 0 0, .bool false, .ptr 1 0, .list (z.map pcs) .no, .int .i64 i, .int .i64 j, .ptr 5 0, .ptr 4 0]) [.cells m.cs, .cells (sp2 X Y), .dead, .tok, .cells (l.getD (z.getD j 0) Ti.zero).cs, .cells (l.getD (z.getD i 0) Ti.zero).cs]
theorem lq_draw : isDraw (atOf [1, 1, 1, 1, 1, 1, 1, 1, 1, 0, 1, 0, 0, 1, 0, 0, 1, 0, 0, 1, 0, 0, 0] (bodyOf Try.f5)) = true := by kernel_rfl
theorem lq_fam : okFam (opsOf (atOf [1, 1, 1, 1, 1, 1, 1, 1, 1, 0, 1, 0, 0, 1, 0, 0, 1, 0, 0, 1, 0, 0, 0] (bodyOf Try.f5))) (fun o => match o.dst with | some 104 => 900 | some 106 => 900 | some 111 => 900 | some 113 => 900 | _ => 0) [14, 15] [[0, 1, 2, 3, 4, 5, 6, 7, 8, 9, 10, 11, 12, 13, 14, 15, 16, 17], [0, 1, 2, 3, 4, 5, 6, 7, 8, 9, 10, 11, 12, 13, 15, 14, 16, 17]] = true := by kernel_rfl
theorem lq_l_ok : ∀ e H Q, lq_l e H Q → AW Try.prog gl Try.f5.ntmps (atOf [1, 1, 1, 1, 1, 1, 1, 1, 1, 0, 1, 0, 0, 1, 0, 0, 1, 0, 0, 1, 0, 0, 0] (bodyOf Try.f5)) Q e H := by
  rintro e H Q ⟨m, n, l, X, Y, z, i, j, hi, hj, hz, he, hH, hQ1, hQ2⟩
  have h1 := hz _ (getD_mem (d := 0) hi)
  have h2 := hz _ (getD_mem (d := 0) hj)
  refine aw_family (slots := [1, 2, 3, 6, 8, 14, 15, 16]) (outs := [1, 2, 3, 6, 8, 14, 15, 16, 17, 18]) TV_ok [14, 15] [[0, 1, 2, 3, 4, 5, 6, 7, 8, 9, 10, 11, 12, 13, 14, 15, 16, 17], [0, 1, 2, 3, 4, 5, 6, 7, 8, 9, 10, 11, 12, 13, 15, 14, 16, 17]] lq_draw lq_fam he hH ?_
  intro is his
  simp only [List.mem_cons, List.not_mem_nil, or_false] at his
  rcases his with rfl | rfl
  · refine lq0_vc m n l X Y z i j (fun vs H' => Q .normal (envS [1, 2, 3, 6, 8, 14, 15, 16, 17, 18] vs) H') ?_
    simp only [br_if, inL_p, toNat_nat, getD_map 0 hi, getD_map 0 hj, pcs_f, pcs_c, inL_ti, getD_map Ti.zero h1, getD_map Ti.zero h2, ti_f, ti_c]
    refine ⟨hi, ?_⟩
    rw [if_pos (by rfl : (true && true) = true)]
    refine ⟨h1, ?_⟩
    rw [if_pos (by rfl : (true && true) = true)]
    refine ⟨hj, ?_⟩
    rw [if_pos (by rfl : (true && true) = true)]
    refine ⟨h2, ?_⟩
    rw [if_pos (by rfl : (true && true) = true)]
    exact hQ1
  · refine lq1_vc m n l X Y z i j (fun vs H' => Q .normal (envS [1, 2, 3, 6, 8, 14, 15, 16, 17, 18] vs) H') ?_
    simp only [br_if, inL_p, toNat_nat, getD_map 0 hi, getD_map 0 hj, pcs_f, pcs_c, inL_ti, getD_map Ti.zero h1, getD_map Ti.zero h2, ti_f, ti_c]
    refine ⟨hi, ?_⟩
    rw [if_pos (by rfl : (true && true) = true)]
    refine ⟨h1, ?_⟩
    rw [if_pos (by rfl : (true && true) = true)]
    refine ⟨hj, ?_⟩
    rw [if_pos (by rfl : (true && true) = true)]
    refine ⟨h2, ?_⟩
    rw [if_pos (by rfl : (true && true) = true)]
    exact hQ2
theorem lq_at : atOf [1, 1, 1, 1, 1, 1, 1, 1, 1, 0, 1, 0, 0, 1, 0, 0, 1, 0, 0, 1, 0, 0, 0] (bodyOf Try.f5) = atOf [1, 0, 0, 0] (subOf [1, 1, 1, 1, 1, 1, 1, 1, 1, 0, 1, 0, 0, 1, 0, 0, 1, 0] (bodyOf Try.f5)) := by kernel_rfl
theorem lq_l_ok2 : ∀ e H Q, lq_l e H Q → AW Try.prog gl Try.f5.ntmps (atOf [1, 0, 0, 0] (subOf [1, 1, 1, 1, 1, 1, 1, 1, 1, 0, 1, 0, 0, 1, 0, 0, 1, 0] (bodyOf Try.f5))) Q e H := by
  rw [← lq_at]; exact lq_l_ok
theorem lgi_red (m : Mo) (n : Int) (l : List Ti) (X Y : List Nat) (z : List Nat) (i j : Nat) (R : Ex → List PV → Heap → Prop) : (br (decide ((↑j : Int) < (↑i : Int))) (∃ (m_1 : Mo), ∃ (n_1 : Int), ∃ (l_1 : List Ti), ∃ (X_1 : List Nat), ∃ (Y_1 : List Nat), ∃ (z_1 : List Nat), ∃ (i_1 : Nat), ∃ (j_1 : Nat), i_1 < List.length z_1 ∧ j_1 < List.length z_1 ∧ (∀ (k : Nat), k ∈ z_1 → k < List.length l_1) ∧ SlIs [PV.int IntKind.i64 n, PV.list (List.map Ti.cs l) Tail.no, PV.ptr 0 0, PV.bool false, PV.ptr 1 0, PV.list (List.map pcs z) Tail.no, PV.int IntKind.i64 (↑i : Int), PV.int IntKind.i64 (↑j : Int)] [PV.int IntKind.i64 n_1, PV.list (List.map Ti.cs l_1) Tail.no, PV.ptr 0 0, PV.bool false, PV.ptr 1 0, PV.list (List.map pcs z_1) Tail.no, PV.int IntKind.i64 (↑i_1 : Int), PV.int IntKind.i64 (↑j_1 : Int)] ∧ HpIs [Ob.cells [PV.int IntKind.i64 (Mo.K m), PV.int IntKind.i64 (Mo.Base m), PV.int IntKind.i64 (Mo.Step m), PV.int IntKind.i64 (Mo.Cap m), PV.int IntKind.i64 (Mo.Every m)], Ob.cells [PV.list (List.map pcs X) Tail.no, PV.list (List.map pcs Y) Tail.no], Ob.dead, Ob.tok] [Ob.cells [PV.int IntKind.i64 (Mo.K m_1), PV.int IntKind.i64 (Mo.Base m_1), PV.int IntKind.i64 (Mo.Step m_1), PV.int IntKind.i64 (Mo.Cap m_1), PV.int IntKind.i64 (Mo.Every m_1)], Ob.cells [PV.list (List.map pcs X_1) Tail.no, PV.list (List.map pcs Y_1) Tail.no], Ob.dead, Ob.tok] ∧ (InL (List.map pcs z_1) 1 (↑i_1 : Int) ∧ br (true && fitX [CK.int IntKind.i64] 0 (List.getD (List.map pcs z_1) (Int.toNat (↑i_1 : Int)) [])) (InL (List.map pcs z_1) 1 (↑j_1 : Int) ∧ br (true && fitX [CK.int IntKind.i64] 0 (List.getD (List.map pcs z_1) (Int.toNat (↑j_1 : Int)) [])) (br ((cI (List.getD (List.map pcs z_1) (Int.toNat (↑i_1 : Int)) []) 0 == cI (List.getD (List.map pcs z_1) (Int.toNat (↑j_1 : Int)) []) 0) == false) (∃ (m : Mo), SlIs [PV.agg [PV.int IntKind.i64 (Mo.K m_1), PV.int IntKind.i64 (Mo.Base m_1), PV.int IntKind.i64 (Mo.Step m_1), PV.int IntKind.i64 (Mo.Cap m_1), PV.int IntKind.i64 (Mo.Every m_1)]] [PV.agg [PV.int IntKind.i64 (Mo.K m), PV.int IntKind.i64 (Mo.Base m), PV.int IntKind.i64 (Mo.Step m), PV.int IntKind.i64 (Mo.Cap m), PV.int IntKind.i64 (Mo.Every m)]] ∧ in64 n_1 ∧ in64 (Ti.Since (List.getD l_1 (List.getD z_1 i_1 0) Ti.zero)) ∧ waitS n_1 (Ti.Since (List.getD l_1 (List.getD z_1 i_1 0) Ti.zero)) ≤ 9223372036854775807 ∧ ∃ (m_2 : Mo), SlIs [PV.agg [PV.int IntKind.i64 (Mo.K m_1), PV.int IntKind.i64 (Mo.Base m_1), PV.int IntKind.i64 (Mo.Step m_1), PV.int IntKind.i64 (Mo.Cap m_1), PV.int IntKind.i64 (Mo.Every m_1)]] [PV.agg [PV.int IntKind.i64 (Mo.K m_2), PV.int IntKind.i64 (Mo.Base m_2), PV.int IntKind.i64 (Mo.Step m_2), PV.int IntKind.i64 (Mo.Cap m_2), PV.int IntKind.i64 (Mo.Every m_2)]] ∧ in64 n_1 ∧ in64 (Ti.Since (List.getD l_1 (List.getD z_1 j_1 0) Ti.zero)) ∧ waitS n_1 (Ti.Since (List.getD l_1 (List.getD z_1 j_1 0) Ti.zero)) ≤ 9223372036854775807 ∧ br (!nearS (Ti.Rating (List.getD l_1 (List.getD z_1 i_1 0) Ti.zero)) (winM m (waitS n_1 (Ti.Since (List.getD l_1 (List.getD z_1 i_1 0) Ti.zero)))) (Ti.Rating (List.getD l_1 (List.getD z_1 j_1 0) Ti.zero)) (winM m_2 (waitS n_1 (Ti.Since (List.getD l_1 (List.getD z_1 j_1 0) Ti.zero))))) (R Ex.ret [PV.int IntKind.i64 n_1, PV.list (List.map Ti.cs l_1) Tail.no, PV.ptr 0 0, PV.bool false, PV.ptr 1 0, PV.list (List.map pcs z_1) Tail.no, PV.int IntKind.i64 (↑i_1 : Int), PV.int IntKind.i64 (↑j_1 : Int)] [Ob.cells [PV.int IntKind.i64 (Mo.K m_1), PV.int IntKind.i64 (Mo.Base m_1), PV.int IntKind.i64 (Mo.Step m_1), PV.int IntKind.i64 (Mo.Cap m_1), PV.int IntKind.i64 (Mo.Every m_1)], Ob.cells [PV.list (List.map pcs X_1) Tail.no, PV.list (List.map pcs Y_1) Tail.no], Ob.dead, Ob.tok, Ob.cells [PV.int IntKind.u32 (Ti.Id (List.getD l_1 (List.getD z_1 i_1 0) Ti.zero)), PV.int IntKind.i64 (Ti.Mode (List.getD l_1 (List.getD z_1 i_1 0) Ti.zero)), PV.list (en1 IntKind.u32 (Ti.Ps (List.getD l_1 (List.getD z_1 i_1 0) Ti.zero))) (Ti.Pt (List.getD l_1 (List.getD z_1 i_1 0) Ti.zero)), PV.int IntKind.i64 (Ti.Rating (List.getD l_1 (List.getD z_1 i_1 0) Ti.zero)), PV.int IntKind.i64 (Ti.Since (List.getD l_1 (List.getD z_1 i_1 0) Ti.zero))], Ob.cells [PV.int IntKind.u32 (Ti.Id (List.getD l_1 (List.getD z_1 j_1 0) Ti.zero)), PV.int IntKind.i64 (Ti.Mode (List.getD l_1 (List.getD z_1 j_1 0) Ti.zero)), PV.list (en1 IntKind.u32 (Ti.Ps (List.getD l_1 (List.getD z_1 j_1 0) Ti.zero))) (Ti.Pt (List.getD l_1 (List.getD z_1 j_1 0) Ti.zero)), PV.int IntKind.i64 (Ti.Rating (List.getD l_1 (List.getD z_1 j_1 0) Ti.zero)), PV.int IntKind.i64 (Ti.Since (List.getD l_1 (List.getD z_1 j_1 0) Ti.zero))]]) (R Ex.normal [PV.int IntKind.i64 n_1, PV.list (List.map Ti.cs l_1) Tail.no, PV.ptr 0 0, PV.bool false, PV.ptr 1 0, PV.list (List.map pcs z_1) Tail.no, PV.int IntKind.i64 (↑i_1 : Int), PV.int IntKind.i64 (wI ((↑j_1 : Int) + 1))] [Ob.cells [PV.int IntKind.i64 (Mo.K m_1), PV.int IntKind.i64 (Mo.Base m_1), PV.int IntKind.i64 (Mo.Step m_1), PV.int IntKind.i64 (Mo.Cap m_1), PV.int IntKind.i64 (Mo.Every m_1)], Ob.cells [PV.list (List.map pcs X_1) Tail.no, PV.list (List.map pcs Y_1) Tail.no], Ob.dead, Ob.tok, Ob.cells [PV.int IntKind.u32 (Ti.Id (List.getD l_1 (List.getD z_1 i_1 0) Ti.zero)), PV.int IntKind.i64 (Ti.Mode (List.getD l_1 (List.getD z_1 i_1 0) Ti.zero)), PV.list (en1 IntKind.u32 (Ti.Ps (List.getD l_1 (List.getD z_1 i_1 0) Ti.zero))) (Ti.Pt (List.getD l_1 (List.getD z_1 i_1 0) Ti.zero)), PV.int IntKind.i64 (Ti.Rating (List.getD l_1 (List.getD z_1 i_1 0) Ti.zero)), PV.int IntKind.i64 (Ti.Since (List.getD l_1 (List.getD z_1 i_1 0) Ti.zero))], Ob.cells [PV.int IntKind.u32 (Ti.Id (List.getD l_1 (List.getD z_1 j_1 0) Ti.zero)), PV.int IntKind.i64 (Ti.Mode (List.getD l_1 (List.getD z_1 j_1 0) Ti.zero)), PV.list (en1 IntKind.u32 (Ti.Ps (List.getD l_1 (List.getD z_1 j_1 0) Ti.zero))) (Ti.Pt (List.getD l_1 (List.getD z_1 j_1 0) Ti.zero)), PV.int IntKind.i64 (Ti.Rating (List.getD l_1 (List.getD z_1 j_1 0) Ti.zero)), PV.int IntKind.i64 (Ti.Since (List.getD l_1 (List.getD z_1 j_1 0) Ti.zero))]])) (R Ex.ret [PV.int IntKind.i64 n_1, PV.list (List.map Ti.cs l_1) Tail.no, PV.ptr 0 0, PV.bool false, PV.ptr 1 0, PV.list (List.map pcs z_1) Tail.no, PV.int IntKind.i64 (↑i_1 : Int), PV.int IntKind.i64 (↑j_1 : Int)] [Ob.cells [PV.int IntKind.i64 (Mo.K m_1), PV.int IntKind.i64 (Mo.Base m_1), PV.int IntKind.i64 (Mo.Step m_1), PV.int IntKind.i64 (Mo.Cap m_1), PV.int IntKind.i64 (Mo.Every m_1)], Ob.cells [PV.list (List.map pcs X_1) Tail.no, PV.list (List.map pcs Y_1) Tail.no], Ob.dead, Ob.tok, Ob.cells [PV.int IntKind.u32 (Ti.Id (List.getD l_1 (List.getD z_1 i_1 0) Ti.zero)), PV.int IntKind.i64 (Ti.Mode (List.getD l_1 (List.getD z_1 i_1 0) Ti.zero)), PV.list (en1 IntKind.u32 (Ti.Ps (List.getD l_1 (List.getD z_1 i_1 0) Ti.zero))) (Ti.Pt (List.getD l_1 (List.getD z_1 i_1 0) Ti.zero)), PV.int IntKind.i64 (Ti.Rating (List.getD l_1 (List.getD z_1 i_1 0) Ti.zero)), PV.int IntKind.i64 (Ti.Since (List.getD l_1 (List.getD z_1 i_1 0) Ti.zero))], Ob.cells [PV.int IntKind.u32 (Ti.Id (List.getD l_1 (List.getD z_1 j_1 0) Ti.zero)), PV.int IntKind.i64 (Ti.Mode (List.getD l_1 (List.getD z_1 j_1 0) Ti.zero)), PV.list (en1 IntKind.u32 (Ti.Ps (List.getD l_1 (List.getD z_1 j_1 0) Ti.zero))) (Ti.Pt (List.getD l_1 (List.getD z_1 j_1 0) Ti.zero)), PV.int IntKind.i64 (Ti.Rating (List.getD l_1 (List.getD z_1 j_1 0) Ti.zero)), PV.int IntKind.i64 (Ti.Since (List.getD l_1 (List.getD z_1 j_1 0) Ti.zero))]])) False) False) ∧ InL (List.map pcs z_1) 1 (↑i_1 : Int) ∧ br (true && fitX [CK.int IntKind.i64] 0 (List.getD (List.map pcs z_1) (Int.toNat (↑i_1 : Int)) [])) (InL (List.map pcs z_1) 1 (↑j_1 : Int) ∧ br (true && fitX [CK.int IntKind.i64] 0 (List.getD (List.map pcs z_1) (Int.toNat (↑j_1 : Int)) [])) (br ((cI (List.getD (List.map pcs z_1) (Int.toNat (↑i_1 : Int)) []) 0 == cI (List.getD (List.map pcs z_1) (Int.toNat (↑j_1 : Int)) []) 0) == false) (∃ (m : Mo), SlIs [PV.agg [PV.int IntKind.i64 (Mo.K m_1), PV.int IntKind.i64 (Mo.Base m_1), PV.int IntKind.i64 (Mo.Step m_1), PV.int IntKind.i64 (Mo.Cap m_1), PV.int IntKind.i64 (Mo.Every m_1)]] [PV.agg [PV.int IntKind.i64 (Mo.K m), PV.int IntKind.i64 (Mo.Base m), PV.int IntKind.i64 (Mo.Step m), PV.int IntKind.i64 (Mo.Cap m), PV.int IntKind.i64 (Mo.Every m)]] ∧ in64 n_1 ∧ in64 (Ti.Since (List.getD l_1 (List.getD z_1 i_1 0) Ti.zero)) ∧ waitS n_1 (Ti.Since (List.getD l_1 (List.getD z_1 i_1 0) Ti.zero)) ≤ 9223372036854775807 ∧ ∃ (m_2 : Mo), SlIs [PV.agg [PV.int IntKind.i64 (Mo.K m_1), PV.int IntKind.i64 (Mo.Base m_1), PV.int IntKind.i64 (Mo.Step m_1), PV.int IntKind.i64 (Mo.Cap m_1), PV.int IntKind.i64 (Mo.Every m_1)]] [PV.agg [PV.int IntKind.i64 (Mo.K m_2), PV.int IntKind.i64 (Mo.Base m_2), PV.int IntKind.i64 (Mo.Step m_2), PV.int IntKind.i64 (Mo.Cap m_2), PV.int IntKind.i64 (Mo.Every m_2)]] ∧ in64 n_1 ∧ in64 (Ti.Since (List.getD l_1 (List.getD z_1 j_1 0) Ti.zero)) ∧ waitS n_1 (Ti.Since (List.getD l_1 (List.getD z_1 j_1 0) Ti.zero)) ≤ 9223372036854775807 ∧ br (!nearS (Ti.Rating (List.getD l_1 (List.getD z_1 i_1 0) Ti.zero)) (winM m (waitS n_1 (Ti.Since (List.getD l_1 (List.getD z_1 i_1 0) Ti.zero)))) (Ti.Rating (List.getD l_1 (List.getD z_1 j_1 0) Ti.zero)) (winM m_2 (waitS n_1 (Ti.Since (List.getD l_1 (List.getD z_1 j_1 0) Ti.zero))))) (R Ex.ret [PV.int IntKind.i64 n_1, PV.list (List.map Ti.cs l_1) Tail.no, PV.ptr 0 0, PV.bool false, PV.ptr 1 0, PV.list (List.map pcs z_1) Tail.no, PV.int IntKind.i64 (↑i_1 : Int), PV.int IntKind.i64 (↑j_1 : Int)] [Ob.cells [PV.int IntKind.i64 (Mo.K m_1), PV.int IntKind.i64 (Mo.Base m_1), PV.int IntKind.i64 (Mo.Step m_1), PV.int IntKind.i64 (Mo.Cap m_1), PV.int IntKind.i64 (Mo.Every m_1)], Ob.cells [PV.list (List.map pcs X_1) Tail.no, PV.list (List.map pcs Y_1) Tail.no], Ob.dead, Ob.tok, Ob.cells [PV.int IntKind.u32 (Ti.Id (List.getD l_1 (List.getD z_1 j_1 0) Ti.zero)), PV.int IntKind.i64 (Ti.Mode (List.getD l_1 (List.getD z_1 j_1 0) Ti.zero)), PV.list (en1 IntKind.u32 (Ti.Ps (List.getD l_1 (List.getD z_1 j_1 0) Ti.zero))) (Ti.Pt (List.getD l_1 (List.getD z_1 j_1 0) Ti.zero)), PV.int IntKind.i64 (Ti.Rating (List.getD l_1 (List.getD z_1 j_1 0) Ti.zero)), PV.int IntKind.i64 (Ti.Since (List.getD l_1 (List.getD z_1 j_1 0) Ti.zero))], Ob.cells [PV.int IntKind.u32 (Ti.Id (List.getD l_1 (List.getD z_1 i_1 0) Ti.zero)), PV.int IntKind.i64 (Ti.Mode (List.getD l_1 (List.getD z_1 i_1 0) Ti.zero)), PV.list (en1 IntKind.u32 (Ti.Ps (List.getD l_1 (List.getD z_1 i_1 0) Ti.zero))) (Ti.Pt (List.getD l_1 (List.getD z_1 i_1 0) Ti.zero)), PV.int IntKind.i64 (Ti.Rating (List.getD l_1 (List.getD z_1 i_1 0) Ti.zero)), PV.int IntKind.i64 (Ti.Since (List.getD l_1 (List.getD z_1 i_1 0) Ti.zero))]]) (R Ex.normal [PV.int IntKind.i64 n_1, PV.list (List.map Ti.cs l_1) Tail.no, PV.ptr 0 0, PV.bool false, PV.ptr 1 0, PV.list (List.map pcs z_1) Tail.no, PV.int IntKind.i64 (↑i_1 : Int), PV.int IntKind.i64 (wI ((↑j_1 : Int) + 1))] [Ob.cells [PV.int IntKind.i64 (Mo.K m_1), PV.int IntKind.i64 (Mo.Base m_1), PV.int IntKind.i64 (Mo.Step m_1), PV.int IntKind.i64 (Mo.Cap m_1), PV.int IntKind.i64 (Mo.Every m_1)], Ob.cells [PV.list (List.map pcs X_1) Tail.no, PV.list (List.map pcs Y_1) Tail.no], Ob.dead, Ob.tok, Ob.cells [PV.int IntKind.u32 (Ti.Id (List.getD l_1 (List.getD z_1 j_1 0) Ti.zero)), PV.int IntKind.i64 (Ti.Mode (List.getD l_1 (List.getD z_1 j_1 0) Ti.zero)), PV.list (en1 IntKind.u32 (Ti.Ps (List.getD l_1 (List.getD z_1 j_1 0) Ti.zero))) (Ti.Pt (List.getD l_1 (List.getD z_1 j_1 0) Ti.zero)), PV.int IntKind.i64 (Ti.Rating (List.getD l_1 (List.getD z_1 j_1 0) Ti.zero)), PV.int IntKind.i64 (Ti.Since (List.getD l_1 (List.getD z_1 j_1 0) Ti.zero))], Ob.cells [PV.int IntKind.u32 (Ti.Id (List.getD l_1 (List.getD z_1 i_1 0) Ti.zero)), PV.int IntKind.i64 (Ti.Mode (List.getD l_1 (List.getD z_1 i_1 0) Ti.zero)), PV.list (en1 IntKind.u32 (Ti.Ps (List.getD l_1 (List.getD z_1 i_1 0) Ti.zero))) (Ti.Pt (List.getD l_1 (List.getD z_1 i_1 0) Ti.zero)), PV.int IntKind.i64 (Ti.Rating (List.getD l_1 (List.getD z_1 i_1 0) Ti.zero)), PV.int IntKind.i64 (Ti.Since (List.getD l_1 (List.getD z_1 i_1 0) Ti.zero))]])) (R Ex.ret [PV.int IntKind.i64 n_1, PV.list (List.map Ti.cs l_1) Tail.no, PV.ptr 0 0, PV.bool false, PV.ptr 1 0, PV.list (List.map pcs z_1) Tail.no, PV.int IntKind.i64 (↑i_1 : Int), PV.int IntKind.i64 (↑j_1 : Int)] [Ob.cells [PV.int IntKind.i64 (Mo.K m_1), PV.int IntKind.i64 (Mo.Base m_1), PV.int IntKind.i64 (Mo.Step m_1), PV.int IntKind.i64 (Mo.Cap m_1), PV.int IntKind.i64 (Mo.Every m_1)], Ob.cells [PV.list (List.map pcs X_1) Tail.no, PV.list (List.map pcs Y_1) Tail.no], Ob.dead, Ob.tok, Ob.cells [PV.int IntKind.u32 (Ti.Id (List.getD l_1 (List.getD z_1 j_1 0) Ti.zero)), PV.int IntKind.i64 (Ti.Mode (List.getD l_1 (List.getD z_1 j_1 0) Ti.zero)), PV.list (en1 IntKind.u32 (Ti.Ps (List.getD l_1 (List.getD z_1 j_1 0) Ti.zero))) (Ti.Pt (List.getD l_1 (List.getD z_1 j_1 0) Ti.zero)), PV.int IntKind.i64 (Ti.Rating (List.getD l_1 (List.getD z_1 j_1 0) Ti.zero)), PV.int IntKind.i64 (Ti.Since (List.getD l_1 (List.getD z_1 j_1 0) Ti.zero))], Ob.cells [PV.int IntKind.u32 (Ti.Id (List.getD l_1 (List.getD z_1 i_1 0) Ti.zero)), PV.int IntKind.i64 (Ti.Mode (List.getD l_1 (List.getD z_1 i_1 0) Ti.zero)), PV.list (en1 IntKind.u32 (Ti.Ps (List.getD l_1 (List.getD z_1 i_1 0) Ti.zero))) (Ti.Pt (List.getD l_1 (List.getD z_1 i_1 0) Ti.zero)), PV.int IntKind.i64 (Ti.Rating (List.getD l_1 (List.getD z_1 i_1 0) Ti.zero)), PV.int IntKind.i64 (Ti.Since (List.getD l_1 (List.getD z_1 i_1 0) Ti.zero))]])) False) False) (R (Ex.exit 2) [PV.int IntKind.i64 n, PV.list (List.map Ti.cs l) Tail.no, PV.ptr 0 0, PV.bool false, PV.ptr 1 0, PV.list (List.map pcs z) Tail.no, PV.int IntKind.i64 (↑i : Int), PV.int IntKind.i64 (↑j : Int)] [Ob.cells [PV.int IntKind.i64 (Mo.K m), PV.int IntKind.i64 (Mo.Base m), PV.int IntKind.i64 (Mo.Step m), PV.int IntKind.i64 (Mo.Cap m), PV.int IntKind.i64 (Mo.Every m)], Ob.cells [PV.list (List.map pcs X) Tail.no, PV.list (List.map pcs Y) Tail.no], Ob.dead, Ob.tok])) = wpc br Try.prog gl TC [([1, 0, 0, 0], lq_l)] (fun _ => 0) (subOf [1, 1, 1, 1, 1, 1, 1, 1, 1, 0, 1, 0, 0, 1, 0, 0, 1, 0] (bodyOf Try.f5)) [] (envS [1, 2, 3, 6, 8, 14, 15, 16] [.int .i64 n, .list (l.map Ti.cs) .no, .ptr 0 0, .bool false, .ptr 1 0, .list (z.map pcs) .no, .int .i64 i, .int .i64 j]) [.cells m.cs, .cells (sp2 X Y), .dead, .tok] (fun ex e H => R ex (List.map e [1, 2, 3, 6, 8, 14, 15, 16]) H) := by kernel_rfl
theorem lgi_vc (m : Mo) (n : Int) (l : List Ti) (X Y : List Nat) (z : List Nat) (i j : Nat) (R : Ex → List PV → Heap → Prop) (h : br (decide ((↑j : Int) < (↑i : Int))) (∃ (m_1 : Mo), ∃ (n_1 : Int), ∃ (l_1 : List Ti), ∃ (X_1 : List Nat), ∃ (Y_1 : List Nat), ∃ (z_1 : List Nat), ∃ (i_1 : Nat), ∃ (j_1 : Nat), i_1 < List.length z_1 ∧ j_1 < List.length z_1 ∧ (∀ (k : Nat), k ∈ z_1 → k < List.length l_1) ∧ SlIs [PV.int IntKind.i64 n, PV.list (List.map Ti.cs l) Tail.no, PV.ptr 0 0, PV.bool false, PV.ptr 1 0, PV.list (List.map pcs z) Tail.no, PV.int IntKind.i64 (↑i : Int), PV.int IntKind.i64 (↑j : Int)] [PV.int IntKind.i64 n_1, PV.list (List.map Ti.cs l_1) Tail.no, PV.ptr 0 0, PV.bool false, PV.ptr 1 0, PV.list (List.map pcs z_1) Tail.no, PV.int IntKind.i64 (↑i_1 : Int), PV.int IntKind.i64 (↑j_1 : Int)] ∧ HpIs [Ob.cells [PV.int IntKind.i64 (Mo.K m), PV.int IntKind.i64 (Mo.Base m), PV.int IntKind.i64 (Mo.Step m), PV.int IntKind.i64 (Mo.Cap m), PV.int IntKind.i64 (Mo.Every m)], Ob.cells [PV.list (List.map pcs X) Tail.no, PV.list (List.map pcs Y) Tail.no], Ob.dead, Ob.tok] [Ob.cells [PV.int IntKind.i64 (Mo.K m_1), PV.int IntKind.i64 (Mo.Base m_1), PV.int IntKind.i64 (Mo.Step m_1), PV.int IntKind.i64 (Mo.Cap m_1), PV.int IntKind.i64 (Mo.Every m_1)], Ob.cells [PV.list (List.map pcs X_1) Tail.no, PV.list (List.map pcs Y_1) Tail.no], Ob.dead, Ob.tok] ∧ (InL (List.map pcs z_1) 1 (↑i_1 : Int) ∧ br (true && fitX [CK.int IntKind.i64] 0 (List.getD (List.map pcs z_1) (Int.toNat (↑i_1 : Int)) [])) (InL (List.map pcs z_1) 1 (↑j_1 : Int) ∧ br (true && fitX [CK.int IntKind.i64] 0 (List.getD (List.map pcs z_1) (Int.toNat (↑j_1 : Int)) [])) (br ((cI (List.getD (List.map pcs z_1) (Int.toNat (↑i_1 : Int)) []) 0 == cI (List.getD (List.map pcs z_1) (Int.toNat (↑j_1 : Int)) []) 0) == false) (∃ (m : Mo), SlIs [PV.agg [PV.int IntKind.i64 (Mo.K m_1), PV.int IntKind.i64 (Mo.Base m_1), PV.int IntKind.i64 (Mo.Step m_1), PV.int IntKind.i64 (Mo.Cap m_1), PV.int IntKind.i64 (Mo.Every m_1)]] [PV.agg [PV.int IntKind.i64 (Mo.K m), PV.int IntKind.i64 (Mo.Base m), PV.int IntKind.i64 (Mo.Step m), PV.int IntKind.i64 (Mo.Cap m), PV.int IntKind.i64 (Mo.Every m)]] ∧ in64 n_1 ∧ in64 (Ti.Since (List.getD l_1 (List.getD z_1 i_1 0) Ti.zero)) ∧ waitS n_1 (Ti.Since (List.getD l_1 (List.getD z_1 i_1 0) Ti.zero)) ≤ 9223372036854775807 ∧ ∃ (m_2 : Mo), SlIs [PV.agg [PV.int IntKind.i64 (Mo.K m_1), PV.int IntKind.i64 (Mo.Base m_1), PV.int IntKind.i64 (Mo.Step m_1), PV.int IntKind.i64 (Mo.Cap m_1), PV.int IntKind.i64 (Mo.Every m_1)]] [PV.agg [PV.int IntKind.i64 (Mo.K m_2), PV.int IntKind.i64 (Mo.Base m_2), PV.int IntKind.i64 (Mo.Step m_2), PV.int IntKind.i64 (Mo.Cap m_2), PV.int IntKind.i64 (Mo.Every m_2)]] ∧ in64 n_1 ∧ in64 (Ti.Since (List.getD l_1 (List.getD z_1 j_1 0) Ti.zero)) ∧ waitS n_1 (Ti.Since (List.getD l_1 (List.getD z_1 j_1 0) Ti.zero)) ≤ 9223372036854775807 ∧ br (!nearS (Ti.Rating (List.getD l_1 (List.getD z_1 i_1 0) Ti.zero)) (winM m (waitS n_1 (Ti.Since (List.getD l_1 (List.getD z_1 i_1 0) Ti.zero)))) (Ti.Rating (List.getD l_1 (List.getD z_1 j_1 0) Ti.zero)) (winM m_2 (waitS n_1 (Ti.Since (List.getD l_1 (List.getD z_1 j_1 0) Ti.zero))))) (R Ex.ret [PV.int IntKind.i64 n_1, PV.list (List.map Ti.cs l_1) Tail.no, PV.ptr 0 0, PV.bool false, PV.ptr 1 0, PV.list (List.map pcs z_1) Tail.no, PV.int IntKind.i64 (↑i_1 : Int), PV.int IntKind.i64 (↑j_1 : Int)] [Ob.cells [PV.int IntKind.i64 (Mo.K m_1), PV.int IntKind.i64 (Mo.Base m_1), PV.int IntKind.i64 (Mo.Step m_1), PV.int IntKind.i64 (Mo.Cap m_1), PV.int IntKind.i64 (Mo.Every m_1)], Ob.cells [PV.list (List.map pcs X_1) Tail.no, PV.list (List.map pcs Y_1) Tail.no], Ob.dead, Ob.tok, Ob.cells [PV.int IntKind.u32 (Ti.Id (List.getD l_1 (List.getD z_1 i_1 0) Ti.zero)), PV.int IntKind.i64 (Ti.Mode (List.getD l_1 (List.getD z_1 i_1 0) Ti.zero)), PV.list (en1 IntKind.u32 (Ti.Ps (List.getD l_1 (List.getD z_1 i_1 0) Ti.zero))) (Ti.Pt (List.getD l_1 (List.getD z_1 i_1 0) Ti.zero)), PV.int IntKind.i64 (Ti.Rating (List.getD l_1 (List.getD z_1 i_1 0) Ti.zero)), PV.int IntKind.i64 (Ti.Since (List.getD l_1 (List.getD z_1 i_1 0) Ti.zero))], Ob.cells [PV.int IntKind.u32 (Ti.Id (List.getD l_1 (List.getD z_1 j_1 0) Ti.zero)), PV.int IntKind.i64 (Ti.Mode (List.getD l_1 (List.getD z_1 j_1 0) Ti.zero)), PV.list (en1 IntKind.u32 (Ti.Ps (List.getD l_1 (List.getD z_1 j_1 0) Ti.zero))) (Ti.Pt (List.getD l_1 (List.getD z_1 j_1 0) Ti.zero)), PV.int IntKind.i64 (Ti.Rating (List.getD l_1 (List.getD z_1 j_1 0) Ti.zero)), PV.int IntKind.i64 (Ti.Since (List.getD l_1 (List.getD z_1 j_1 0) Ti.zero))]]) (R Ex.normal [PV.int IntKind.i64 n_1, PV.list (List.map Ti.cs l_1) Tail.no, PV.ptr 0 0, PV.bool false, PV.ptr 1 0, PV.list (List.map pcs z_1) Tail.no, PV.int IntKind.i64 (↑i_1 : Int), PV.int IntKind.i64 (wI ((↑j_1 : Int) + 1))] [Ob.cells [PV.int IntKind.i64 (Mo.K m_1), PV.int IntKind.i64 (Mo.Base m_1), PV.int IntKind.i64 (Mo.Step m_1), PV.int IntKind.i64 (Mo.Cap m_1), PV.int IntKind.i64 (Mo.Every m_1)], Ob.cells [PV.list (List.map pcs X_1) Tail.no, PV.list (List.map pcs Y_1) Tail.no], Ob.dead, Ob.tok, Ob.cells [PV.int IntKind.u32 (Ti.Id (List.getD l_1 (List.getD z_1 i_1 0) Ti.zero)), PV.int IntKind.i64 (Ti.Mode (List.getD l_1 (List.getD z_1 i_1 0) Ti.zero)), PV.list (en1 IntKind.u32 (Ti.Ps (List.getD l_1 (List.getD z_1 i_1 0) Ti.zero))) (Ti.Pt (List.getD l_1 (List.getD z_1 i_1 0) Ti.zero)), PV.int IntKind.i64 (Ti.Rating (List.getD l_1 (List.getD z_1 i_1 0) Ti.zero)), PV.int IntKind.i64 (Ti.Since (List.getD l_1 (List.getD z_1 i_1 0) Ti.zero))], Ob.cells [PV.int IntKind.u32 (Ti.Id (List.getD l_1 (List.getD z_1 j_1 0) Ti.zero)), PV.int IntKind.i64 (Ti.Mode (List.getD l_1 (List.getD z_1 j_1 0) Ti.zero)), PV.list (en1 IntKind.u32 (Ti.Ps (List.getD l_1 (List.getD z_1 j_1 0) Ti.zero))) (Ti.Pt (List.getD l_1 (List.getD z_1 j_1 0) Ti.zero)), PV.int IntKind.i64 (Ti.Rating (List.getD l_1 (List.getD z_1 j_1 0) Ti.zero)), PV.int IntKind.i64 (Ti.Since (List.getD l_1 (List.getD z_1 j_1 0) Ti.zero))]])) (R Ex.ret [PV.int IntKind.i64 n_1, PV.list (List.map Ti.cs l_1) Tail.no, PV.ptr 0 0, PV.bool false, PV.ptr 1 0, PV.list (List.map pcs z_1) Tail.no, PV.int IntKind.i64 (↑i_1 : Int), PV.int IntKind.i64 (↑j_1 : Int)] [Ob.cells [PV.int IntKind.i64 (Mo.K m_1), PV.int IntKind.i64 (Mo.Base m_1), PV.int IntKind.i64 (Mo.Step m_1), PV.int IntKind.i64 (Mo.Cap m_1), PV.int IntKind.i64 (Mo.Every m_1)], Ob.cells [PV.list (List.map pcs X_1) Tail.no, PV.list (List.map pcs Y_1) Tail.no], Ob.dead, Ob.tok, Ob.cells [PV.int IntKind.u32 (Ti.Id (List.getD l_1 (List.getD z_1 i_1 0) Ti.zero)), PV.int IntKind.i64 (Ti.Mode (List.getD l_1 (List.getD z_1 i_1 0) Ti.zero)), PV.list (en1 IntKind.u32 (Ti.Ps (List.getD l_1 (List.getD z_1 i_1 0) Ti.zero))) (Ti.Pt (List.getD l_1 (List.getD z_1 i_1 0) Ti.zero)), PV.int IntKind.i64 (Ti.Rating (List.getD l_1 (List.getD z_1 i_1 0) Ti.zero)), PV.int IntKind.i64 (Ti.Since (List.getD l_1 (List.getD z_1 i_1 0) Ti.zero))], Ob.cells [PV.int IntKind.u32 (Ti.Id (List.getD l_1 (List.getD z_1 j_1 0) Ti.zero)), PV.int IntKind.i64 (Ti.Mode (List.getD l_1 (List.getD z_1 j_1 0) Ti.zero)), PV.list (en1 IntKind.u32 (Ti.Ps (List.getD l_1 (List.getD z_1 j_1 0) Ti.zero))) (Ti.Pt (List.getD l_1 (List.getD z_1 j_1 0) Ti.zero)), PV.int IntKind.i64 (Ti.Rating (List.getD l_1 (List.getD z_1 j_1 0) Ti.zero)), PV.int IntKind.i64 (Ti.Since (List.getD l_1 (List.getD z_1 j_1 0) Ti.zero))]])) False) False) ∧ InL (List.map pcs z_1) 1 (↑i_1 : Int) ∧ br (true && fitX [CK.int IntKind.i64] 0 (List.getD (List.map pcs z_1) (Int.toNat (↑i_1 : Int)) [])) (InL (List.map pcs z_1) 1 (↑j_1 : Int) ∧ br (true && fitX [CK.int IntKind.i64] 0 (List.getD (List.map pcs z_1) (Int.toNat (↑j_1 : Int)) [])) (br ((cI (List.getD (List.map pcs z_1) (Int.toNat (↑i_1 : Int)) []) 0 == cI (List.getD (List.map pcs z_1) (Int.toNat (↑j_1 : Int)) []) 0) == false) (∃ (m : Mo), SlIs [PV.agg [PV.int IntKind.i64 (Mo.K m_1), PV.int IntKind.i64 (Mo.Base m_1), PV.int IntKind.i64 (Mo.Step m_1), PV.int IntKind.i64 (Mo.Cap m_1), PV.int IntKind.i64 (Mo.Every m_1)]] [PV.agg [PV.int IntKind.i64 (Mo.K m), PV.int IntKind.i64 (Mo.Base m), PV.int IntKind.i64 (Mo.Step m), PV.int IntKind.i64 (Mo.Cap m), PV.int IntKind.i64 (Mo.Every m)]] ∧ in64 n_1 ∧ in64 (Ti.Since (List.getD l_1 (List.getD z_1 i_1 0) Ti.zero)) ∧ waitS n_1 (Ti.Since (List.getD l_1 (List.getD z_1 i_1 0) Ti.zero)) ≤ 9223372036854775807 ∧ ∃ (m_2 : Mo), SlIs [PV.agg [PV.int IntKind.i64 (Mo.K m_1), PV.int IntKind.i64 (Mo.Base m_1), PV.int IntKind.i64 (Mo.Step m_1), PV.int IntKind.i64 (Mo.Cap m_1), PV.int IntKind.i64 (Mo.Every m_1)]] [PV.agg [PV.int IntKind.i64 (Mo.K m_2), PV.int IntKind.i64 (Mo.Base m_2), PV.int IntKind.i64 (Mo.Step m_2), PV.int IntKind.i64 (Mo.Cap m_2), PV.int IntKind.i64 (Mo.Every m_2)]] ∧ in64 n_1 ∧ in64 (Ti.Since (List.getD l_1 (List.getD z_1 j_1 0) Ti.zero)) ∧ waitS n_1 (Ti.Since (List.getD l_1 (List.getD z_1 j_1 0) Ti.zero)) ≤ 9223372036854775807 ∧ br (!nearS (Ti.Rating (List.getD l_1 (List.getD z_1 i_1 0) Ti.zero)) (winM m (waitS n_1 (Ti.Since (List.getD l_1 (List.getD z_1 i_1 0) Ti.zero)))) (Ti.Rating (List.getD l_1 (List.getD z_1 j_1 0) Ti.zero)) (winM m_2 (waitS n_1 (Ti.Since (List.getD l_1 (List.getD z_1 j_1 0) Ti.zero))))) (R Ex.ret [PV.int IntKind.i64 n_1, PV.list (List.map Ti.cs l_1) Tail.no, PV.ptr 0 0, PV.bool false, PV.ptr 1 0, PV.list (List.map pcs z_1) Tail.no, PV.int IntKind.i64 (↑i_1 : Int), PV.int IntKind.i64 (↑j_1 : Int)] [Ob.cells [PV.int IntKind.i64 (Mo.K m_1), PV.int IntKind.i64 (Mo.Base m_1), PV.int IntKind.i64 (Mo.Step m_1), PV.int IntKind.i64 (Mo.Cap m_1), PV.int IntKind.i64 (Mo.Every m_1)], Ob.cells [PV.list (List.map pcs X_1) Tail.no, PV.list (List.map pcs Y_1) Tail.no], Ob.dead, Ob.tok, Ob.cells [PV.int IntKind.u32 (Ti.Id (List.getD l_1 (List.getD z_1 j_1 0) Ti.zero)), PV.int IntKind.i64 (Ti.Mode (List.getD l_1 (List.getD z_1 j_1 0) Ti.zero)), PV.list (en1 IntKind.u32 (Ti.Ps (List.getD l_1 (List.getD z_1 j_1 0) Ti.zero))) (Ti.Pt (List.getD l_1 (List.getD z_1 j_1 0) Ti.zero)), PV.int IntKind.i64 (Ti.Rating (List.getD l_1 (List.getD z_1 j_1 0) Ti.zero)), PV.int IntKind.i64 (Ti.Since (List.getD l_1 (List.getD z_1 j_1 0) Ti.zero))], Ob.cells [PV.int IntKind.u32 (Ti.Id (List.getD l_1 (List.getD z_1 i_1 0) Ti.zero)), PV.int IntKind.i64 (Ti.Mode (List.getD l_1 (List.getD z_1 i_1 0) Ti.zero)), PV.list (en1 IntKind.u32 (Ti.Ps (List.getD l_1 (List.getD z_1 i_1 0) Ti.zero))) (Ti.Pt (List.getD l_1 (List.getD z_1 i_1 0) Ti.zero)), PV.int IntKind.i64 (Ti.Rating (List.getD l_1 (List.getD z_1 i_1 0) Ti.zero)), PV.int IntKind.i64 (Ti.Since (List.getD l_1 (List.getD z_1 i_1 0) Ti.zero))]]) (R Ex.normal [PV.int IntKind.i64 n_1, PV.list (List.map Ti.cs l_1) Tail.no, PV.ptr 0 0, PV.bool false, PV.ptr 1 0, PV.list (List.map pcs z_1) Tail.no, PV.int IntKind.i64 (↑i_1 : Int), PV.int IntKind.i64 (wI ((↑j_1 : Int) + 1))] [Ob.cells [PV.int IntKind.i64 (Mo.K m_1), PV.int IntKind.i64 (Mo.Base m_1), PV.int IntKind.i64 (Mo.Step m_1), PV.int IntKind.i64 (Mo.Cap m_1), PV.int IntKind.i64 (Mo.Every m_1)], Ob.cells [PV.list (List.map pcs X_1) Tail.no, PV.list (List.map pcs Y_1) Tail.no], Ob.dead, Ob.tok, Ob.cells [PV.int IntKind.u32 (Ti.Id (List.getD l_1 (List.getD z_1 j_1 0) Ti.zero)), PV.int IntKind.i64 (Ti.Mode (List.getD l_1 (List.getD z_1 j_1 0) Ti.zero)), PV.list (en1 IntKind.u32 (Ti.Ps (List.getD l_1 (List.getD z_1 j_1 0) Ti.zero))) (Ti.Pt (List.getD l_1 (List.getD z_1 j_1 0) Ti.zero)), PV.int IntKind.i64 (Ti.Rating (List.getD l_1 (List.getD z_1 j_1 0) Ti.zero)), PV.int IntKind.i64 (Ti.Since (List.getD l_1 (List.getD z_1 j_1 0) Ti.zero))], Ob.cells [PV.int IntKind.u32 (Ti.Id (List.getD l_1 (List.getD z_1 i_1 0) Ti.zero)), PV.int IntKind.i64 (Ti.Mode (List.getD l_1 (List.getD z_1 i_1 0) Ti.zero)), PV.list (en1 IntKind.u32 (Ti.Ps (List.getD l_1 (List.getD z_1 i_1 0) Ti.zero))) (Ti.Pt (List.getD l_1 (List.getD z_1 i_1 0) Ti.zero)), PV.int IntKind.i64 (Ti.Rating (List.getD l_1 (List.getD z_1 i_1 0) Ti.zero)), PV.int IntKind.i64 (Ti.Since (List.getD l_1 (List.getD z_1 i_1 0) Ti.zero))]])) (R Ex.ret [PV.int IntKind.i64 n_1, PV.list (List.map Ti.cs l_1) Tail.no, PV.ptr 0 0, PV.bool false, PV.ptr 1 0, PV.list (List.map pcs z_1) Tail.no, PV.int IntKind.i64 (↑i_1 : Int), PV.int IntKind.i64 (↑j_1 : Int)] [Ob.cells [PV.int IntKind.i64 (Mo.K m_1), PV.int IntKind.i64 (Mo.Base m_1), PV.int IntKind.i64 (Mo.Step m_1), PV.int IntKind.i64 (Mo.Cap m_1), PV.int IntKind.i64 (Mo.Every m_1)], Ob.cells [PV.list (List.map pcs X_1) Tail.no, PV.list (List.map pcs Y_1) Tail.no], Ob.dead, Ob.tok, Ob.cells [PV.int IntKind.u32 (Ti.Id (List.getD l_1 (List.getD z_1 j_1 0) Ti.zero)), PV.int IntKind.i64 (Ti.Mode (List.getD l_1 (List.getD z_1 j_1 0) Ti.zero)), PV.list (en1 IntKind.u32 (Ti.Ps (List.getD l_1 (List.getD z_1 j_1 0) Ti.zero))) (Ti.Pt (List.getD l_1 (List.getD z_1 j_1 0) Ti.zero)), PV.int IntKind.i64 (Ti.Rating (List.getD l_1 (List.getD z_1 j_1 0) Ti.zero)), PV.int IntKind.i64 (Ti.Since (List.getD l_1 (List.getD z_1 j_1 0) Ti.zero))], Ob.cells [PV.int IntKind.u32 (Ti.Id (List.getD l_1 (List.getD z_1 i_1 0) Ti.zero)), PV.int IntKind.i64 (Ti.Mode (List.getD l_1 (List.getD z_1 i_1 0) Ti.zero)), PV.list (en1 IntKind.u32 (Ti.Ps (List.getD l_1 (List.getD z_1 i_1 0) Ti.zero))) (Ti.Pt (List.getD l_1 (List.getD z_1 i_1 0) Ti.zero)), PV.int IntKind.i64 (Ti.Rating (List.getD l_1 (List.getD z_1 i_1 0) Ti.zero)), PV.int IntKind.i64 (Ti.Since (List.getD l_1 (List.getD z_1 i_1 0) Ti.zero))]])) False) False) (R (Ex.exit 2) [PV.int IntKind.i64 n, PV.list (List.map Ti.cs l) Tail.no, PV.ptr 0 0, PV.bool false, PV.ptr 1 0, PV.list (List.map pcs z) Tail.no, PV.int IntKind.i64 (↑i : Int), PV.int IntKind.i64 (↑j : Int)] [Ob.cells [PV.int IntKind.i64 (Mo.K m), PV.int IntKind.i64 (Mo.Base m), PV.int IntKind.i64 (Mo.Step m), PV.int IntKind.i64 (Mo.Cap m), PV.int IntKind.i64 (Mo.Every m)], Ob.cells [PV.list (List.map pcs X) Tail.no, PV.list (List.map pcs Y) Tail.no], Ob.dead, Ob.tok])) : Holds (wpc br Try.prog gl TC [([1, 0, 0, 0], lq_l)] (fun _ => 0) (subOf [1, 1, 1, 1, 1, 1, 1, 1, 1, 0, 1, 0, 0, 1, 0, 0, 1, 0] (bodyOf Try.f5)) [] (envS [1, 2, 3, 6, 8, 14, 15, 16] [.int .i64 n, .list (l.map Ti.cs) .no, .ptr 0 0, .bool false, .ptr 1 0, .list (z.map pcs) .no, .int .i64 i, .int .i64 j]) [.cells m.cs, .cells (sp2 X Y), .dead, .tok] (fun ex e H => R ex (List.map e [1, 2, 3, 6, 8, 14, 15, 16]) H)) := holds_of_eq (lgi_red m n l X Y z i j R) h
structure Good (m : Mo) (n : Int) (l : List Ti) (z : List Nat) : Prop where
  now : in64 n
  ls : LsOk l
  len : z.length ≤ 100
  lt : ∀ k ∈ z, k < l.length
  near : z.Pairwise (fun i k => i ≠ k ∧ nearT m n (l.getD k Ti.zero) (l.getD i Ti.zero) = true)
def li_l : LSp := fun e H Q => ∃ (m : Mo) (n : Int) (l : List Ti) (X Y : List Nat) (z : List Nat) (i : Nat), Good m n l z ∧ i < z.length ∧ SlIs (List.map e [1, 2, 3, 6, 8, 14, 15, 16]) [.int .i64 n, .list (l.map Ti.cs) .no, .ptr 0 0, .bool false, .ptr 1 0, .list (z.map pcs) .no, .int .i64 i, .int .i64 0] ∧ HpIs H ([.cells m.cs, .cells (sp2 X Y), .dead, .tok] : Heap) ∧
  Q (.exit 2) (envS [1, 2, 3, 6, 8, 14, 15, 16] [.int .i64 n, .list (l.map Ti.cs) .no, .ptr 0 0, .bool false, .ptr 1 0, .list (z.map pcs) .no, .int .i64 i, .int .i64 i]) ([.cells m.cs, .cells (sp2 X Y), .dead, .tok] : Heap)
theorem low_hb {k : Nat} {m : Mo} {X Y : List Nat} : ∀ (o : Nat) cs, ([.cells m.cs, .cells (sp2 X Y), .dead, .tok] : Heap)[o]? = some (.cells cs) → ∀ x ∈ cs, Low k x := by
  intro o cs ho
  match o, ho with
  | 0, ho => cases ho; exact low_mo m
  | 1, ho => cases ho; exact low_sp X Y
  | 2, ho => cases ho
  | 3, ho => cases ho
  | o + 4, ho => cases ho
theorem li_l_ok : ∀ e H Q, li_l e H Q → AW Try.prog gl Try.f5.ntmps (.loop (subOf [1, 1, 1, 1, 1, 1, 1, 1, 1, 0, 1, 0, 0, 1, 0, 0, 1, 0] (bodyOf Try.f5))) Q e H := by
  rintro e H Q ⟨m, n, l, X, Y, z, i, gd, hi, he, hH, hQ⟩
  have hlen := gd.len
  have hn := gd.now
  refine aw_loop4 (hn := fun _ => 0) gl_low TC_ok (.cons (at_of (by kernel_rfl)) lq_l_ok2 (.nil _ _ _ _ _)) (σ := Nat) [1, 2, 3, 6, 8, 14, 15, 16] (fun j => j ≤ i)
    (fun j => [.int .i64 n, .list (l.map Ti.cs) .no, .ptr 0 0, .bool false, .ptr 1 0, .list (z.map pcs) .no, .int .i64 i, .int .i64 j]) (fun _ => ([.cells m.cs, .cells (sp2 X Y), .dead, .tok] : Heap)) (fun j => i - j) 0 (Nat.zero_le _) he hH ?_
  intro j h1
  refine lgi_vc m n l X Y z i j _ ?_
  simp only [br_if, dt, bf, beq_If, toNat_nat, inL_p]
  by_cases h : j < i
  · rw [if_pos (by omega)]
    have hj : j < z.length := by omega
    have m1 := gd.ls.mem (gd.lt _ (getD_mem (d := 0) hi))
    have m2 := gd.ls.mem (gd.lt _ (getD_mem (d := 0) hj))
    have hg : z.getD j 0 ≠ z.getD i 0 ∧ nearT m n (l.getD (z.getD i 0) Ti.zero) (l.getD (z.getD j 0) Ti.zero) = true := by
      have := List.pairwise_iff_getElem.1 gd.near j i hj hi h
      rw [List.getD_eq_getElem?_getD (l := z), List.getD_eq_getElem?_getD (l := z), List.getElem?_eq_getElem hj, List.getElem?_eq_getElem hi]; exact this
    have hne := hg.1
    have nx : ∀ G : Heap, loopR Q [1, 2, 3, 6, 8, 14, 15, 16] (fun j => j ≤ i) (fun j => [.int .i64 n, .list (l.map Ti.cs) .no, .ptr 0 0, .bool false, .ptr 1 0, .list (z.map pcs) .no, .int .i64 i, .int .i64 j]) (fun _ => ([.cells m.cs, .cells (sp2 X Y), .dead, .tok] : Heap)) (fun j => i - j) j .normal [.int .i64 n, .list (l.map Ti.cs) .no, .ptr 0 0, .bool false, .ptr 1 0, .list (z.map pcs) .no, .int .i64 i, .int .i64 (wI ((j : Int) + 1))] (([.cells m.cs, .cells (sp2 X Y), .dead, .tok] : Heap) ++ G) := by
      intro G
      refine ⟨j + 1, (show i - (j + 1) < i - j by omega), h, by rw [wI_succ h (by omega)], G, rfl, Nat.le_refl _, .inr ⟨?_, low_hb⟩⟩
      intro v hv
      simp only [List.mem_cons, List.not_mem_nil, or_false] at hv
      rcases hv with rfl | rfl | rfl | rfl | rfl | rfl | rfl | rfl <;> first | exact .int _ _ | exact .bool _ | exact .ptr _ _ (by simp) | exact low_list NT.no (low_p _) | exact low_list NT.no (low_ls gd.ls)
    refine ⟨m, n, l, X, Y, z, i, j, hi, hj, gd.lt, rfl, rfl, ?_, ?_⟩
    · simp only [getD_map 0 hi, getD_map 0 hj, pcs_f, pcs_c]
      refine ⟨hi, ?_⟩
      rw [if_pos (by rfl : (true && true) = true)]
      refine ⟨hj, ?_⟩
      rw [if_pos (by rfl : (true && true) = true), if_pos (by omega)]
      refine ⟨m, rfl, hn, m1.2.2, waitS_le _ _, m, rfl, hn, m2.2.2, waitS_le _ _, ?_⟩
      have hne' : nearS (l.getD (z.getD i 0) Ti.zero).Rating (winM m (waitS n (l.getD (z.getD i 0) Ti.zero).Since)) (l.getD (z.getD j 0) Ti.zero).Rating (winM m (waitS n (l.getD (z.getD j 0) Ti.zero).Since)) = true := hg.2
      rw [if_neg (by rw [hne']; decide)]
      exact nx _
    · simp only [getD_map 0 hi, getD_map 0 hj, pcs_f, pcs_c]
      refine ⟨hi, ?_⟩
      rw [if_pos (by rfl : (true && true) = true)]
      refine ⟨hj, ?_⟩
      rw [if_pos (by rfl : (true && true) = true), if_pos (by omega)]
      refine ⟨m, rfl, hn, m1.2.2, waitS_le _ _, m, rfl, hn, m2.2.2, waitS_le _ _, ?_⟩
      have hne' : nearS (l.getD (z.getD i 0) Ti.zero).Rating (winM m (waitS n (l.getD (z.getD i 0) Ti.zero).Since)) (l.getD (z.getD j 0) Ti.zero).Rating (winM m (waitS n (l.getD (z.getD j 0) Ti.zero).Since)) = true := hg.2
      rw [if_neg (by rw [hne']; decide)]
      exact nx _
  · rw [if_neg (by omega)]
    have : j = i := by have : j ≤ i := h1; omega
    subst this
    exact hQ
theorem li_sub : subOf [1, 1, 1, 1, 1, 1, 1, 1, 1, 0, 1, 0, 0, 1, 0, 0, 1, 0] (bodyOf Try.f5) = subOf [1, 0, 0, 1, 0] (subOf [1, 1, 1, 1, 1, 1, 1, 1, 1, 0, 1, 0] (bodyOf Try.f5)) := by kernel_rfl
theorem li_l_ok2 : ∀ e H Q, li_l e H Q → AW Try.prog gl Try.f5.ntmps (.loop (subOf [1, 0, 0, 1, 0] (subOf [1, 1, 1, 1, 1, 1, 1, 1, 1, 0, 1, 0] (bodyOf Try.f5)))) Q e H := by
  rw [← li_sub]; exact li_l_ok
theorem lgo_red (m : Mo) (n : Int) (l : List Ti) (X Y : List Nat) (z : List Nat) (i : Nat) (R : Ex → List PV → Heap → Prop) : (br (decide ((↑i : Int) < (↑(List.length (List.map pcs z)) : Int))) (∃ (m_1 : Mo), ∃ (n_1 : Int), ∃ (l_1 : List Ti), ∃ (X_1 : List Nat), ∃ (Y_1 : List Nat), ∃ (z_1 : List Nat), ∃ (i_1 : Nat), Good m_1 n_1 l_1 z_1 ∧ i_1 < List.length z_1 ∧ SlIs [PV.int IntKind.i64 n, PV.list (List.map Ti.cs l) Tail.no, PV.ptr 0 0, PV.bool false, PV.ptr 1 0, PV.list (List.map pcs z) Tail.no, PV.int IntKind.i64 (↑i : Int), PV.int IntKind.i64 0] [PV.int IntKind.i64 n_1, PV.list (List.map Ti.cs l_1) Tail.no, PV.ptr 0 0, PV.bool false, PV.ptr 1 0, PV.list (List.map pcs z_1) Tail.no, PV.int IntKind.i64 (↑i_1 : Int), PV.int IntKind.i64 0] ∧ HpIs [Ob.cells [PV.int IntKind.i64 (Mo.K m), PV.int IntKind.i64 (Mo.Base m), PV.int IntKind.i64 (Mo.Step m), PV.int IntKind.i64 (Mo.Cap m), PV.int IntKind.i64 (Mo.Every m)], Ob.cells [PV.list (List.map pcs X) Tail.no, PV.list (List.map pcs Y) Tail.no], Ob.dead, Ob.tok] [Ob.cells [PV.int IntKind.i64 (Mo.K m_1), PV.int IntKind.i64 (Mo.Base m_1), PV.int IntKind.i64 (Mo.Step m_1), PV.int IntKind.i64 (Mo.Cap m_1), PV.int IntKind.i64 (Mo.Every m_1)], Ob.cells [PV.list (List.map pcs X_1) Tail.no, PV.list (List.map pcs Y_1) Tail.no], Ob.dead, Ob.tok] ∧ R Ex.normal [PV.int IntKind.i64 n_1, PV.list (List.map Ti.cs l_1) Tail.no, PV.ptr 0 0, PV.bool false, PV.ptr 1 0, PV.list (List.map pcs z_1) Tail.no, PV.int IntKind.i64 (wI ((↑i_1 : Int) + 1))] [Ob.cells [PV.int IntKind.i64 (Mo.K m_1), PV.int IntKind.i64 (Mo.Base m_1), PV.int IntKind.i64 (Mo.Step m_1), PV.int IntKind.i64 (Mo.Cap m_1), PV.int IntKind.i64 (Mo.Every m_1)], Ob.cells [PV.list (List.map pcs X_1) Tail.no, PV.list (List.map pcs Y_1) Tail.no], Ob.dead, Ob.tok]) (R (Ex.exit 0) [PV.int IntKind.i64 n, PV.list (List.map Ti.cs l) Tail.no, PV.ptr 0 0, PV.bool false, PV.ptr 1 0, PV.list (List.map pcs z) Tail.no, PV.int IntKind.i64 (↑i : Int)] [Ob.cells [PV.int IntKind.i64 (Mo.K m), PV.int IntKind.i64 (Mo.Base m), PV.int IntKind.i64 (Mo.Step m), PV.int IntKind.i64 (Mo.Cap m), PV.int IntKind.i64 (Mo.Every m)], Ob.cells [PV.list (List.map pcs X) Tail.no, PV.list (List.map pcs Y) Tail.no], Ob.dead, Ob.tok])) = wpc br Try.prog gl TC [([1, 0, 0, 1, 0], li_l)] (fun _ => 0) (subOf [1, 1, 1, 1, 1, 1, 1, 1, 1, 0, 1, 0] (bodyOf Try.f5)) [] (envS [1, 2, 3, 6, 8, 14, 15] [.int .i64 n, .list (l.map Ti.cs) .no, .ptr 0 0, .bool false, .ptr 1 0, .list (z.map pcs) .no, .int .i64 i]) [.cells m.cs, .cells (sp2 X Y), .dead, .tok] (fun ex e H => R ex (List.map e [1, 2, 3, 6, 8, 14, 15]) H) := by kernel_rfl
theorem lgo_vc (m : Mo) (n : Int) (l : List Ti) (X Y : List Nat) (z : List Nat) (i : Nat) (R : Ex → List PV → Heap → Prop) (h : br (decide ((↑i : Int) < (↑(List.length (List.map pcs z)) : Int))) (∃ (m_1 : Mo), ∃ (n_1 : Int), ∃ (l_1 : List Ti), ∃ (X_1 : List Nat), ∃ (Y_1 : List Nat), ∃ (z_1 : List Nat), ∃ (i_1 : Nat), Good m_1 n_1 l_1 z_1 ∧ i_1 < List.length z_1 ∧ SlIs [PV.int IntKind.i64 n, PV.list (List.map Ti.cs l) Tail.no, PV.ptr 0 0, PV.bool false, PV.ptr 1 0, PV.list (List.map pcs z) Tail.no, PV.int IntKind.i64 (↑i : Int), PV.int IntKind.i64 0] [PV.int IntKind.i64 n_1, PV.list (List.map Ti.cs l_1) Tail.no, PV.ptr 0 0, PV.bool false, PV.ptr 1 0, PV.list (List.map pcs z_1) Tail.no, PV.int IntKind.i64 (↑i_1 : Int), PV.int IntKind.i64 0] ∧ HpIs [Ob.cells [PV.int IntKind.i64 (Mo.K m), PV.int IntKind.i64 (Mo.Base m), PV.int IntKind.i64 (Mo.Step m), PV.int IntKind.i64 (Mo.Cap m), PV.int IntKind.i64 (Mo.Every m)], Ob.cells [PV.list (List.map pcs X) Tail.no, PV.list (List.map pcs Y) Tail.no], Ob.dead, Ob.tok] [Ob.cells [PV.int IntKind.i64 (Mo.K m_1), PV.int IntKind.i64 (Mo.Base m_1), PV.int IntKind.i64 (Mo.Step m_1), PV.int IntKind.i64 (Mo.Cap m_1), PV.int IntKind.i64 (Mo.Every m_1)], Ob.cells [PV.list (List.map pcs X_1) Tail.no, PV.list (List.map pcs Y_1) Tail.no], Ob.dead, Ob.tok] ∧ R Ex.normal [PV.int IntKind.i64 n_1, PV.list (List.map Ti.cs l_1) Tail.no, PV.ptr 0 0, PV.bool false, PV.ptr 1 0, PV.list (List.map pcs z_1) Tail.no, PV.int IntKind.i64 (wI ((↑i_1 : Int) + 1))] [Ob.cells [PV.int IntKind.i64 (Mo.K m_1), PV.int IntKind.i64 (Mo.Base m_1), PV.int IntKind.i64 (Mo.Step m_1), PV.int IntKind.i64 (Mo.Cap m_1), PV.int IntKind.i64 (Mo.Every m_1)], Ob.cells [PV.list (List.map pcs X_1) Tail.no, PV.list (List.map pcs Y_1) Tail.no], Ob.dead, Ob.tok]) (R (Ex.exit 0) [PV.int IntKind.i64 n, PV.list (List.map Ti.cs l) Tail.no, PV.ptr 0 0, PV.bool false, PV.ptr 1 0, PV.list (List.map pcs z) Tail.no, PV.int IntKind.i64 (↑i : Int)] [Ob.cells [PV.int IntKind.i64 (Mo.K m), PV.int IntKind.i64 (Mo.Base m), PV.int IntKind.i64 (Mo.Step m), PV.int IntKind.i64 (Mo.Cap m), PV.int IntKind.i64 (Mo.Every m)], Ob.cells [PV.list (List.map pcs X) Tail.no, PV.list (List.map pcs Y) Tail.no], Ob.dead, Ob.tok])) : Holds (wpc br Try.prog gl TC [([1, 0, 0, 1, 0], li_l)] (fun _ => 0) (subOf [1, 1, 1, 1, 1, 1, 1, 1, 1, 0, 1, 0] (bodyOf Try.f5)) [] (envS [1, 2, 3, 6, 8, 14, 15] [.int .i64 n, .list (l.map Ti.cs) .no, .ptr 0 0, .bool false, .ptr 1 0, .list (z.map pcs) .no, .int .i64 i]) [.cells m.cs, .cells (sp2 X Y), .dead, .tok] (fun ex e H => R ex (List.map e [1, 2, 3, 6, 8, 14, 15]) H)) := holds_of_eq (lgo_red m n l X Y z i R) h
def lo_l : LSp := fun e H Q => ∃ (m : Mo) (n : Int) (l : List Ti) (X Y : List Nat) (z : List Nat), Good m n l z ∧ SlIs (List.map e [1, 2, 3, 6, 8, 14, 15]) [.int .i64 n, .list (l.map Ti.cs) .no, .ptr 0 0, .bool false, .ptr 1 0, .list (z.map pcs) .no, .int .i64 0] ∧ HpIs H ([.cells m.cs, .cells (sp2 X Y), .dead, .tok] : Heap) ∧
  Q (.exit 0) (envS [1, 2, 3, 6, 8, 14, 15] [.int .i64 n, .list (l.map Ti.cs) .no, .ptr 0 0, .bool false, .ptr 1 0, .list (z.map pcs) .no, .int .i64 z.length]) ([.cells m.cs, .cells (sp2 X Y), .dead, .tok] : Heap)
theorem lo_l_ok : ∀ e H Q, lo_l e H Q → AW Try.prog gl Try.f5.ntmps (.loop (subOf [1, 1, 1, 1, 1, 1, 1, 1, 1, 0, 1, 0] (bodyOf Try.f5))) Q e H := by
  rintro e H Q ⟨m, n, l, X, Y, z, gd, he, hH, hQ⟩
  have hlen := gd.len
  refine aw_loop4 (hn := fun _ => 0) gl_low TC_ok (.cons (sub_of (by kernel_rfl)) li_l_ok2 (.nil _ _ _ _ _)) (σ := Nat) [1, 2, 3, 6, 8, 14, 15] (fun i => i ≤ z.length)
    (fun i => [.int .i64 n, .list (l.map Ti.cs) .no, .ptr 0 0, .bool false, .ptr 1 0, .list (z.map pcs) .no, .int .i64 i]) (fun _ => ([.cells m.cs, .cells (sp2 X Y), .dead, .tok] : Heap)) (fun i => z.length - i) 0 (Nat.zero_le _) he hH ?_
  intro i h1
  refine lgo_vc m n l X Y z i _ ?_
  simp only [br_if, dt, List.length_map]
  by_cases h : i < z.length
  · rw [if_pos (by omega)]
    exact ⟨m, n, l, X, Y, z, i, gd, h, rfl, rfl, i + 1, (show z.length - (i + 1) < z.length - i by omega), h, by rw [wI_succ h (by omega)], [], rfl, Nat.le_refl _, .inl rfl⟩
  · rw [if_neg (by omega)]
    have : i = z.length := by have : i ≤ z.length := h1; omega
    subst this
    exact hQ
theorem lLegal_red (m : Mo) (n : Int) (l : List Ti) (K : PV → Prop) : (br (decide ((↑(List.length (List.map Ti.cs l)) : Int) > 16) == false) (∃ (l_1 : List Ti), ∃ (u : Tail), SlIs [PV.list (List.map Ti.cs l) Tail.no] [PV.list (List.map Ti.cs l_1) u] ∧ List.length l_1 ≤ 20 ∧ (∀ (t : Ti), t ∈ l_1 → NT (Ti.Pt t)) ∧ br (!smallS l_1) (K (PV.bool true)) (∃ (l_2 : List Ti), ∃ (u : Tail), SlIs [PV.list (List.map Ti.cs l) Tail.no] [PV.list (List.map Ti.cs l_2) u] ∧ PtNo l_2 ∧ ∃ (m_1 : Mo), SlIs [PV.agg [PV.int IntKind.i64 (Mo.K m), PV.int IntKind.i64 (Mo.Base m), PV.int IntKind.i64 (Mo.Step m), PV.int IntKind.i64 (Mo.Cap m), PV.int IntKind.i64 (Mo.Every m)]] [PV.agg [PV.int IntKind.i64 (Mo.K m_1), PV.int IntKind.i64 (Mo.Base m_1), PV.int IntKind.i64 (Mo.Step m_1), PV.int IntKind.i64 (Mo.Cap m_1), PV.int IntKind.i64 (Mo.Every m_1)]] ∧ ∃ (m_2 : Mo), ∃ (n_1 : Int), ∃ (l_3 : List Ti), ∃ (u : Tail), SlIs [PV.agg [PV.int IntKind.i64 (Mo.K m_1), PV.int IntKind.i64 (Mo.Base m_1), PV.int IntKind.i64 (Mo.Step m_1), PV.int IntKind.i64 (Mo.Cap m_1), PV.int IntKind.i64 (Mo.Every m_1)], PV.int IntKind.i64 n, PV.list (List.map Ti.cs l_2) Tail.no] [PV.agg [PV.int IntKind.i64 (Mo.K m_2), PV.int IntKind.i64 (Mo.Base m_2), PV.int IntKind.i64 (Mo.Step m_2), PV.int IntKind.i64 (Mo.Cap m_2), PV.int IntKind.i64 (Mo.Every m_2)], PV.int IntKind.i64 n_1, PV.list (List.map Ti.cs l_3) u] ∧ in64 n_1 ∧ LsOk l_3 ∧ br (!Option.isSome (findS m_2 n_1 l_3)) (br ((wI ((↑(List.length (List.map pcs (tmA (findS m_2 n_1 l_3)))) : Int) + (↑(List.length (List.map pcs (tmB (findS m_2 n_1 l_3)))) : Int)) == 0) == true) (K (PV.bool true)) (K (PV.bool false))) (∃ (l_4 : List Ti), ∃ (x : List Nat), ∃ (u : Tail), ∃ (v : Tail), SlIs [PV.list (List.map Ti.cs l_2) Tail.no, PV.list (List.map pcs (tmA (findS m_2 n_1 l_3))) Tail.no] [PV.list (List.map Ti.cs l_4) u, PV.list (List.map pcs x) v] ∧ LsOk l_4 ∧ Places l_4 x ∧ List.length x ≤ 100 ∧ ∃ (l_5 : List Ti), ∃ (x_1 : List Nat), ∃ (u : Tail), ∃ (v : Tail), SlIs [PV.list (List.map Ti.cs l_2) Tail.no, PV.list (List.map pcs (tmB (findS m_2 n_1 l_3))) Tail.no] [PV.list (List.map Ti.cs l_5) u, PV.list (List.map pcs x_1) v] ∧ LsOk l_5 ∧ Places l_5 x_1 ∧ List.length x_1 ≤ 100 ∧ br ((sumP (pnL l_4) x != Mo.K m) == false) (br (sumP (pnL l_5) x_1 != Mo.K m) (K (PV.bool false)) (∃ (m_3 : Mo), ∃ (n_2 : Int), ∃ (l_6 : List Ti), ∃ (X : List Nat), ∃ (Y : List Nat), X ≠ [] ∧ Y ≠ [] ∧ List.length X + List.length Y ≤ 100 ∧ SlIs [PV.int IntKind.i64 n, PV.list (List.map Ti.cs l) Tail.no, PV.ptr 0 0, PV.bool false, PV.ptr 1 0] [PV.int IntKind.i64 n_2, PV.list (List.map Ti.cs l_6) Tail.no, PV.ptr 0 0, PV.bool false, PV.ptr 1 0] ∧ HpIs [Ob.cells [PV.int IntKind.i64 (Mo.K m), PV.int IntKind.i64 (Mo.Base m), PV.int IntKind.i64 (Mo.Step m), PV.int IntKind.i64 (Mo.Cap m), PV.int IntKind.i64 (Mo.Every m)], Ob.cells [PV.list (List.map pcs (tmA (findS m_2 n_1 l_3))) Tail.no, PV.list (List.map pcs (tmB (findS m_2 n_1 l_3))) Tail.no]] [Ob.cells [PV.int IntKind.i64 (Mo.K m_3), PV.int IntKind.i64 (Mo.Base m_3), PV.int IntKind.i64 (Mo.Step m_3), PV.int IntKind.i64 (Mo.Cap m_3), PV.int IntKind.i64 (Mo.Every m_3)], Ob.cells [PV.list (List.map pcs X) Tail.no, PV.list (List.map pcs Y) Tail.no]] ∧ ∃ (m : Mo), ∃ (n : Int), ∃ (l : List Ti), ∃ (X_1 : List Nat), ∃ (Y_1 : List Nat), ∃ (z : List Nat), Good m n l z ∧ SlIs [PV.int IntKind.i64 n_2, PV.list (List.map Ti.cs l_6) Tail.no, PV.ptr 0 0, PV.bool false, PV.ptr 1 0, PV.list (List.map pcs (X ++ Y)) Tail.no, PV.int IntKind.i64 0] [PV.int IntKind.i64 n, PV.list (List.map Ti.cs l) Tail.no, PV.ptr 0 0, PV.bool false, PV.ptr 1 0, PV.list (List.map pcs z) Tail.no, PV.int IntKind.i64 0] ∧ HpIs [Ob.cells [PV.int IntKind.i64 (Mo.K m_3), PV.int IntKind.i64 (Mo.Base m_3), PV.int IntKind.i64 (Mo.Step m_3), PV.int IntKind.i64 (Mo.Cap m_3), PV.int IntKind.i64 (Mo.Every m_3)], Ob.cells [PV.list (List.map pcs X) Tail.no, PV.list (List.map pcs Y) Tail.no], Ob.dead, Ob.tok] [Ob.cells [PV.int IntKind.i64 (Mo.K m), PV.int IntKind.i64 (Mo.Base m), PV.int IntKind.i64 (Mo.Step m), PV.int IntKind.i64 (Mo.Cap m), PV.int IntKind.i64 (Mo.Every m)], Ob.cells [PV.list (List.map pcs X_1) Tail.no, PV.list (List.map pcs Y_1) Tail.no], Ob.dead, Ob.tok] ∧ InL (List.map pcs X_1) 1 0 ∧ br (true && fitX [CK.int IntKind.i64] 0 (List.getD (List.map pcs X_1) 0 [])) (InL (List.map pcs Y_1) 1 0 ∧ br (true && fitX [CK.int IntKind.i64] 0 (List.getD (List.map pcs Y_1) 0 [])) (br (decide (cI (List.getD (List.map pcs X_1) 0 []) 0 < cI (List.getD (List.map pcs Y_1) 0 []) 0) == true) (K (PV.bool true)) (K (PV.bool false))) False) False)) (K (PV.bool false))))) (K (PV.bool true))) = wpc br Try.prog gl TC [([1, 1, 1, 1, 1, 1, 1, 1, 0], lg_l), ([1, 1, 1, 1, 1, 1, 1, 1, 1, 0, 1, 0], lo_l)] (fun _ => 0) (bodyOf Try.f5) [] (env0 [m.pv, .int .i64 n, .list (l.map Ti.cs) .no]) [] (resQ Try.prog Try.f5.results.toList (fun x _ => K x)) := by kernel_rfl
theorem lLegal_vc (m : Mo) (n : Int) (l : List Ti)  (K : PV → Prop) (h : br (decide ((↑(List.length (List.map Ti.cs l)) : Int) > 16) == false) (∃ (l_1 : List Ti), ∃ (u : Tail), SlIs [PV.list (List.map Ti.cs l) Tail.no] [PV.list (List.map Ti.cs l_1) u] ∧ List.length l_1 ≤ 20 ∧ (∀ (t : Ti), t ∈ l_1 → NT (Ti.Pt t)) ∧ br (!smallS l_1) (K (PV.bool true)) (∃ (l_2 : List Ti), ∃ (u : Tail), SlIs [PV.list (List.map Ti.cs l) Tail.no] [PV.list (List.map Ti.cs l_2) u] ∧ PtNo l_2 ∧ ∃ (m_1 : Mo), SlIs [PV.agg [PV.int IntKind.i64 (Mo.K m), PV.int IntKind.i64 (Mo.Base m), PV.int IntKind.i64 (Mo.Step m), PV.int IntKind.i64 (Mo.Cap m), PV.int IntKind.i64 (Mo.Every m)]] [PV.agg [PV.int IntKind.i64 (Mo.K m_1), PV.int IntKind.i64 (Mo.Base m_1), PV.int IntKind.i64 (Mo.Step m_1), PV.int IntKind.i64 (Mo.Cap m_1), PV.int IntKind.i64 (Mo.Every m_1)]] ∧ ∃ (m_2 : Mo), ∃ (n_1 : Int), ∃ (l_3 : List Ti), ∃ (u : Tail), SlIs [PV.agg [PV.int IntKind.i64 (Mo.K m_1), PV.int IntKind.i64 (Mo.Base m_1), PV.int IntKind.i64 (Mo.Step m_1), PV.int IntKind.i64 (Mo.Cap m_1), PV.int IntKind.i64 (Mo.Every m_1)], PV.int IntKind.i64 n, PV.list (List.map Ti.cs l_2) Tail.no] [PV.agg [PV.int IntKind.i64 (Mo.K m_2), PV.int IntKind.i64 (Mo.Base m_2), PV.int IntKind.i64 (Mo.Step m_2), PV.int IntKind.i64 (Mo.Cap m_2), PV.int IntKind.i64 (Mo.Every m_2)], PV.int IntKind.i64 n_1, PV.list (List.map Ti.cs l_3) u] ∧ in64 n_1 ∧ LsOk l_3 ∧ br (!Option.isSome (findS m_2 n_1 l_3)) (br ((wI ((↑(List.length (List.map pcs (tmA (findS m_2 n_1 l_3)))) : Int) + (↑(List.length (List.map pcs (tmB (findS m_2 n_1 l_3)))) : Int)) == 0) == true) (K (PV.bool true)) (K (PV.bool false))) (∃ (l_4 : List Ti), ∃ (x : List Nat), ∃ (u : Tail), ∃ (v : Tail), SlIs [PV.list (List.map Ti.cs l_2) Tail.no, PV.list (List.map pcs (tmA (findS m_2 n_1 l_3))) Tail.no] [PV.list (List.map Ti.cs l_4) u, PV.list (List.map pcs x) v] ∧ LsOk l_4 ∧ Places l_4 x ∧ List.length x ≤ 100 ∧ ∃ (l_5 : List Ti), ∃ (x_1 : List Nat), ∃ (u : Tail), ∃ (v : Tail), SlIs [PV.list (List.map Ti.cs l_2) Tail.no, PV.list (List.map pcs (tmB (findS m_2 n_1 l_3))) Tail.no] [PV.list (List.map Ti.cs l_5) u, PV.list (List.map pcs x_1) v] ∧ LsOk l_5 ∧ Places l_5 x_1 ∧ List.length x_1 ≤ 100 ∧ br ((sumP (pnL l_4) x != Mo.K m) == false) (br (sumP (pnL l_5) x_1 != Mo.K m) (K (PV.bool false)) (∃ (m_3 : Mo), ∃ (n_2 : Int), ∃ (l_6 : List Ti), ∃ (X : List Nat), ∃ (Y : List Nat), X ≠ [] ∧ Y ≠ [] ∧ List.length X + List.length Y ≤ 100 ∧ SlIs [PV.int IntKind.i64 n, PV.list (List.map Ti.cs l) Tail.no, PV.ptr 0 0, PV.bool false, PV.ptr 1 0] [PV.int IntKind.i64 n_2, PV.list (List.map Ti.cs l_6) Tail.no, PV.ptr 0 0, PV.bool false, PV.ptr 1 0] ∧ HpIs [Ob.cells [PV.int IntKind.i64 (Mo.K m), PV.int IntKind.i64 (Mo.Base m), PV.int IntKind.i64 (Mo.Step m), PV.int IntKind.i64 (Mo.Cap m), PV.int IntKind.i64 (Mo.Every m)], Ob.cells [PV.list (List.map pcs (tmA (findS m_2 n_1 l_3))) Tail.no, PV.list (List.map pcs (tmB (findS m_2 n_1 l_3))) Tail.no]] [Ob.cells [PV.int IntKind.i64 (Mo.K m_3), PV.int IntKind.i64 (Mo.Base m_3), PV.int IntKind.i64 (Mo.Step m_3), PV.int IntKind.i64 (Mo.Cap m_3), PV.int IntKind.i64 (Mo.Every m_3)], Ob.cells [PV.list (List.map pcs X) Tail.no, PV.list (List.map pcs Y) Tail.no]] ∧ ∃ (m : Mo), ∃ (n : Int), ∃ (l : List Ti), ∃ (X_1 : List Nat), ∃ (Y_1 : List Nat), ∃ (z : List Nat), Good m n l z ∧ SlIs [PV.int IntKind.i64 n_2, PV.list (List.map Ti.cs l_6) Tail.no, PV.ptr 0 0, PV.bool false, PV.ptr 1 0, PV.list (List.map pcs (X ++ Y)) Tail.no, PV.int IntKind.i64 0] [PV.int IntKind.i64 n, PV.list (List.map Ti.cs l) Tail.no, PV.ptr 0 0, PV.bool false, PV.ptr 1 0, PV.list (List.map pcs z) Tail.no, PV.int IntKind.i64 0] ∧ HpIs [Ob.cells [PV.int IntKind.i64 (Mo.K m_3), PV.int IntKind.i64 (Mo.Base m_3), PV.int IntKind.i64 (Mo.Step m_3), PV.int IntKind.i64 (Mo.Cap m_3), PV.int IntKind.i64 (Mo.Every m_3)], Ob.cells [PV.list (List.map pcs X) Tail.no, PV.list (List.map pcs Y) Tail.no], Ob.dead, Ob.tok] [Ob.cells [PV.int IntKind.i64 (Mo.K m), PV.int IntKind.i64 (Mo.Base m), PV.int IntKind.i64 (Mo.Step m), PV.int IntKind.i64 (Mo.Cap m), PV.int IntKind.i64 (Mo.Every m)], Ob.cells [PV.list (List.map pcs X_1) Tail.no, PV.list (List.map pcs Y_1) Tail.no], Ob.dead, Ob.tok] ∧ InL (List.map pcs X_1) 1 0 ∧ br (true && fitX [CK.int IntKind.i64] 0 (List.getD (List.map pcs X_1) 0 [])) (InL (List.map pcs Y_1) 1 0 ∧ br (true && fitX [CK.int IntKind.i64] 0 (List.getD (List.map pcs Y_1) 0 [])) (br (decide (cI (List.getD (List.map pcs X_1) 0 []) 0 < cI (List.getD (List.map pcs Y_1) 0 []) 0) == true) (K (PV.bool true)) (K (PV.bool false))) False) False)) (K (PV.bool false))))) (K (PV.bool true))) : ACalls Try.prog gl 5 [m.pv, .int .i64 n, .list (l.map Ti.cs) .no] [] (fun x _ => K x) :=
  acalls_of_wpc2 (T := TC) (L := [([1, 1, 1, 1, 1, 1, 1, 1, 0], lg_l), ([1, 1, 1, 1, 1, 1, 1, 1, 1, 0, 1, 0], lo_l)]) (fun _ => 0) Try.func5 (by kernel_rfl) (by kernel_rfl) (by kernel_rfl) (TC_ok) (.cons (at_of (by kernel_rfl)) lg_l_ok (.cons (sub_of (by kernel_rfl)) lo_l_ok (.nil _ _ _ _ _))) (holds_of_eq (lLegal_red m n l K) h)
theorem find_tm {m : Mo} {n : Int} {l : List Ti} {r : List Nat × List Nat} (h : findS m n l = some r) : tmA (findS m n l) = r.1 ∧ tmB (findS m n l) = r.2 := by rw [h]; exact ⟨rfl, rfl⟩
theorem legal_law (m : Mo) (n : Int) (l : List Ti) (hn : in64 n) (h : LnOk l) {K : PV → Prop} (hk : K (.bool true)) : ACalls Try.prog gl 5 [m.pv, .int .i64 n, .list (l.map Ti.cs) .no] [] (fun x _ => K x) := by
  refine lLegal_vc m n l K ?_
  simp only [br_if, bf, df, dt, bt, bne_If, List.length_map]
  by_cases c : (l.length : Int) > 16
  · rw [if_neg (fun q => q c)]; exact hk
  rw [if_pos c]
  refine ⟨l, .no, rfl, by omega, nt_of h, ?_⟩
  by_cases hs : smallS l = true
  · rw [if_neg (by rw [hs]; decide)]
    obtain ⟨hp, hl⟩ := small_of h hs (by omega)
    refine ⟨l, .no, rfl, hp, m, rfl, m, n, l, .no, rfl, hn, hl, ?_⟩
    cases hf : findS m n l with
    | none =>
      rw [if_pos (by rfl), if_pos (by rfl)]
      exact hk
    | some r =>
      obtain ⟨bs, hm⟩ := match_of hf
      obtain ⟨pA, pE⟩ := hm.pA
      have hsm := find_small m n l
      rw [(find_tm hf).1, (find_tm hf).2] at hsm
      have hlen := hm.perm.length_eq
      rw [List.length_append] at hlen
      have hxl := (plB_small (v := true) hm.bl).1
      have h16 := hm.len
      obtain ⟨f1, f2, f3, _⟩ := hm.first
      have hA0 : 0 < r.1.length := List.length_pos_iff.2 f1
      have hE0 : 0 < r.2.length := List.length_pos_iff.2 f2
      rw [if_neg (show ¬ (!(some r).isSome) = true from Bool.false_ne_true)]
      refine ⟨l, r.1, .no, .no, rfl, hl, pA, hsm.1, l, r.2, .no, .no, rfl, hl, pE, hsm.2, ?_⟩
      rw [if_pos hm.sA, if_neg (by rw [bne_I]; exact fun q => q hm.sE)]
      refine ⟨m, n, l, r.1, r.2, f1, f2, by omega, rfl, rfl, m, n, l, r.1, r.2, r.1 ++ r.2, ⟨hn, hl, by rw [List.length_append]; omega, fun k hk => ?_, hm.near⟩, rfl, rfl, ?_⟩
      · rcases List.mem_append.1 hk with q | q
        · exact pA.lt k q
        · exact pE.lt k q
      · rw [show (0 : Int) = ((0 : Nat) : Int) from rfl]
        simp only [inL_p, getD_map 0 hA0, getD_map 0 hE0, pcs_f, pcs_c]
        refine ⟨hA0, ?_⟩
        rw [if_pos (by rfl : (true && true) = true)]
        refine ⟨hE0, ?_⟩
        rw [if_pos (by rfl : (true && true) = true), if_pos (by omega)]
        exact hk
  · rw [if_pos (by rw [Bool.eq_false_iff.2 hs]; rfl)]; exact hk
theorem legal_args (xs : List PV) (h : WTargs Try.prog 6 Try.f5.params.toList xs) : ACalls Try.prog gl 5 xs [] (fun x _ => x = .bool true) := by
  rw [Try.params5] at h
  obtain ⟨x, r, rfl, h1, y, r2, rfl, h2, z, r3, rfl, h3, h4⟩ := h
  obtain rfl := wtargs_nil h4
  obtain ⟨m, rfl⟩ := moa_of h1
  obtain ⟨n, rfl, hn⟩ := wta_int u2 h2
  obtain ⟨l, rfl, hl⟩ := tis_of h3
  exact legal_law m n l hn hl (K := fun x => x = .bool true) rfl
theorem noa_red (m : Mo) (n : Int) (s : Nat) (l : List Ti) (i : Nat) (R : Ex → List PV → Heap → Prop) : (br (decide ((↑i : Int) < (↑(List.length (List.map Ti.cs l)) : Int))) (br (Int.tmod (Int.fdiv (↑s : Int) (2 ^ min (Int.toNat (↑i : Int)) 16)) 2 == 1) (InL (List.map Ti.cs l) 5 (↑i : Int) ∧ br (true && fitX [CK.int IntKind.u32, CK.int IntKind.i64, CK.list, CK.int IntKind.i64, CK.int IntKind.i64] 0 (List.getD (List.map Ti.cs l) (Int.toNat (↑i : Int)) [])) (AppL [] [[PV.int IntKind.u32 (cI (List.getD (List.map Ti.cs l) (Int.toNat (↑i : Int)) []) 0), PV.int IntKind.i64 (cI (List.getD (List.map Ti.cs l) (Int.toNat (↑i : Int)) []) 1), PV.list (cL (List.getD (List.map Ti.cs l) (Int.toNat (↑i : Int)) []) 2) (cT (List.getD (List.map Ti.cs l) (Int.toNat (↑i : Int)) []) 2), PV.int IntKind.i64 (cI (List.getD (List.map Ti.cs l) (Int.toNat (↑i : Int)) []) 3), PV.int IntKind.i64 (cI (List.getD (List.map Ti.cs l) (Int.toNat (↑i : Int)) []) 4)]] 5 56 ∧ (List.all [PV.int IntKind.u32 (cI (List.getD (List.map Ti.cs l) (Int.toNat (↑i : Int)) []) 0), PV.int IntKind.i64 (cI (List.getD (List.map Ti.cs l) (Int.toNat (↑i : Int)) []) 1), PV.list (cL (List.getD (List.map Ti.cs l) (Int.toNat (↑i : Int)) []) 2) (cT (List.getD (List.map Ti.cs l) (Int.toNat (↑i : Int)) []) 2), PV.int IntKind.i64 (cI (List.getD (List.map Ti.cs l) (Int.toNat (↑i : Int)) []) 3), PV.int IntKind.i64 (cI (List.getD (List.map Ti.cs l) (Int.toNat (↑i : Int)) []) 4)] PV.one = true ∧ [[PV.int IntKind.u32 (cI (List.getD (List.map Ti.cs l) (Int.toNat (↑i : Int)) []) 0), PV.int IntKind.i64 (cI (List.getD (List.map Ti.cs l) (Int.toNat (↑i : Int)) []) 1), PV.list (cL (List.getD (List.map Ti.cs l) (Int.toNat (↑i : Int)) []) 2) (cT (List.getD (List.map Ti.cs l) (Int.toNat (↑i : Int)) []) 2), PV.int IntKind.i64 (cI (List.getD (List.map Ti.cs l) (Int.toNat (↑i : Int)) []) 3), PV.int IntKind.i64 (cI (List.getD (List.map Ti.cs l) (Int.toNat (↑i : Int)) []) 4)]] ≠ []) ∧ R Ex.normal [PV.list (List.map Ti.cs l) Tail.no, PV.ptr 0 0, PV.ptr 1 0, PV.bool false, PV.int IntKind.i64 n, PV.int IntKind.u16 (↑s : Int), PV.list (List.map Ti.cs l) Tail.no, PV.list [[PV.int IntKind.u32 (cI (List.getD (List.map Ti.cs l) (Int.toNat (↑i : Int)) []) 0), PV.int IntKind.i64 (cI (List.getD (List.map Ti.cs l) (Int.toNat (↑i : Int)) []) 1), PV.list (cL (List.getD (List.map Ti.cs l) (Int.toNat (↑i : Int)) []) 2) (cT (List.getD (List.map Ti.cs l) (Int.toNat (↑i : Int)) []) 2), PV.int IntKind.i64 (cI (List.getD (List.map Ti.cs l) (Int.toNat (↑i : Int)) []) 3), PV.int IntKind.i64 (cI (List.getD (List.map Ti.cs l) (Int.toNat (↑i : Int)) []) 4)]] (Tail.tok 2), PV.int IntKind.i64 (wI ((↑i : Int) + 1))] [Ob.cells [PV.int IntKind.i64 (Mo.K m), PV.int IntKind.i64 (Mo.Base m), PV.int IntKind.i64 (Mo.Step m), PV.int IntKind.i64 (Mo.Cap m), PV.int IntKind.i64 (Mo.Every m)], Ob.cells [PV.int IntKind.i64 n, PV.int IntKind.u16 (↑s : Int)], Ob.tok]) False) (R Ex.normal [PV.list (List.map Ti.cs l) Tail.no, PV.ptr 0 0, PV.ptr 1 0, PV.bool false, PV.int IntKind.i64 n, PV.int IntKind.u16 (↑s : Int), PV.list (List.map Ti.cs l) Tail.no, PV.list [] Tail.exact, PV.int IntKind.i64 (wI ((↑i : Int) + 1))] [Ob.cells [PV.int IntKind.i64 (Mo.K m), PV.int IntKind.i64 (Mo.Base m), PV.int IntKind.i64 (Mo.Step m), PV.int IntKind.i64 (Mo.Cap m), PV.int IntKind.i64 (Mo.Every m)], Ob.cells [PV.int IntKind.i64 n, PV.int IntKind.u16 (↑s : Int)]])) (R (Ex.exit 0) [PV.list (List.map Ti.cs l) Tail.no, PV.ptr 0 0, PV.ptr 1 0, PV.bool false, PV.int IntKind.i64 n, PV.int IntKind.u16 (↑s : Int), PV.list (List.map Ti.cs l) Tail.no, PV.list [] Tail.exact, PV.int IntKind.i64 (↑i : Int)] [Ob.cells [PV.int IntKind.i64 (Mo.K m), PV.int IntKind.i64 (Mo.Base m), PV.int IntKind.i64 (Mo.Step m), PV.int IntKind.i64 (Mo.Cap m), PV.int IntKind.i64 (Mo.Every m)], Ob.cells [PV.int IntKind.i64 n, PV.int IntKind.u16 (↑s : Int)]])) = wpc br Try.prog gl TC [] (fun o => match o.dst with | some 47 => 1 | _ => 0) (subOf [1, 1, 1, 1, 1, 0, 1, 0] (bodyOf Try.f7)) [] (envS [2, 3, 4, 6, 7, 8, 9, 10, 11] [.list (l.map Ti.cs) .no, .ptr 0 0, .ptr 1 0, .bool false, .int .i64 n, .int .u16 s, .list (l.map Ti.cs) .no, .list [] .exact, .int .i64 i]) [.cells m.cs, .cells [.int .i64 n, .int .u16 s]] (fun ex e H => R ex (List.map e [2, 3, 4, 6, 7, 8, 9, 10, 11]) H) := by kernel_rfl
theorem noa_vc (m : Mo) (n : Int) (s : Nat) (l : List Ti) (i : Nat) (R : Ex → List PV → Heap → Prop) (h : br (decide ((↑i : Int) < (↑(List.length (List.map Ti.cs l)) : Int))) (br (Int.tmod (Int.fdiv (↑s : Int) (2 ^ min (Int.toNat (↑i : Int)) 16)) 2 == 1) (InL (List.map Ti.cs l) 5 (↑i : Int) ∧ br (true && fitX [CK.int IntKind.u32, CK.int IntKind.i64, CK.list, CK.int IntKind.i64, CK.int IntKind.i64] 0 (List.getD (List.map Ti.cs l) (Int.toNat (↑i : Int)) [])) (AppL [] [[PV.int IntKind.u32 (cI (List.getD (List.map Ti.cs l) (Int.toNat (↑i : Int)) []) 0), PV.int IntKind.i64 (cI (List.getD (List.map Ti.cs l) (Int.toNat (↑i : Int)) []) 1), PV.list (cL (List.getD (List.map Ti.cs l) (Int.toNat (↑i : Int)) []) 2) (cT (List.getD (List.map Ti.cs l) (Int.toNat (↑i : Int)) []) 2), PV.int IntKind.i64 (cI (List.getD (List.map Ti.cs l) (Int.toNat (↑i : Int)) []) 3), PV.int IntKind.i64 (cI (List.getD (List.map Ti.cs l) (Int.toNat (↑i : Int)) []) 4)]] 5 56 ∧ (List.all [PV.int IntKind.u32 (cI (List.getD (List.map Ti.cs l) (Int.toNat (↑i : Int)) []) 0), PV.int IntKind.i64 (cI (List.getD (List.map Ti.cs l) (Int.toNat (↑i : Int)) []) 1), PV.list (cL (List.getD (List.map Ti.cs l) (Int.toNat (↑i : Int)) []) 2) (cT (List.getD (List.map Ti.cs l) (Int.toNat (↑i : Int)) []) 2), PV.int IntKind.i64 (cI (List.getD (List.map Ti.cs l) (Int.toNat (↑i : Int)) []) 3), PV.int IntKind.i64 (cI (List.getD (List.map Ti.cs l) (Int.toNat (↑i : Int)) []) 4)] PV.one = true ∧ [[PV.int IntKind.u32 (cI (List.getD (List.map Ti.cs l) (Int.toNat (↑i : Int)) []) 0), PV.int IntKind.i64 (cI (List.getD (List.map Ti.cs l) (Int.toNat (↑i : Int)) []) 1), PV.list (cL (List.getD (List.map Ti.cs l) (Int.toNat (↑i : Int)) []) 2) (cT (List.getD (List.map Ti.cs l) (Int.toNat (↑i : Int)) []) 2), PV.int IntKind.i64 (cI (List.getD (List.map Ti.cs l) (Int.toNat (↑i : Int)) []) 3), PV.int IntKind.i64 (cI (List.getD (List.map Ti.cs l) (Int.toNat (↑i : Int)) []) 4)]] ≠ []) ∧ R Ex.normal [PV.list (List.map Ti.cs l) Tail.no, PV.ptr 0 0, PV.ptr 1 0, PV.bool false, PV.int IntKind.i64 n, PV.int IntKind.u16 (↑s : Int), PV.list (List.map Ti.cs l) Tail.no, PV.list [[PV.int IntKind.u32 (cI (List.getD (List.map Ti.cs l) (Int.toNat (↑i : Int)) []) 0), PV.int IntKind.i64 (cI (List.getD (List.map Ti.cs l) (Int.toNat (↑i : Int)) []) 1), PV.list (cL (List.getD (List.map Ti.cs l) (Int.toNat (↑i : Int)) []) 2) (cT (List.getD (List.map Ti.cs l) (Int.toNat (↑i : Int)) []) 2), PV.int IntKind.i64 (cI (List.getD (List.map Ti.cs l) (Int.toNat (↑i : Int)) []) 3), PV.int IntKind.i64 (cI (List.getD (List.map Ti.cs l) (Int.toNat (↑i : Int)) []) 4)]] (Tail.tok 2), PV.int IntKind.i64 (wI ((↑i : Int) + 1))] [Ob.cells [PV.int IntKind.i64 (Mo.K m), PV.int IntKind.i64 (Mo.Base m), PV.int IntKind.i64 (Mo.Step m), PV.int IntKind.i64 (Mo.Cap m), PV.int IntKind.i64 (Mo.Every m)], Ob.cells [PV.int IntKind.i64 n, PV.int IntKind.u16 (↑s : Int)], Ob.tok]) False) (R Ex.normal [PV.list (List.map Ti.cs l) Tail.no, PV.ptr 0 0, PV.ptr 1 0, PV.bool false, PV.int IntKind.i64 n, PV.int IntKind.u16 (↑s : Int), PV.list (List.map Ti.cs l) Tail.no, PV.list [] Tail.exact, PV.int IntKind.i64 (wI ((↑i : Int) + 1))] [Ob.cells [PV.int IntKind.i64 (Mo.K m), PV.int IntKind.i64 (Mo.Base m), PV.int IntKind.i64 (Mo.Step m), PV.int IntKind.i64 (Mo.Cap m), PV.int IntKind.i64 (Mo.Every m)], Ob.cells [PV.int IntKind.i64 n, PV.int IntKind.u16 (↑s : Int)]])) (R (Ex.exit 0) [PV.list (List.map Ti.cs l) Tail.no, PV.ptr 0 0, PV.ptr 1 0, PV.bool false, PV.int IntKind.i64 n, PV.int IntKind.u16 (↑s : Int), PV.list (List.map Ti.cs l) Tail.no, PV.list [] Tail.exact, PV.int IntKind.i64 (↑i : Int)] [Ob.cells [PV.int IntKind.i64 (Mo.K m), PV.int IntKind.i64 (Mo.Base m), PV.int IntKind.i64 (Mo.Step m), PV.int IntKind.i64 (Mo.Cap m), PV.int IntKind.i64 (Mo.Every m)], Ob.cells [PV.int IntKind.i64 n, PV.int IntKind.u16 (↑s : Int)]])) : Holds (wpc br Try.prog gl TC [] (fun o => match o.dst with | some 47 => 1 | _ => 0) (subOf [1, 1, 1, 1, 1, 0, 1, 0] (bodyOf Try.f7)) [] (envS [2, 3, 4, 6, 7, 8, 9, 10, 11] [.list (l.map Ti.cs) .no, .ptr 0 0, .ptr 1 0, .bool false, .int .i64 n, .int .u16 s, .list (l.map Ti.cs) .no, .list [] .exact, .int .i64 i]) [.cells m.cs, .cells [.int .i64 n, .int .u16 s]] (fun ex e H => R ex (List.map e [2, 3, 4, 6, 7, 8, 9, 10, 11]) H)) := holds_of_eq (noa_red m n s l i R) h
theorem nob_red (m : Mo) (n : Int) (s : Nat) (l : List Ti) (i : Nat) (x : List Ti) (R : Ex → List PV → Heap → Prop) : (br (decide ((↑i : Int) < (↑(List.length (List.map Ti.cs l)) : Int))) (br (Int.tmod (Int.fdiv (↑s : Int) (2 ^ min (Int.toNat (↑i : Int)) 16)) 2 == 1) (InL (List.map Ti.cs l) 5 (↑i : Int) ∧ br (true && fitX [CK.int IntKind.u32, CK.int IntKind.i64, CK.list, CK.int IntKind.i64, CK.int IntKind.i64] 0 (List.getD (List.map Ti.cs l) (Int.toNat (↑i : Int)) [])) (AppL (List.map Ti.cs x) [[PV.int IntKind.u32 (cI (List.getD (List.map Ti.cs l) (Int.toNat (↑i : Int)) []) 0), PV.int IntKind.i64 (cI (List.getD (List.map Ti.cs l) (Int.toNat (↑i : Int)) []) 1), PV.list (cL (List.getD (List.map Ti.cs l) (Int.toNat (↑i : Int)) []) 2) (cT (List.getD (List.map Ti.cs l) (Int.toNat (↑i : Int)) []) 2), PV.int IntKind.i64 (cI (List.getD (List.map Ti.cs l) (Int.toNat (↑i : Int)) []) 3), PV.int IntKind.i64 (cI (List.getD (List.map Ti.cs l) (Int.toNat (↑i : Int)) []) 4)]] 5 56 ∧ (List.all [PV.int IntKind.u32 (cI (List.getD (List.map Ti.cs l) (Int.toNat (↑i : Int)) []) 0), PV.int IntKind.i64 (cI (List.getD (List.map Ti.cs l) (Int.toNat (↑i : Int)) []) 1), PV.list (cL (List.getD (List.map Ti.cs l) (Int.toNat (↑i : Int)) []) 2) (cT (List.getD (List.map Ti.cs l) (Int.toNat (↑i : Int)) []) 2), PV.int IntKind.i64 (cI (List.getD (List.map Ti.cs l) (Int.toNat (↑i : Int)) []) 3), PV.int IntKind.i64 (cI (List.getD (List.map Ti.cs l) (Int.toNat (↑i : Int)) []) 4)] PV.one = true ∧ [[PV.int IntKind.u32 (cI (List.getD (List.map Ti.cs l) (Int.toNat (↑i : Int)) []) 0), PV.int IntKind.i64 (cI (List.getD (List.map Ti.cs l) (Int.toNat (↑i : Int)) []) 1), PV.list (cL (List.getD (List.map Ti.cs l) (Int.toNat (↑i : Int)) []) 2) (cT (List.getD (List.map Ti.cs l) (Int.toNat (↑i : Int)) []) 2), PV.int IntKind.i64 (cI (List.getD (List.map Ti.cs l) (Int.toNat (↑i : Int)) []) 3), PV.int IntKind.i64 (cI (List.getD (List.map Ti.cs l) (Int.toNat (↑i : Int)) []) 4)]] ≠ []) ∧ R Ex.normal [PV.list (List.map Ti.cs l) Tail.no, PV.ptr 0 0, PV.ptr 1 0, PV.bool false, PV.int IntKind.i64 n, PV.int IntKind.u16 (↑s : Int), PV.list (List.map Ti.cs l) Tail.no, PV.list (List.map Ti.cs x ++ [[PV.int IntKind.u32 (cI (List.getD (List.map Ti.cs l) (Int.toNat (↑i : Int)) []) 0), PV.int IntKind.i64 (cI (List.getD (List.map Ti.cs l) (Int.toNat (↑i : Int)) []) 1), PV.list (cL (List.getD (List.map Ti.cs l) (Int.toNat (↑i : Int)) []) 2) (cT (List.getD (List.map Ti.cs l) (Int.toNat (↑i : Int)) []) 2), PV.int IntKind.i64 (cI (List.getD (List.map Ti.cs l) (Int.toNat (↑i : Int)) []) 3), PV.int IntKind.i64 (cI (List.getD (List.map Ti.cs l) (Int.toNat (↑i : Int)) []) 4)]]) (Tail.tok 3), PV.int IntKind.i64 (wI ((↑i : Int) + 1))] [Ob.cells [PV.int IntKind.i64 (Mo.K m), PV.int IntKind.i64 (Mo.Base m), PV.int IntKind.i64 (Mo.Step m), PV.int IntKind.i64 (Mo.Cap m), PV.int IntKind.i64 (Mo.Every m)], Ob.cells [PV.int IntKind.i64 n, PV.int IntKind.u16 (↑s : Int)], Ob.dead, Ob.tok]) False) (R Ex.normal [PV.list (List.map Ti.cs l) Tail.no, PV.ptr 0 0, PV.ptr 1 0, PV.bool false, PV.int IntKind.i64 n, PV.int IntKind.u16 (↑s : Int), PV.list (List.map Ti.cs l) Tail.no, PV.list (List.map Ti.cs x) (Tail.tok 2), PV.int IntKind.i64 (wI ((↑i : Int) + 1))] [Ob.cells [PV.int IntKind.i64 (Mo.K m), PV.int IntKind.i64 (Mo.Base m), PV.int IntKind.i64 (Mo.Step m), PV.int IntKind.i64 (Mo.Cap m), PV.int IntKind.i64 (Mo.Every m)], Ob.cells [PV.int IntKind.i64 n, PV.int IntKind.u16 (↑s : Int)], Ob.tok])) (R (Ex.exit 0) [PV.list (List.map Ti.cs l) Tail.no, PV.ptr 0 0, PV.ptr 1 0, PV.bool false, PV.int IntKind.i64 n, PV.int IntKind.u16 (↑s : Int), PV.list (List.map Ti.cs l) Tail.no, PV.list (List.map Ti.cs x) (Tail.tok 2), PV.int IntKind.i64 (↑i : Int)] [Ob.cells [PV.int IntKind.i64 (Mo.K m), PV.int IntKind.i64 (Mo.Base m), PV.int IntKind.i64 (Mo.Step m), PV.int IntKind.i64 (Mo.Cap m), PV.int IntKind.i64 (Mo.Every m)], Ob.cells [PV.int IntKind.i64 n, PV.int IntKind.u16 (↑s : Int)], Ob.tok])) = wpc br Try.prog gl TC [] (fun o => match o.dst with | some 47 => 1 | _ => 0) (subOf [1, 1, 1, 1, 1, 0, 1, 0] (bodyOf Try.f7)) [] (envS [2, 3, 4, 6, 7, 8, 9, 10, 11] [.list (l.map Ti.cs) .no, .ptr 0 0, .ptr 1 0, .bool false, .int .i64 n, .int .u16 s, .list (l.map Ti.cs) .no, .list (x.map Ti.cs) (.tok 2), .int .i64 i]) [.cells m.cs, .cells [.int .i64 n, .int .u16 s], .tok] (fun ex e H => R ex (List.map e [2, 3, 4, 6, 7, 8, 9, 10, 11]) H) := by kernel_rfl
theorem nob_vc (m : Mo) (n : Int) (s : Nat) (l : List Ti) (i : Nat) (x : List Ti) (R : Ex → List PV → Heap → Prop) (h : br (decide ((↑i : Int) < (↑(List.length (List.map Ti.cs l)) : Int))) (br (Int.tmod (Int.fdiv (↑s : Int) (2 ^ min (Int.toNat (↑i : Int)) 16)) 2 == 1) (InL (List.map Ti.cs l) 5 (↑i : Int) ∧ br (true && fitX [CK.int IntKind.u32, CK.int IntKind.i64, CK.list, CK.int IntKind.i64, CK.int IntKind.i64] 0 (List.getD (List.map Ti.cs l) (Int.toNat (↑i : Int)) [])) (AppL (List.map Ti.cs x) [[PV.int IntKind.u32 (cI (List.getD (List.map Ti.cs l) (Int.toNat (↑i : Int)) []) 0), PV.int IntKind.i64 (cI (List.getD (List.map Ti.cs l) (Int.toNat (↑i : Int)) []) 1), PV.list (cL (List.getD (List.map Ti.cs l) (Int.toNat (↑i : Int)) []) 2) (cT (List.getD (List.map Ti.cs l) (Int.toNat (↑i : Int)) []) 2), PV.int IntKind.i64 (cI (List.getD (List.map Ti.cs l) (Int.toNat (↑i : Int)) []) 3), PV.int IntKind.i64 (cI (List.getD (List.map Ti.cs l) (Int.toNat (↑i : Int)) []) 4)]] 5 56 ∧ (List.all [PV.int IntKind.u32 (cI (List.getD (List.map Ti.cs l) (Int.toNat (↑i : Int)) []) 0), PV.int IntKind.i64 (cI (List.getD (List.map Ti.cs l) (Int.toNat (↑i : Int)) []) 1), PV.list (cL (List.getD (List.map Ti.cs l) (Int.toNat (↑i : Int)) []) 2) (cT (List.getD (List.map Ti.cs l) (Int.toNat (↑i : Int)) []) 2), PV.int IntKind.i64 (cI (List.getD (List.map Ti.cs l) (Int.toNat (↑i : Int)) []) 3), PV.int IntKind.i64 (cI (List.getD (List.map Ti.cs l) (Int.toNat (↑i : Int)) []) 4)] PV.one = true ∧ [[PV.int IntKind.u32 (cI (List.getD (List.map Ti.cs l) (Int.toNat (↑i : Int)) []) 0), PV.int IntKind.i64 (cI (List.getD (List.map Ti.cs l) (Int.toNat (↑i : Int)) []) 1), PV.list (cL (List.getD (List.map Ti.cs l) (Int.toNat (↑i : Int)) []) 2) (cT (List.getD (List.map Ti.cs l) (Int.toNat (↑i : Int)) []) 2), PV.int IntKind.i64 (cI (List.getD (List.map Ti.cs l) (Int.toNat (↑i : Int)) []) 3), PV.int IntKind.i64 (cI (List.getD (List.map Ti.cs l) (Int.toNat (↑i : Int)) []) 4)]] ≠ []) ∧ R Ex.normal [PV.list (List.map Ti.cs l) Tail.no, PV.ptr 0 0, PV.ptr 1 0, PV.bool false, PV.int IntKind.i64 n, PV.int IntKind.u16 (↑s : Int), PV.list (List.map Ti.cs l) Tail.no, PV.list (List.map Ti.cs x ++ [[PV.int IntKind.u32 (cI (List.getD (List.map Ti.cs l) (Int.toNat (↑i : Int)) []) 0), PV.int IntKind.i64 (cI (List.getD (List.map Ti.cs l) (Int.toNat (↑i : Int)) []) 1), PV.list (cL (List.getD (List.map Ti.cs l) (Int.toNat (↑i : Int)) []) 2) (cT (List.getD (List.map Ti.cs l) (Int.toNat (↑i : Int)) []) 2), PV.int IntKind.i64 (cI (List.getD (List.map Ti.cs l) (Int.toNat (↑i : Int)) []) 3), PV.int IntKind.i64 (cI (List.getD (List.map Ti.cs l) (Int.toNat (↑i : Int)) []) 4)]]) (Tail.tok 3), PV.int IntKind.i64 (wI ((↑i : Int) + 1))] [Ob.cells [PV.int IntKind.i64 (Mo.K m), PV.int IntKind.i64 (Mo.Base m), PV.int IntKind.i64 (Mo.Step m), PV.int IntKind.i64 (Mo.Cap m), PV.int IntKind.i64 (Mo.Every m)], Ob.cells [PV.int IntKind.i64 n, PV.int IntKind.u16 (↑s : Int)], Ob.dead, Ob.tok]) False) (R Ex.normal [PV.list (List.map Ti.cs l) Tail.no, PV.ptr 0 0, PV.ptr 1 0, PV.bool false, PV.int IntKind.i64 n, PV.int IntKind.u16 (↑s : Int), PV.list (List.map Ti.cs l) Tail.no, PV.list (List.map Ti.cs x) (Tail.tok 2), PV.int IntKind.i64 (wI ((↑i : Int) + 1))] [Ob.cells [PV.int IntKind.i64 (Mo.K m), PV.int IntKind.i64 (Mo.Base m), PV.int IntKind.i64 (Mo.Step m), PV.int IntKind.i64 (Mo.Cap m), PV.int IntKind.i64 (Mo.Every m)], Ob.cells [PV.int IntKind.i64 n, PV.int IntKind.u16 (↑s : Int)], Ob.tok])) (R (Ex.exit 0) [PV.list (List.map Ti.cs l) Tail.no, PV.ptr 0 0, PV.ptr 1 0, PV.bool false, PV.int IntKind.i64 n, PV.int IntKind.u16 (↑s : Int), PV.list (List.map Ti.cs l) Tail.no, PV.list (List.map Ti.cs x) (Tail.tok 2), PV.int IntKind.i64 (↑i : Int)] [Ob.cells [PV.int IntKind.i64 (Mo.K m), PV.int IntKind.i64 (Mo.Base m), PV.int IntKind.i64 (Mo.Step m), PV.int IntKind.i64 (Mo.Cap m), PV.int IntKind.i64 (Mo.Every m)], Ob.cells [PV.int IntKind.i64 n, PV.int IntKind.u16 (↑s : Int)], Ob.tok])) : Holds (wpc br Try.prog gl TC [] (fun o => match o.dst with | some 47 => 1 | _ => 0) (subOf [1, 1, 1, 1, 1, 0, 1, 0] (bodyOf Try.f7)) [] (envS [2, 3, 4, 6, 7, 8, 9, 10, 11] [.list (l.map Ti.cs) .no, .ptr 0 0, .ptr 1 0, .bool false, .int .i64 n, .int .u16 s, .list (l.map Ti.cs) .no, .list (x.map Ti.cs) (.tok 2), .int .i64 i]) [.cells m.cs, .cells [.int .i64 n, .int .u16 s], .tok] (fun ex e H => R ex (List.map e [2, 3, 4, 6, 7, 8, 9, 10, 11]) H)) := holds_of_eq (nob_red m n s l i x R) h
theorem bit16 (m i : Nat) (h : i ≤ 16) : (Int.tmod (Int.fdiv (m : Int) (2 ^ min i 16)) 2 == 1) = decide (m / 2 ^ i % 2 = 1) := by
  have := bit_eq m i (by omega)
  rw [show min i 64 = i by omega] at this
  rw [show min i 16 = i by omega]; exact this
def accT (l : List Ti) (s i : Nat) : List Ti := takenL l (accB true l.length s i)
theorem accT_step {l : List Ti} {s i : Nat} (h : i < l.length) : accT l s (i + 1) = accT l s i ++ (if decide (s / 2 ^ i % 2 = 1) = true then [l.getD i Ti.zero] else []) := by
  unfold accT
  rw [accB_step h]
  unfold takenL
  rw [List.map_append]
  by_cases c : decide (s / 2 ^ i % 2 = 1) = true
  · rw [if_pos c, if_pos c]; rfl
  · rw [if_neg c, if_neg c]; rfl
theorem accB_in (v : Bool) (n m i : Nat) : ∀ k ∈ accB v n m i, k < n := fun k hk => by
  have := plB_lt hk
  rw [List.length_take, bitsB_len] at this
  omega
def no_l : LSp := fun e H Q => ∃ (m : Mo) (n : Int) (s : Nat) (l : List Ti), LsOk l ∧ l.length ≤ 16 ∧ SlIs (List.map e [2, 3, 4, 6, 7, 8, 9, 10, 11]) [.list (l.map Ti.cs) .no, .ptr 0 0, .ptr 1 0, .bool false, .int .i64 n, .int .u16 s, .list (l.map Ti.cs) .no, .list [] .exact, .int .i64 0] ∧ HpIs H [.cells m.cs, .cells [.int .i64 n, .int .u16 s]] ∧
  Q (.exit 0) (envS [2, 3, 4, 6, 7, 8, 9, 10, 11] [.list (l.map Ti.cs) .no, .ptr 0 0, .ptr 1 0, .bool false, .int .i64 n, .int .u16 s, .list (l.map Ti.cs) .no, .list ((takenL l (plB true 0 (bitsB l.length s))).map Ti.cs) .no, .int .i64 l.length]) [.cells m.cs, .cells [.int .i64 n, .int .u16 s], .dead]
theorem no_l_ok : ∀ e H Q, no_l e H Q → AW Try.prog gl Try.f7.ntmps (.loop (subOf [1, 1, 1, 1, 1, 0, 1, 0] (bodyOf Try.f7))) Q e H := by
  rintro e H Q ⟨m, n, s, l, hl, h16, he, hH, hQ⟩
  have hH2 : H = [.cells m.cs, .cells [.int .i64 n, .int .u16 s]] := hH
  have hend : accT l s l.length = takenL l (plB true 0 (bitsB l.length s)) := by unfold accT accB; rw [List.take_of_length_le (by rw [bitsB_len]; exact Nat.le_refl _)]
  have hlT : ∀ i, (accT l s i).length ≤ i := fun i => by unfold accT; rw [taken_len]; exact accB_len _ _ _ _
  refine aw_growif (f := Ti.cs) (acc := accT l s) (I := fun i => i ≤ l.length) (m := fun i => l.length - i) (hn := fun o => match o.dst with | some 47 => 1 | _ => 0) gl_low TC_ok (.nil _ _ _ _ _) [2, 3, 4, 6, 7, 8, 9, 10, 11] (fun r i => [.list (l.map Ti.cs) .no, .ptr 0 0, .ptr 1 0, .bool false, .int .i64 n, .int .u16 s, .list (l.map Ti.cs) .no, r, .int .i64 i]) [.cells m.cs, .cells [.int .i64 n, .int .u16 s]] (0 : Nat)
    (low_base [m.cs, [.int .i64 n, .int .u16 s]] (by
      intro cs hcs x hx
      simp only [List.mem_cons, List.not_mem_nil, or_false] at hcs
      rcases hcs with rfl | rfl
      · exact low_mo m x hx
      · simp only [List.mem_cons, List.not_mem_nil, or_false] at hx
        rcases hx with rfl | rfl <;> exact .int _ _))
    (fun i _ a ha => by
      obtain ⟨k, hk, rfl⟩ := List.mem_map.1 ha
      exact low_ti (hl.mem (accB_in _ _ _ _ k hk)).1)
    (fun es i k _ h => .same (low_list NT.no (low_ls hl)) (.same (.ptr _ _ (by simp)) (.same (.ptr _ _ (by simp)) (.same (.bool _) (.same (.int _ _) (.same (.int _ _) (.same (low_list NT.no (low_ls hl)) (.row h (.same (.int _ _) .nil)))))))))
    (fun i _ w hw => by
      simp only [List.mem_cons, List.not_mem_nil, or_false] at hw
      rcases hw with rfl | rfl | rfl | rfl | rfl | rfl | rfl | rfl | rfl <;> first | exact .int _ _ | exact .bool _ | exact .ptr _ _ (by simp) | exact low_list NT.no (low_ls hl) | exact low_list NT.exact (by simp))
    (Nat.zero_le _) (by simp [accT, accB, plB, takenL]) he hH2 ?_ ?_
  · intro i hi ha
    refine noa_vc m n s l i _ ?_
    simp only [br_if, dt, toNat_nat, List.length_map, inL_ti]
    by_cases h : i < l.length
    · rw [if_pos (by omega), bit16 s i (by omega), wI_succ h (by omega)]
      have hs := accT_step (s := s) h
      by_cases c : decide (s / 2 ^ i % 2 = 1) = true
      · rw [if_pos c]
        rw [if_pos c, ha] at hs
        simp only [getD_map Ti.zero h, ti_f, ti_c]
        refine ⟨h, ?_⟩
        rw [if_pos (by rfl : (true && true) = true)]
        refine ⟨⟨by intro e he; simp at he, by intro e he; simp at he; subst he; rfl, by simp⟩, ⟨by rfl, by simp⟩, i + 1, (show l.length - (i + 1) < l.length - i by omega), h, .inr ⟨by rw [hs]; simp, [.tok], 2, rfl, rfl, by simp, ?_⟩⟩
        rw [hs]; rfl
      · rw [if_neg c]
        rw [if_neg c, ha] at hs
        exact ⟨i + 1, (show l.length - (i + 1) < l.length - i by omega), h, .inl ⟨hs, [], rfl, rfl⟩⟩
    · rw [if_neg (by omega)]
      have : i = l.length := by have : i ≤ l.length := hi; omega
      subst this
      rw [hend] at ha
      rw [ha] at hQ
      exact ⟨_, _, .cons (.refl _) (.cons (.refl _) (.cons (.refl _) (.cons (.refl _) (.cons (.refl _) (.cons (.refl _) (.cons (.refl _) (.cons (.list _ _) (.cons (.refl _) .nil)))))))), pad_dead _, hQ⟩
  · intro i hi ha
    refine nob_vc m n s l i (accT l s i) _ ?_
    simp only [br_if, dt, toNat_nat, List.length_map, inL_ti]
    have hal := hlT i
    by_cases h : i < l.length
    · rw [if_pos (by omega), bit16 s i (by omega), wI_succ h (by omega)]
      have hs := accT_step (s := s) h
      by_cases c : decide (s / 2 ^ i % 2 = 1) = true
      · rw [if_pos c]
        rw [if_pos c] at hs
        simp only [getD_map Ti.zero h, ti_f, ti_c]
        refine ⟨h, ?_⟩
        rw [if_pos (by rfl : (true && true) = true)]
        refine ⟨⟨uni_map Ti.cs_len _, by intro e he; simp at he; subst he; rfl, by rw [List.length_map, List.length_singleton]; omega⟩, ⟨by rfl, by simp⟩, i + 1, (show l.length - (i + 1) < l.length - i by omega), h, .inr ⟨by rw [hs]; simp, [.dead, .tok], 3, rfl, rfl, by simp, ?_⟩⟩
        rw [hs, List.map_append]; rfl
      · rw [if_neg c]
        rw [if_neg c, List.append_nil] at hs
        exact ⟨i + 1, (show l.length - (i + 1) < l.length - i by omega), h, .inr ⟨by rw [hs]; exact ha, [.tok], 2, rfl, rfl, by simp, by rw [hs]⟩⟩
    · rw [if_neg (by omega)]
      have : i = l.length := by have : i ≤ l.length := hi; omega
      subst this
      rw [hend]
      exact ⟨_, _, .cons (.refl _) (.cons (.refl _) (.cons (.refl _) (.cons (.refl _) (.cons (.refl _) (.cons (.refl _) (.cons (.refl _) (.cons (.list _ _) (.cons (.refl _) .nil)))))))), pad_kill [.cells m.cs, .cells [.int .i64 n, .int .u16 s]] .tok, hQ⟩
theorem lNone_red (m : Mo) (n : Int) (s : Nat) (l : List Ti) (K : PV → Prop) : (br (decide ((↑(List.length (List.map Ti.cs l)) : Int) > 16) == false) (∃ (l_1 : List Ti), ∃ (u : Tail), SlIs [PV.list (List.map Ti.cs l) Tail.no] [PV.list (List.map Ti.cs l_1) u] ∧ List.length l_1 ≤ 20 ∧ (∀ (t : Ti), t ∈ l_1 → NT (Ti.Pt t)) ∧ br (!smallS l_1) (K (PV.bool true)) (∃ (l_2 : List Ti), ∃ (u : Tail), SlIs [PV.list (List.map Ti.cs l) Tail.no] [PV.list (List.map Ti.cs l_2) u] ∧ PtNo l_2 ∧ ∃ (m_1 : Mo), ∃ (n_1 : Int), ∃ (s_1 : Nat), ∃ (l_3 : List Ti), LsOk l_3 ∧ List.length l_3 ≤ 16 ∧ SlIs [PV.list (List.map Ti.cs l) Tail.no, PV.ptr 0 0, PV.ptr 1 0, PV.bool false, PV.int IntKind.i64 n, PV.int IntKind.u16 (↑s : Int), PV.list (List.map Ti.cs l_2) Tail.no, PV.list [] Tail.exact, PV.int IntKind.i64 0] [PV.list (List.map Ti.cs l_3) Tail.no, PV.ptr 0 0, PV.ptr 1 0, PV.bool false, PV.int IntKind.i64 n_1, PV.int IntKind.u16 (↑s_1 : Int), PV.list (List.map Ti.cs l_3) Tail.no, PV.list [] Tail.exact, PV.int IntKind.i64 0] ∧ HpIs [Ob.cells [PV.int IntKind.i64 (Mo.K m), PV.int IntKind.i64 (Mo.Base m), PV.int IntKind.i64 (Mo.Step m), PV.int IntKind.i64 (Mo.Cap m), PV.int IntKind.i64 (Mo.Every m)], Ob.cells [PV.int IntKind.i64 n, PV.int IntKind.u16 (↑s : Int)]] [Ob.cells [PV.int IntKind.i64 (Mo.K m_1), PV.int IntKind.i64 (Mo.Base m_1), PV.int IntKind.i64 (Mo.Step m_1), PV.int IntKind.i64 (Mo.Cap m_1), PV.int IntKind.i64 (Mo.Every m_1)], Ob.cells [PV.int IntKind.i64 n_1, PV.int IntKind.u16 (↑s_1 : Int)]] ∧ br (decide ((↑(List.length (List.map Ti.cs (takenL l_3 (plB true 0 (bitsB (List.length l_3) s_1))))) : Int) > 8) == false) (∃ (m : Mo), SlIs [PV.agg [PV.int IntKind.i64 (Mo.K m_1), PV.int IntKind.i64 (Mo.Base m_1), PV.int IntKind.i64 (Mo.Step m_1), PV.int IntKind.i64 (Mo.Cap m_1), PV.int IntKind.i64 (Mo.Every m_1)]] [PV.agg [PV.int IntKind.i64 (Mo.K m), PV.int IntKind.i64 (Mo.Base m), PV.int IntKind.i64 (Mo.Step m), PV.int IntKind.i64 (Mo.Cap m), PV.int IntKind.i64 (Mo.Every m)]] ∧ ∃ (m_2 : Mo), ∃ (n : Int), ∃ (l : List Ti), ∃ (u : Tail), SlIs [PV.agg [PV.int IntKind.i64 (Mo.K m), PV.int IntKind.i64 (Mo.Base m), PV.int IntKind.i64 (Mo.Step m), PV.int IntKind.i64 (Mo.Cap m), PV.int IntKind.i64 (Mo.Every m)], PV.int IntKind.i64 n_1, PV.list (List.map Ti.cs (takenL l_3 (plB true 0 (bitsB (List.length l_3) s_1)))) Tail.no] [PV.agg [PV.int IntKind.i64 (Mo.K m_2), PV.int IntKind.i64 (Mo.Base m_2), PV.int IntKind.i64 (Mo.Step m_2), PV.int IntKind.i64 (Mo.Cap m_2), PV.int IntKind.i64 (Mo.Every m_2)], PV.int IntKind.i64 n, PV.list (List.map Ti.cs l) u] ∧ in64 n ∧ LsOk l ∧ br (!fitsS m_2 n l) (K (PV.bool true)) (∃ (m : Mo), SlIs [PV.agg [PV.int IntKind.i64 (Mo.K m_1), PV.int IntKind.i64 (Mo.Base m_1), PV.int IntKind.i64 (Mo.Step m_1), PV.int IntKind.i64 (Mo.Cap m_1), PV.int IntKind.i64 (Mo.Every m_1)]] [PV.agg [PV.int IntKind.i64 (Mo.K m), PV.int IntKind.i64 (Mo.Base m), PV.int IntKind.i64 (Mo.Step m), PV.int IntKind.i64 (Mo.Cap m), PV.int IntKind.i64 (Mo.Every m)]] ∧ ∃ (m_3 : Mo), ∃ (l : List Ti), ∃ (u : Tail), SlIs [PV.agg [PV.int IntKind.i64 (Mo.K m), PV.int IntKind.i64 (Mo.Base m), PV.int IntKind.i64 (Mo.Step m), PV.int IntKind.i64 (Mo.Cap m), PV.int IntKind.i64 (Mo.Every m)], PV.list (List.map Ti.cs (takenL l_3 (plB true 0 (bitsB (List.length l_3) s_1)))) Tail.no] [PV.agg [PV.int IntKind.i64 (Mo.K m_3), PV.int IntKind.i64 (Mo.Base m_3), PV.int IntKind.i64 (Mo.Step m_3), PV.int IntKind.i64 (Mo.Cap m_3), PV.int IntKind.i64 (Mo.Every m_3)], PV.list (List.map Ti.cs l) u] ∧ LsOk l ∧ br (!Option.isSome (teamsS m_3 l)) (K (PV.bool true)) (∃ (m : Mo), SlIs [PV.agg [PV.int IntKind.i64 (Mo.K m_1), PV.int IntKind.i64 (Mo.Base m_1), PV.int IntKind.i64 (Mo.Step m_1), PV.int IntKind.i64 (Mo.Cap m_1), PV.int IntKind.i64 (Mo.Every m_1)]] [PV.agg [PV.int IntKind.i64 (Mo.K m), PV.int IntKind.i64 (Mo.Base m), PV.int IntKind.i64 (Mo.Step m), PV.int IntKind.i64 (Mo.Cap m), PV.int IntKind.i64 (Mo.Every m)]] ∧ ∃ (m_4 : Mo), ∃ (n : Int), ∃ (l : List Ti), ∃ (u : Tail), SlIs [PV.agg [PV.int IntKind.i64 (Mo.K m), PV.int IntKind.i64 (Mo.Base m), PV.int IntKind.i64 (Mo.Step m), PV.int IntKind.i64 (Mo.Cap m), PV.int IntKind.i64 (Mo.Every m)], PV.int IntKind.i64 n_1, PV.list (List.map Ti.cs l_3) Tail.no] [PV.agg [PV.int IntKind.i64 (Mo.K m_4), PV.int IntKind.i64 (Mo.Base m_4), PV.int IntKind.i64 (Mo.Step m_4), PV.int IntKind.i64 (Mo.Cap m_4), PV.int IntKind.i64 (Mo.Every m_4)], PV.int IntKind.i64 n, PV.list (List.map Ti.cs l) u] ∧ in64 n ∧ LsOk l ∧ br (Option.isSome (findS m_4 n l) == true) (br (decide ((↑(List.length (List.map pcs (tmA (findS m_4 n l)))) : Int) > 0) == true) (br ((Int.tmod (↑s_1 : Int) 2 == 0) == false) (InL (List.map pcs (tmA (findS m_4 n l))) 1 0 ∧ br (true && fitX [CK.int IntKind.i64] 0 (List.getD (List.map pcs (tmA (findS m_4 n l))) 0 [])) (br ((cI (List.getD (List.map pcs (tmA (findS m_4 n l))) 0 []) 0 == 0) == true) (K (PV.bool true)) (K (PV.bool false))) False) (K (PV.bool true))) (K (PV.bool false))) (K (PV.bool false))))) (K (PV.bool true)))) (K (PV.bool true))) = wpc br Try.prog gl TC [([1, 1, 1, 1, 1, 0, 1, 0], no_l)] (fun _ => 0) (bodyOf Try.f7) [] (env0 [m.pv, .agg [.int .i64 n, .int .u16 s], .list (l.map Ti.cs) .no]) [] (resQ Try.prog Try.f7.results.toList (fun x _ => K x)) := by kernel_rfl
theorem lNone_vc (m : Mo) (n : Int) (s : Nat) (l : List Ti)  (K : PV → Prop) (h : br (decide ((↑(List.length (List.map Ti.cs l)) : Int) > 16) == false) (∃ (l_1 : List Ti), ∃ (u : Tail), SlIs [PV.list (List.map Ti.cs l) Tail.no] [PV.list (List.map Ti.cs l_1) u] ∧ List.length l_1 ≤ 20 ∧ (∀ (t : Ti), t ∈ l_1 → NT (Ti.Pt t)) ∧ br (!smallS l_1) (K (PV.bool true)) (∃ (l_2 : List Ti), ∃ (u : Tail), SlIs [PV.list (List.map Ti.cs l) Tail.no] [PV.list (List.map Ti.cs l_2) u] ∧ PtNo l_2 ∧ ∃ (m_1 : Mo), ∃ (n_1 : Int), ∃ (s_1 : Nat), ∃ (l_3 : List Ti), LsOk l_3 ∧ List.length l_3 ≤ 16 ∧ SlIs [PV.list (List.map Ti.cs l) Tail.no, PV.ptr 0 0, PV.ptr 1 0, PV.bool false, PV.int IntKind.i64 n, PV.int IntKind.u16 (↑s : Int), PV.list (List.map Ti.cs l_2) Tail.no, PV.list [] Tail.exact, PV.int IntKind.i64 0] [PV.list (List.map Ti.cs l_3) Tail.no, PV.ptr 0 0, PV.ptr 1 0, PV.bool false, PV.int IntKind.i64 n_1, PV.int IntKind.u16 (↑s_1 : Int), PV.list (List.map Ti.cs l_3) Tail.no, PV.list [] Tail.exact, PV.int IntKind.i64 0] ∧ HpIs [Ob.cells [PV.int IntKind.i64 (Mo.K m), PV.int IntKind.i64 (Mo.Base m), PV.int IntKind.i64 (Mo.Step m), PV.int IntKind.i64 (Mo.Cap m), PV.int IntKind.i64 (Mo.Every m)], Ob.cells [PV.int IntKind.i64 n, PV.int IntKind.u16 (↑s : Int)]] [Ob.cells [PV.int IntKind.i64 (Mo.K m_1), PV.int IntKind.i64 (Mo.Base m_1), PV.int IntKind.i64 (Mo.Step m_1), PV.int IntKind.i64 (Mo.Cap m_1), PV.int IntKind.i64 (Mo.Every m_1)], Ob.cells [PV.int IntKind.i64 n_1, PV.int IntKind.u16 (↑s_1 : Int)]] ∧ br (decide ((↑(List.length (List.map Ti.cs (takenL l_3 (plB true 0 (bitsB (List.length l_3) s_1))))) : Int) > 8) == false) (∃ (m : Mo), SlIs [PV.agg [PV.int IntKind.i64 (Mo.K m_1), PV.int IntKind.i64 (Mo.Base m_1), PV.int IntKind.i64 (Mo.Step m_1), PV.int IntKind.i64 (Mo.Cap m_1), PV.int IntKind.i64 (Mo.Every m_1)]] [PV.agg [PV.int IntKind.i64 (Mo.K m), PV.int IntKind.i64 (Mo.Base m), PV.int IntKind.i64 (Mo.Step m), PV.int IntKind.i64 (Mo.Cap m), PV.int IntKind.i64 (Mo.Every m)]] ∧ ∃ (m_2 : Mo), ∃ (n : Int), ∃ (l : List Ti), ∃ (u : Tail), SlIs [PV.agg [PV.int IntKind.i64 (Mo.K m), PV.int IntKind.i64 (Mo.Base m), PV.int IntKind.i64 (Mo.Step m), PV.int IntKind.i64 (Mo.Cap m), PV.int IntKind.i64 (Mo.Every m)], PV.int IntKind.i64 n_1, PV.list (List.map Ti.cs (takenL l_3 (plB true 0 (bitsB (List.length l_3) s_1)))) Tail.no] [PV.agg [PV.int IntKind.i64 (Mo.K m_2), PV.int IntKind.i64 (Mo.Base m_2), PV.int IntKind.i64 (Mo.Step m_2), PV.int IntKind.i64 (Mo.Cap m_2), PV.int IntKind.i64 (Mo.Every m_2)], PV.int IntKind.i64 n, PV.list (List.map Ti.cs l) u] ∧ in64 n ∧ LsOk l ∧ br (!fitsS m_2 n l) (K (PV.bool true)) (∃ (m : Mo), SlIs [PV.agg [PV.int IntKind.i64 (Mo.K m_1), PV.int IntKind.i64 (Mo.Base m_1), PV.int IntKind.i64 (Mo.Step m_1), PV.int IntKind.i64 (Mo.Cap m_1), PV.int IntKind.i64 (Mo.Every m_1)]] [PV.agg [PV.int IntKind.i64 (Mo.K m), PV.int IntKind.i64 (Mo.Base m), PV.int IntKind.i64 (Mo.Step m), PV.int IntKind.i64 (Mo.Cap m), PV.int IntKind.i64 (Mo.Every m)]] ∧ ∃ (m_3 : Mo), ∃ (l : List Ti), ∃ (u : Tail), SlIs [PV.agg [PV.int IntKind.i64 (Mo.K m), PV.int IntKind.i64 (Mo.Base m), PV.int IntKind.i64 (Mo.Step m), PV.int IntKind.i64 (Mo.Cap m), PV.int IntKind.i64 (Mo.Every m)], PV.list (List.map Ti.cs (takenL l_3 (plB true 0 (bitsB (List.length l_3) s_1)))) Tail.no] [PV.agg [PV.int IntKind.i64 (Mo.K m_3), PV.int IntKind.i64 (Mo.Base m_3), PV.int IntKind.i64 (Mo.Step m_3), PV.int IntKind.i64 (Mo.Cap m_3), PV.int IntKind.i64 (Mo.Every m_3)], PV.list (List.map Ti.cs l) u] ∧ LsOk l ∧ br (!Option.isSome (teamsS m_3 l)) (K (PV.bool true)) (∃ (m : Mo), SlIs [PV.agg [PV.int IntKind.i64 (Mo.K m_1), PV.int IntKind.i64 (Mo.Base m_1), PV.int IntKind.i64 (Mo.Step m_1), PV.int IntKind.i64 (Mo.Cap m_1), PV.int IntKind.i64 (Mo.Every m_1)]] [PV.agg [PV.int IntKind.i64 (Mo.K m), PV.int IntKind.i64 (Mo.Base m), PV.int IntKind.i64 (Mo.Step m), PV.int IntKind.i64 (Mo.Cap m), PV.int IntKind.i64 (Mo.Every m)]] ∧ ∃ (m_4 : Mo), ∃ (n : Int), ∃ (l : List Ti), ∃ (u : Tail), SlIs [PV.agg [PV.int IntKind.i64 (Mo.K m), PV.int IntKind.i64 (Mo.Base m), PV.int IntKind.i64 (Mo.Step m), PV.int IntKind.i64 (Mo.Cap m), PV.int IntKind.i64 (Mo.Every m)], PV.int IntKind.i64 n_1, PV.list (List.map Ti.cs l_3) Tail.no] [PV.agg [PV.int IntKind.i64 (Mo.K m_4), PV.int IntKind.i64 (Mo.Base m_4), PV.int IntKind.i64 (Mo.Step m_4), PV.int IntKind.i64 (Mo.Cap m_4), PV.int IntKind.i64 (Mo.Every m_4)], PV.int IntKind.i64 n, PV.list (List.map Ti.cs l) u] ∧ in64 n ∧ LsOk l ∧ br (Option.isSome (findS m_4 n l) == true) (br (decide ((↑(List.length (List.map pcs (tmA (findS m_4 n l)))) : Int) > 0) == true) (br ((Int.tmod (↑s_1 : Int) 2 == 0) == false) (InL (List.map pcs (tmA (findS m_4 n l))) 1 0 ∧ br (true && fitX [CK.int IntKind.i64] 0 (List.getD (List.map pcs (tmA (findS m_4 n l))) 0 [])) (br ((cI (List.getD (List.map pcs (tmA (findS m_4 n l))) 0 []) 0 == 0) == true) (K (PV.bool true)) (K (PV.bool false))) False) (K (PV.bool true))) (K (PV.bool false))) (K (PV.bool false))))) (K (PV.bool true)))) (K (PV.bool true))) : ACalls Try.prog gl 7 [m.pv, .agg [.int .i64 n, .int .u16 s], .list (l.map Ti.cs) .no] [] (fun x _ => K x) :=
  acalls_of_wpc2 (T := TC) (L := [([1, 1, 1, 1, 1, 0, 1, 0], no_l)]) (fun _ => 0) Try.func7 (by kernel_rfl) (by kernel_rfl) (by kernel_rfl) (TC_ok) (.cons (sub_of (by kernel_rfl)) no_l_ok (.nil _ _ _ _ _)) (holds_of_eq (lNone_red m n s l K) h)
theorem find_min {p : List Bool → Bool} : ∀ {L : List (List Bool)} {b : List Bool}, L.Pairwise (fun a b => lexlt a b = true) → L.find? p = some b → ∀ c ∈ L, p c = true → c = b ∨ lexlt b c = true
  | [], _, _, h, _, _, _ => by cases h
  | a :: L, b, hL, h, c, hc, hp => by
    have hL' := List.pairwise_cons.1 hL
    rw [List.find?_cons] at h
    cases ha : p a with
    | true =>
      rw [ha] at h
      cases h
      rcases List.mem_cons.1 hc with rfl | hc
      · exact .inl rfl
      · exact .inr (hL'.1 c hc)
    | false =>
      rw [ha] at h
      rcases List.mem_cons.1 hc with rfl | hc
      · rw [ha] at hp; cases hp
      · exact find_min hL'.2 h c hc hp
/-- some tickets that make a match: their places are a way that the walk looks at -/
theorem way_of {m : Mo} {n : Int} {l : List Ti} {bs : List Bool} (hf : fitsS m n (takenL l (plB true 0 bs)) = true) (ht : (teamsS m (takenL l (plB true 0 bs))).isSome = true) : lgB ⟨m, n, l⟩ bs = true := by
  obtain ⟨r0, hr0⟩ := Option.isSome_iff_exists.1 ht
  obtain ⟨⟨ok, _⟩, cs, h1, h2, h3, rfl⟩ := teams_what hr0
  rw [taken_len] at h1
  have hs := of_decide_eq_true h3
  have e : ∀ v, sumP (pnL (takenL l (plB true 0 bs))) (plB v 0 cs) = sumP (pnL l) (selB v cs (plB true 0 bs)) := fun v => by
    have o : overL (plB true 0 bs) (plB v 0 cs) = selB v cs (plB true 0 bs) := over_sel v cs (plB true 0 bs) [] h1
    rw [← o]
    unfold overL
    rw [sumP_map]
    exact sumP_congr fun k hk => pn_taken l _ (by have := (plB_small (v := v) h1).2 k hk; exact this)
  rw [e, e] at hs
  refine lgB_iff.2 ⟨?_, (fits_pw ok _).1 hf, ?_⟩
  · rw [← sumP_perm (pnL l) (sel_perm cs _ h1), sumP_append, hs.1, hs.2]
    show m.K + m.K = 2 * m.K; omega
  · show (tmS ⟨m, n, l⟩ (plB true 0 bs)).isSome = true
    unfold tmS
    show (Option.map _ (teamsS m (takenL l (plB true 0 bs)))).isSome = true
    rw [hr0]; rfl
theorem find_some {m : Mo} {n : Int} {l : List Ti} {bs : List Bool} (ok : okM m) (h16 : l.length ≤ 16) (hb : bs.length = l.length) (h : lgB ⟨m, n, l⟩ bs = true) : ∃ r, findS m n l = some r := by
  rw [find_eq ok h16]
  cases hf : (lexB l.length).find? (lgB ⟨m, n, l⟩) with
  | none => exact absurd h (List.find?_eq_none.1 hf bs (lexB_len.2 hb))
  | some b =>
    have := (lgB_iff.1 (List.find?_some hf)).2.2
    obtain ⟨r, hr⟩ := Option.isSome_iff_exists.1 this
    exact ⟨r, hr⟩
theorem none_law (m : Mo) (n : Int) (s : Nat) (l : List Ti) (hn : in64 n) (h : LnOk l) {K : PV → Prop} (hk : K (.bool true)) : ACalls Try.prog gl 7 [m.pv, .agg [.int .i64 n, .int .u16 s], .list (l.map Ti.cs) .no] [] (fun x _ => K x) := by
  refine lNone_vc m n s l K ?_
  simp only [br_if, bf, df, dt, bt, beq_If, beq_I, List.length_map]
  by_cases c : (l.length : Int) > 16
  · rw [if_neg (fun q => q c)]; exact hk
  rw [if_pos c]
  refine ⟨l, .no, rfl, by omega, nt_of h, ?_⟩
  by_cases hs : smallS l = true
  · rw [if_neg (by rw [hs]; decide)]
    obtain ⟨hp, hl⟩ := small_of h hs (by omega)
    have hbl := bitsB_len l.length s
    have hpl := plB_small (v := true) hbl
    have lst : LsOk (takenL l (plB true 0 (bitsB l.length s))) := hl.taken hpl.2 (by omega)
    refine ⟨l, .no, rfl, hp, m, n, s, l, hl, by omega, rfl, rfl, ?_⟩
    by_cases c8 : ((takenL l (plB true 0 (bitsB l.length s))).length : Int) > 8
    · rw [if_neg (fun q => q c8)]; exact hk
    rw [if_pos c8]
    refine ⟨m, rfl, m, n, _, .no, rfl, hn, lst, ?_⟩
    by_cases cf : fitsS m n (takenL l (plB true 0 (bitsB l.length s))) = true
    · rw [if_neg (by rw [cf]; decide)]
      refine ⟨m, rfl, m, _, .no, rfl, lst, ?_⟩
      by_cases ct : (teamsS m (takenL l (plB true 0 (bitsB l.length s)))).isSome = true
      · rw [if_neg (by rw [ct]; decide)]
        have hw := way_of cf ct
        obtain ⟨r0, hr0⟩ := Option.isSome_iff_exists.1 ct
        obtain ⟨⟨ok, h1, _⟩, _⟩ := teams_what hr0
        obtain ⟨r, hr⟩ := find_some ok (by omega) hbl hw
        obtain ⟨bs, hm⟩ := match_of hr
        obtain ⟨f1, _, _, f4⟩ := hm.first
        have hA0 : 0 < r.1.length := List.length_pos_iff.2 f1
        refine ⟨m, rfl, m, n, l, .no, rfl, hn, hl, ?_⟩
        rw [if_pos (by rw [hr]; rfl), (find_tm hr).1, if_pos (by omega)]
        by_cases c2 : Int.tmod (s : Int) 2 = 0
        · rw [if_neg (fun q => q c2)]; exact hk
        · rw [if_pos c2, show (0 : Int) = ((0 : Nat) : Int) from rfl]
          simp only [inL_p, getD_map 0 hA0, pcs_f, pcs_c]
          refine ⟨hA0, ?_⟩
          have hodd : s % 2 = 1 := by
            rw [Int.tmod_eq_emod_of_nonneg (Int.natCast_nonneg _)] at c2
            omega
          have hz : r.1.getD 0 0 = 0 := by
            rw [f4]
            have hlen : 0 < l.length := by rw [taken_len] at h1; omega
            obtain ⟨k, hk'⟩ : ∃ k, l.length = k + 1 := ⟨l.length - 1, by omega⟩
            have hbits : bitsB l.length s = true :: bitsB k (s / 2) := by rw [hk', bitsB, decide_eq_true hodd]
            have hmin := find_min (lexB_sorted l.length) hm.fst _ (lexB_len.2 hbl) hw
            rw [hbits] at hmin
            cases hbs : bs with
            | nil => have := hm.bl; rw [hbs] at this; simp at this; omega
            | cons b ds =>
              rw [hbs] at hmin
              have hb : b = true := by
                rcases hmin with q | q
                · exact (List.cons.inj q).1.symm
                · rw [lexlt] at q
                  by_cases hb : b = true
                  · exact hb
                  · rw [if_neg hb] at q; exact q
              subst hb
              rfl
          rw [if_pos (by rfl : (true && true) = true), if_pos (by rw [hz])]
          exact hk
      · rw [if_pos (by rw [Bool.eq_false_iff.2 ct]; rfl)]; exact hk
    · rw [if_pos (by rw [Bool.eq_false_iff.2 cf]; rfl)]; exact hk
  · rw [if_pos (by rw [Bool.eq_false_iff.2 hs]; rfl)]; exact hk
theorem u53 : Try.prog.underlying 53 = some (.int .u16) := by kernel_rfl
theorem none_args (xs : List PV) (h : WTargs Try.prog 6 Try.f7.params.toList xs) : ACalls Try.prog gl 7 xs [] (fun x _ => x = .bool true) := by
  rw [Try.params7] at h
  obtain ⟨x, r, rfl, h1, y, r2, rfl, h2, z, r3, rfl, h3, h4⟩ := h
  obtain rfl := wtargs_nil h4
  obtain ⟨m, rfl⟩ := moa_of h1
  obtain ⟨cs, rfl, g⟩ := wta_struct Try.underlying55 h2
  have g : WFs (WTp Try.prog 5) [2, 53] cs := g
  obtain ⟨a, r, rfl, g1, b, r2, rfl, g2, g3⟩ := g
  obtain rfl := wfs_nil g3
  obtain ⟨n, rfl, hn⟩ := wtp_int u2 g1
  obtain ⟨q, rfl, hq0, hq1⟩ := wtp_int u53 g2
  obtain ⟨l, rfl, hl⟩ := tis_of h3
  have hq0 : 0 ≤ q := hq0
  obtain ⟨s, rfl⟩ : ∃ s : Nat, q = (s : Int) := ⟨q.toNat, by omega⟩
  exact none_law m n s l hn hl (K := fun x => x = .bool true) rfl
theorem u0_red (X Y : List Nat) (i k : Nat) (R : Ex → List PV → Heap → Prop) : (br (decide ((↑k : Int) < (↑(List.length (List.map pcs X)) : Int))) (InL (List.map pcs X) 1 (↑k : Int) ∧ br (true && fitX [CK.int IntKind.i64] 0 (List.getD (List.map pcs X) (Int.toNat (↑k : Int)) [])) (br (cI (List.getD (List.map pcs X) (Int.toNat (↑k : Int)) []) 0 == (↑i : Int)) (AppL [] [[PV.int IntKind.i64 (↑i : Int)]] 1 8 ∧ (List.all [PV.int IntKind.i64 (↑i : Int)] PV.one = true ∧ [[PV.int IntKind.i64 (↑i : Int)]] ≠ []) ∧ R Ex.normal [PV.ptr 0 0, PV.list [[PV.int IntKind.i64 (↑i : Int)]] (Tail.tok 1), PV.int IntKind.i64 (↑i : Int), PV.int IntKind.i64 (wI ((↑k : Int) + 1))] [Ob.cells [PV.list (List.map pcs X) Tail.no, PV.list (List.map pcs Y) Tail.no], Ob.tok]) (R Ex.normal [PV.ptr 0 0, PV.list [] Tail.exact, PV.int IntKind.i64 (↑i : Int), PV.int IntKind.i64 (wI ((↑k : Int) + 1))] [Ob.cells [PV.list (List.map pcs X) Tail.no, PV.list (List.map pcs Y) Tail.no]])) False) (R (Ex.exit 2) [PV.ptr 0 0, PV.list [] Tail.exact, PV.int IntKind.i64 (↑i : Int), PV.int IntKind.i64 (↑k : Int)] [Ob.cells [PV.list (List.map pcs X) Tail.no, PV.list (List.map pcs Y) Tail.no]])) = wpc br Try.prog gl TC [] (fun o => match o.dst with | some 28 => 1 | some 46 => 1 | _ => 0) (subOf [1, 1, 0, 1, 0, 0, 1, 0, 0, 0, 1, 0] (bodyOf Try.f25)) [] (envS [1, 3, 4, 5] [.ptr 0 0, .list [] .exact, .int .i64 i, .int .i64 k]) [.cells (sp2 X Y)] (fun ex e H => R ex (List.map e [1, 3, 4, 5]) H) := by kernel_rfl
theorem u0_vc (X Y : List Nat) (i k : Nat) (R : Ex → List PV → Heap → Prop) (h : br (decide ((↑k : Int) < (↑(List.length (List.map pcs X)) : Int))) (InL (List.map pcs X) 1 (↑k : Int) ∧ br (true && fitX [CK.int IntKind.i64] 0 (List.getD (List.map pcs X) (Int.toNat (↑k : Int)) [])) (br (cI (List.getD (List.map pcs X) (Int.toNat (↑k : Int)) []) 0 == (↑i : Int)) (AppL [] [[PV.int IntKind.i64 (↑i : Int)]] 1 8 ∧ (List.all [PV.int IntKind.i64 (↑i : Int)] PV.one = true ∧ [[PV.int IntKind.i64 (↑i : Int)]] ≠ []) ∧ R Ex.normal [PV.ptr 0 0, PV.list [[PV.int IntKind.i64 (↑i : Int)]] (Tail.tok 1), PV.int IntKind.i64 (↑i : Int), PV.int IntKind.i64 (wI ((↑k : Int) + 1))] [Ob.cells [PV.list (List.map pcs X) Tail.no, PV.list (List.map pcs Y) Tail.no], Ob.tok]) (R Ex.normal [PV.ptr 0 0, PV.list [] Tail.exact, PV.int IntKind.i64 (↑i : Int), PV.int IntKind.i64 (wI ((↑k : Int) + 1))] [Ob.cells [PV.list (List.map pcs X) Tail.no, PV.list (List.map pcs Y) Tail.no]])) False) (R (Ex.exit 2) [PV.ptr 0 0, PV.list [] Tail.exact, PV.int IntKind.i64 (↑i : Int), PV.int IntKind.i64 (↑k : Int)] [Ob.cells [PV.list (List.map pcs X) Tail.no, PV.list (List.map pcs Y) Tail.no]])) : Holds (wpc br Try.prog gl TC [] (fun o => match o.dst with | some 28 => 1 | some 46 => 1 | _ => 0) (subOf [1, 1, 0, 1, 0, 0, 1, 0, 0, 0, 1, 0] (bodyOf Try.f25)) [] (envS [1, 3, 4, 5] [.ptr 0 0, .list [] .exact, .int .i64 i, .int .i64 k]) [.cells (sp2 X Y)] (fun ex e H => R ex (List.map e [1, 3, 4, 5]) H)) := holds_of_eq (u0_red X Y i k R) h
theorem u1_red (X Y : List Nat) (x : List Nat) (i k : Nat) (R : Ex → List PV → Heap → Prop) : (br (decide ((↑k : Int) < (↑(List.length (List.map pcs X)) : Int))) (InL (List.map pcs X) 1 (↑k : Int) ∧ br (true && fitX [CK.int IntKind.i64] 0 (List.getD (List.map pcs X) (Int.toNat (↑k : Int)) [])) (br (cI (List.getD (List.map pcs X) (Int.toNat (↑k : Int)) []) 0 == (↑i : Int)) (AppL (List.map pcs x) [[PV.int IntKind.i64 (↑i : Int)]] 1 8 ∧ (List.all [PV.int IntKind.i64 (↑i : Int)] PV.one = true ∧ [[PV.int IntKind.i64 (↑i : Int)]] ≠ []) ∧ R Ex.normal [PV.ptr 0 0, PV.list (List.map pcs x ++ [[PV.int IntKind.i64 (↑i : Int)]]) (Tail.tok 2), PV.int IntKind.i64 (↑i : Int), PV.int IntKind.i64 (wI ((↑k : Int) + 1))] [Ob.cells [PV.list (List.map pcs X) Tail.no, PV.list (List.map pcs Y) Tail.no], Ob.dead, Ob.tok]) (R Ex.normal [PV.ptr 0 0, PV.list (List.map pcs x) (Tail.tok 1), PV.int IntKind.i64 (↑i : Int), PV.int IntKind.i64 (wI ((↑k : Int) + 1))] [Ob.cells [PV.list (List.map pcs X) Tail.no, PV.list (List.map pcs Y) Tail.no], Ob.tok])) False) (R (Ex.exit 2) [PV.ptr 0 0, PV.list (List.map pcs x) (Tail.tok 1), PV.int IntKind.i64 (↑i : Int), PV.int IntKind.i64 (↑k : Int)] [Ob.cells [PV.list (List.map pcs X) Tail.no, PV.list (List.map pcs Y) Tail.no], Ob.tok])) = wpc br Try.prog gl TC [] (fun o => match o.dst with | some 28 => 1 | some 46 => 1 | _ => 0) (subOf [1, 1, 0, 1, 0, 0, 1, 0, 0, 0, 1, 0] (bodyOf Try.f25)) [] (envS [1, 3, 4, 5] [.ptr 0 0, .list (x.map pcs) (.tok 1), .int .i64 i, .int .i64 k]) [.cells (sp2 X Y), .tok] (fun ex e H => R ex (List.map e [1, 3, 4, 5]) H) := by kernel_rfl
theorem u1_vc (X Y : List Nat) (x : List Nat) (i k : Nat) (R : Ex → List PV → Heap → Prop) (h : br (decide ((↑k : Int) < (↑(List.length (List.map pcs X)) : Int))) (InL (List.map pcs X) 1 (↑k : Int) ∧ br (true && fitX [CK.int IntKind.i64] 0 (List.getD (List.map pcs X) (Int.toNat (↑k : Int)) [])) (br (cI (List.getD (List.map pcs X) (Int.toNat (↑k : Int)) []) 0 == (↑i : Int)) (AppL (List.map pcs x) [[PV.int IntKind.i64 (↑i : Int)]] 1 8 ∧ (List.all [PV.int IntKind.i64 (↑i : Int)] PV.one = true ∧ [[PV.int IntKind.i64 (↑i : Int)]] ≠ []) ∧ R Ex.normal [PV.ptr 0 0, PV.list (List.map pcs x ++ [[PV.int IntKind.i64 (↑i : Int)]]) (Tail.tok 2), PV.int IntKind.i64 (↑i : Int), PV.int IntKind.i64 (wI ((↑k : Int) + 1))] [Ob.cells [PV.list (List.map pcs X) Tail.no, PV.list (List.map pcs Y) Tail.no], Ob.dead, Ob.tok]) (R Ex.normal [PV.ptr 0 0, PV.list (List.map pcs x) (Tail.tok 1), PV.int IntKind.i64 (↑i : Int), PV.int IntKind.i64 (wI ((↑k : Int) + 1))] [Ob.cells [PV.list (List.map pcs X) Tail.no, PV.list (List.map pcs Y) Tail.no], Ob.tok])) False) (R (Ex.exit 2) [PV.ptr 0 0, PV.list (List.map pcs x) (Tail.tok 1), PV.int IntKind.i64 (↑i : Int), PV.int IntKind.i64 (↑k : Int)] [Ob.cells [PV.list (List.map pcs X) Tail.no, PV.list (List.map pcs Y) Tail.no], Ob.tok])) : Holds (wpc br Try.prog gl TC [] (fun o => match o.dst with | some 28 => 1 | some 46 => 1 | _ => 0) (subOf [1, 1, 0, 1, 0, 0, 1, 0, 0, 0, 1, 0] (bodyOf Try.f25)) [] (envS [1, 3, 4, 5] [.ptr 0 0, .list (x.map pcs) (.tok 1), .int .i64 i, .int .i64 k]) [.cells (sp2 X Y), .tok] (fun ex e H => R ex (List.map e [1, 3, 4, 5]) H)) := holds_of_eq (u1_red X Y x i k R) h
theorem u2_red (X Y : List Nat) (x : List Nat) (i k : Nat) (R : Ex → List PV → Heap → Prop) : (br (decide ((↑k : Int) < (↑(List.length (List.map pcs X)) : Int))) (InL (List.map pcs X) 1 (↑k : Int) ∧ br (true && fitX [CK.int IntKind.i64] 0 (List.getD (List.map pcs X) (Int.toNat (↑k : Int)) [])) (br (cI (List.getD (List.map pcs X) (Int.toNat (↑k : Int)) []) 0 == (↑i : Int)) (AppL (List.map pcs x) [[PV.int IntKind.i64 (↑i : Int)]] 1 8 ∧ (List.all [PV.int IntKind.i64 (↑i : Int)] PV.one = true ∧ [[PV.int IntKind.i64 (↑i : Int)]] ≠ []) ∧ R Ex.normal [PV.ptr 0 0, PV.list (List.map pcs x ++ [[PV.int IntKind.i64 (↑i : Int)]]) (Tail.tok 3), PV.int IntKind.i64 (↑i : Int), PV.int IntKind.i64 (wI ((↑k : Int) + 1))] [Ob.cells [PV.list (List.map pcs X) Tail.no, PV.list (List.map pcs Y) Tail.no], Ob.dead, Ob.dead, Ob.tok]) (R Ex.normal [PV.ptr 0 0, PV.list (List.map pcs x) (Tail.tok 2), PV.int IntKind.i64 (↑i : Int), PV.int IntKind.i64 (wI ((↑k : Int) + 1))] [Ob.cells [PV.list (List.map pcs X) Tail.no, PV.list (List.map pcs Y) Tail.no], Ob.dead, Ob.tok])) False) (R (Ex.exit 2) [PV.ptr 0 0, PV.list (List.map pcs x) (Tail.tok 2), PV.int IntKind.i64 (↑i : Int), PV.int IntKind.i64 (↑k : Int)] [Ob.cells [PV.list (List.map pcs X) Tail.no, PV.list (List.map pcs Y) Tail.no], Ob.dead, Ob.tok])) = wpc br Try.prog gl TC [] (fun o => match o.dst with | some 28 => 1 | some 46 => 1 | _ => 0) (subOf [1, 1, 0, 1, 0, 0, 1, 0, 0, 0, 1, 0] (bodyOf Try.f25)) [] (envS [1, 3, 4, 5] [.ptr 0 0, .list (x.map pcs) (.tok 2), .int .i64 i, .int .i64 k]) [.cells (sp2 X Y), .dead, .tok] (fun ex e H => R ex (List.map e [1, 3, 4, 5]) H) := by kernel_rfl
theorem u2_vc (X Y : List Nat) (x : List Nat) (i k : Nat) (R : Ex → List PV → Heap → Prop) (h : br (decide ((↑k : Int) < (↑(List.length (List.map pcs X)) : Int))) (InL (List.map pcs X) 1 (↑k : Int) ∧ br (true && fitX [CK.int IntKind.i64] 0 (List.getD (List.map pcs X) (Int.toNat (↑k : Int)) [])) (br (cI (List.getD (List.map pcs X) (Int.toNat (↑k : Int)) []) 0 == (↑i : Int)) (AppL (List.map pcs x) [[PV.int IntKind.i64 (↑i : Int)]] 1 8 ∧ (List.all [PV.int IntKind.i64 (↑i : Int)] PV.one = true ∧ [[PV.int IntKind.i64 (↑i : Int)]] ≠ []) ∧ R Ex.normal [PV.ptr 0 0, PV.list (List.map pcs x ++ [[PV.int IntKind.i64 (↑i : Int)]]) (Tail.tok 3), PV.int IntKind.i64 (↑i : Int), PV.int IntKind.i64 (wI ((↑k : Int) + 1))] [Ob.cells [PV.list (List.map pcs X) Tail.no, PV.list (List.map pcs Y) Tail.no], Ob.dead, Ob.dead, Ob.tok]) (R Ex.normal [PV.ptr 0 0, PV.list (List.map pcs x) (Tail.tok 2), PV.int IntKind.i64 (↑i : Int), PV.int IntKind.i64 (wI ((↑k : Int) + 1))] [Ob.cells [PV.list (List.map pcs X) Tail.no, PV.list (List.map pcs Y) Tail.no], Ob.dead, Ob.tok])) False) (R (Ex.exit 2) [PV.ptr 0 0, PV.list (List.map pcs x) (Tail.tok 2), PV.int IntKind.i64 (↑i : Int), PV.int IntKind.i64 (↑k : Int)] [Ob.cells [PV.list (List.map pcs X) Tail.no, PV.list (List.map pcs Y) Tail.no], Ob.dead, Ob.tok])) : Holds (wpc br Try.prog gl TC [] (fun o => match o.dst with | some 28 => 1 | some 46 => 1 | _ => 0) (subOf [1, 1, 0, 1, 0, 0, 1, 0, 0, 0, 1, 0] (bodyOf Try.f25)) [] (envS [1, 3, 4, 5] [.ptr 0 0, .list (x.map pcs) (.tok 2), .int .i64 i, .int .i64 k]) [.cells (sp2 X Y), .dead, .tok] (fun ex e H => R ex (List.map e [1, 3, 4, 5]) H)) := holds_of_eq (u2_red X Y x i k R) h
theorem w0_red (X Y : List Nat) (i k : Nat) (R : Ex → List PV → Heap → Prop) : (br (decide ((↑k : Int) < (↑(List.length (List.map pcs Y)) : Int))) (InL (List.map pcs Y) 1 (↑k : Int) ∧ br (true && fitX [CK.int IntKind.i64] 0 (List.getD (List.map pcs Y) (Int.toNat (↑k : Int)) [])) (br (cI (List.getD (List.map pcs Y) (Int.toNat (↑k : Int)) []) 0 == (↑i : Int)) (AppL [] [[PV.int IntKind.i64 (↑i : Int)]] 1 8 ∧ (List.all [PV.int IntKind.i64 (↑i : Int)] PV.one = true ∧ [[PV.int IntKind.i64 (↑i : Int)]] ≠ []) ∧ R Ex.normal [PV.ptr 0 0, PV.list [[PV.int IntKind.i64 (↑i : Int)]] (Tail.tok 1), PV.int IntKind.i64 (↑i : Int), PV.int IntKind.i64 (wI ((↑k : Int) + 1))] [Ob.cells [PV.list (List.map pcs X) Tail.no, PV.list (List.map pcs Y) Tail.no], Ob.tok]) (R Ex.normal [PV.ptr 0 0, PV.list [] Tail.exact, PV.int IntKind.i64 (↑i : Int), PV.int IntKind.i64 (wI ((↑k : Int) + 1))] [Ob.cells [PV.list (List.map pcs X) Tail.no, PV.list (List.map pcs Y) Tail.no]])) False) (R (Ex.exit 4) [PV.ptr 0 0, PV.list [] Tail.exact, PV.int IntKind.i64 (↑i : Int), PV.int IntKind.i64 (↑k : Int)] [Ob.cells [PV.list (List.map pcs X) Tail.no, PV.list (List.map pcs Y) Tail.no]])) = wpc br Try.prog gl TC [] (fun o => match o.dst with | some 28 => 1 | some 46 => 1 | _ => 0) (subOf [1, 1, 0, 1, 0, 0, 1, 0, 0, 1, 1, 0] (bodyOf Try.f25)) [] (envS [1, 3, 4, 6] [.ptr 0 0, .list [] .exact, .int .i64 i, .int .i64 k]) [.cells (sp2 X Y)] (fun ex e H => R ex (List.map e [1, 3, 4, 6]) H) := by kernel_rfl
theorem w0_vc (X Y : List Nat) (i k : Nat) (R : Ex → List PV → Heap → Prop) (h : br (decide ((↑k : Int) < (↑(List.length (List.map pcs Y)) : Int))) (InL (List.map pcs Y) 1 (↑k : Int) ∧ br (true && fitX [CK.int IntKind.i64] 0 (List.getD (List.map pcs Y) (Int.toNat (↑k : Int)) [])) (br (cI (List.getD (List.map pcs Y) (Int.toNat (↑k : Int)) []) 0 == (↑i : Int)) (AppL [] [[PV.int IntKind.i64 (↑i : Int)]] 1 8 ∧ (List.all [PV.int IntKind.i64 (↑i : Int)] PV.one = true ∧ [[PV.int IntKind.i64 (↑i : Int)]] ≠ []) ∧ R Ex.normal [PV.ptr 0 0, PV.list [[PV.int IntKind.i64 (↑i : Int)]] (Tail.tok 1), PV.int IntKind.i64 (↑i : Int), PV.int IntKind.i64 (wI ((↑k : Int) + 1))] [Ob.cells [PV.list (List.map pcs X) Tail.no, PV.list (List.map pcs Y) Tail.no], Ob.tok]) (R Ex.normal [PV.ptr 0 0, PV.list [] Tail.exact, PV.int IntKind.i64 (↑i : Int), PV.int IntKind.i64 (wI ((↑k : Int) + 1))] [Ob.cells [PV.list (List.map pcs X) Tail.no, PV.list (List.map pcs Y) Tail.no]])) False) (R (Ex.exit 4) [PV.ptr 0 0, PV.list [] Tail.exact, PV.int IntKind.i64 (↑i : Int), PV.int IntKind.i64 (↑k : Int)] [Ob.cells [PV.list (List.map pcs X) Tail.no, PV.list (List.map pcs Y) Tail.no]])) : Holds (wpc br Try.prog gl TC [] (fun o => match o.dst with | some 28 => 1 | some 46 => 1 | _ => 0) (subOf [1, 1, 0, 1, 0, 0, 1, 0, 0, 1, 1, 0] (bodyOf Try.f25)) [] (envS [1, 3, 4, 6] [.ptr 0 0, .list [] .exact, .int .i64 i, .int .i64 k]) [.cells (sp2 X Y)] (fun ex e H => R ex (List.map e [1, 3, 4, 6]) H)) := holds_of_eq (w0_red X Y i k R) h
theorem w1_red (X Y : List Nat) (x : List Nat) (i k : Nat) (R : Ex → List PV → Heap → Prop) : (br (decide ((↑k : Int) < (↑(List.length (List.map pcs Y)) : Int))) (InL (List.map pcs Y) 1 (↑k : Int) ∧ br (true && fitX [CK.int IntKind.i64] 0 (List.getD (List.map pcs Y) (Int.toNat (↑k : Int)) [])) (br (cI (List.getD (List.map pcs Y) (Int.toNat (↑k : Int)) []) 0 == (↑i : Int)) (AppL (List.map pcs x) [[PV.int IntKind.i64 (↑i : Int)]] 1 8 ∧ (List.all [PV.int IntKind.i64 (↑i : Int)] PV.one = true ∧ [[PV.int IntKind.i64 (↑i : Int)]] ≠ []) ∧ R Ex.normal [PV.ptr 0 0, PV.list (List.map pcs x ++ [[PV.int IntKind.i64 (↑i : Int)]]) (Tail.tok 2), PV.int IntKind.i64 (↑i : Int), PV.int IntKind.i64 (wI ((↑k : Int) + 1))] [Ob.cells [PV.list (List.map pcs X) Tail.no, PV.list (List.map pcs Y) Tail.no], Ob.dead, Ob.tok]) (R Ex.normal [PV.ptr 0 0, PV.list (List.map pcs x) (Tail.tok 1), PV.int IntKind.i64 (↑i : Int), PV.int IntKind.i64 (wI ((↑k : Int) + 1))] [Ob.cells [PV.list (List.map pcs X) Tail.no, PV.list (List.map pcs Y) Tail.no], Ob.tok])) False) (R (Ex.exit 4) [PV.ptr 0 0, PV.list (List.map pcs x) (Tail.tok 1), PV.int IntKind.i64 (↑i : Int), PV.int IntKind.i64 (↑k : Int)] [Ob.cells [PV.list (List.map pcs X) Tail.no, PV.list (List.map pcs Y) Tail.no], Ob.tok])) = wpc br Try.prog gl TC [] (fun o => match o.dst with | some 28 => 1 | some 46 => 1 | _ => 0) (subOf [1, 1, 0, 1, 0, 0, 1, 0, 0, 1, 1, 0] (bodyOf Try.f25)) [] (envS [1, 3, 4, 6] [.ptr 0 0, .list (x.map pcs) (.tok 1), .int .i64 i, .int .i64 k]) [.cells (sp2 X Y), .tok] (fun ex e H => R ex (List.map e [1, 3, 4, 6]) H) := by kernel_rfl
theorem w1_vc (X Y : List Nat) (x : List Nat) (i k : Nat) (R : Ex → List PV → Heap → Prop) (h : br (decide ((↑k : Int) < (↑(List.length (List.map pcs Y)) : Int))) (InL (List.map pcs Y) 1 (↑k : Int) ∧ br (true && fitX [CK.int IntKind.i64] 0 (List.getD (List.map pcs Y) (Int.toNat (↑k : Int)) [])) (br (cI (List.getD (List.map pcs Y) (Int.toNat (↑k : Int)) []) 0 == (↑i : Int)) (AppL (List.map pcs x) [[PV.int IntKind.i64 (↑i : Int)]] 1 8 ∧ (List.all [PV.int IntKind.i64 (↑i : Int)] PV.one = true ∧ [[PV.int IntKind.i64 (↑i : Int)]] ≠ []) ∧ R Ex.normal [PV.ptr 0 0, PV.list (List.map pcs x ++ [[PV.int IntKind.i64 (↑i : Int)]]) (Tail.tok 2), PV.int IntKind.i64 (↑i : Int), PV.int IntKind.i64 (wI ((↑k : Int) + 1))] [Ob.cells [PV.list (List.map pcs X) Tail.no, PV.list (List.map pcs Y) Tail.no], Ob.dead, Ob.tok]) (R Ex.normal [PV.ptr 0 0, PV.list (List.map pcs x) (Tail.tok 1), PV.int IntKind.i64 (↑i : Int), PV.int IntKind.i64 (wI ((↑k : Int) + 1))] [Ob.cells [PV.list (List.map pcs X) Tail.no, PV.list (List.map pcs Y) Tail.no], Ob.tok])) False) (R (Ex.exit 4) [PV.ptr 0 0, PV.list (List.map pcs x) (Tail.tok 1), PV.int IntKind.i64 (↑i : Int), PV.int IntKind.i64 (↑k : Int)] [Ob.cells [PV.list (List.map pcs X) Tail.no, PV.list (List.map pcs Y) Tail.no], Ob.tok])) : Holds (wpc br Try.prog gl TC [] (fun o => match o.dst with | some 28 => 1 | some 46 => 1 | _ => 0) (subOf [1, 1, 0, 1, 0, 0, 1, 0, 0, 1, 1, 0] (bodyOf Try.f25)) [] (envS [1, 3, 4, 6] [.ptr 0 0, .list (x.map pcs) (.tok 1), .int .i64 i, .int .i64 k]) [.cells (sp2 X Y), .tok] (fun ex e H => R ex (List.map e [1, 3, 4, 6]) H)) := holds_of_eq (w1_red X Y x i k R) h
theorem w2_red (X Y : List Nat) (x : List Nat) (i k : Nat) (R : Ex → List PV → Heap → Prop) : (br (decide ((↑k : Int) < (↑(List.length (List.map pcs Y)) : Int))) (InL (List.map pcs Y) 1 (↑k : Int) ∧ br (true && fitX [CK.int IntKind.i64] 0 (List.getD (List.map pcs Y) (Int.toNat (↑k : Int)) [])) (br (cI (List.getD (List.map pcs Y) (Int.toNat (↑k : Int)) []) 0 == (↑i : Int)) (AppL (List.map pcs x) [[PV.int IntKind.i64 (↑i : Int)]] 1 8 ∧ (List.all [PV.int IntKind.i64 (↑i : Int)] PV.one = true ∧ [[PV.int IntKind.i64 (↑i : Int)]] ≠ []) ∧ R Ex.normal [PV.ptr 0 0, PV.list (List.map pcs x ++ [[PV.int IntKind.i64 (↑i : Int)]]) (Tail.tok 3), PV.int IntKind.i64 (↑i : Int), PV.int IntKind.i64 (wI ((↑k : Int) + 1))] [Ob.cells [PV.list (List.map pcs X) Tail.no, PV.list (List.map pcs Y) Tail.no], Ob.dead, Ob.dead, Ob.tok]) (R Ex.normal [PV.ptr 0 0, PV.list (List.map pcs x) (Tail.tok 2), PV.int IntKind.i64 (↑i : Int), PV.int IntKind.i64 (wI ((↑k : Int) + 1))] [Ob.cells [PV.list (List.map pcs X) Tail.no, PV.list (List.map pcs Y) Tail.no], Ob.dead, Ob.tok])) False) (R (Ex.exit 4) [PV.ptr 0 0, PV.list (List.map pcs x) (Tail.tok 2), PV.int IntKind.i64 (↑i : Int), PV.int IntKind.i64 (↑k : Int)] [Ob.cells [PV.list (List.map pcs X) Tail.no, PV.list (List.map pcs Y) Tail.no], Ob.dead, Ob.tok])) = wpc br Try.prog gl TC [] (fun o => match o.dst with | some 28 => 1 | some 46 => 1 | _ => 0) (subOf [1, 1, 0, 1, 0, 0, 1, 0, 0, 1, 1, 0] (bodyOf Try.f25)) [] (envS [1, 3, 4, 6] [.ptr 0 0, .list (x.map pcs) (.tok 2), .int .i64 i, .int .i64 k]) [.cells (sp2 X Y), .dead, .tok] (fun ex e H => R ex (List.map e [1, 3, 4, 6]) H) := by kernel_rfl
theorem w2_vc (X Y : List Nat) (x : List Nat) (i k : Nat) (R : Ex → List PV → Heap → Prop) (h : br (decide ((↑k : Int) < (↑(List.length (List.map pcs Y)) : Int))) (InL (List.map pcs Y) 1 (↑k : Int) ∧ br (true && fitX [CK.int IntKind.i64] 0 (List.getD (List.map pcs Y) (Int.toNat (↑k : Int)) [])) (br (cI (List.getD (List.map pcs Y) (Int.toNat (↑k : Int)) []) 0 == (↑i : Int)) (AppL (List.map pcs x) [[PV.int IntKind.i64 (↑i : Int)]] 1 8 ∧ (List.all [PV.int IntKind.i64 (↑i : Int)] PV.one = true ∧ [[PV.int IntKind.i64 (↑i : Int)]] ≠ []) ∧ R Ex.normal [PV.ptr 0 0, PV.list (List.map pcs x ++ [[PV.int IntKind.i64 (↑i : Int)]]) (Tail.tok 3), PV.int IntKind.i64 (↑i : Int), PV.int IntKind.i64 (wI ((↑k : Int) + 1))] [Ob.cells [PV.list (List.map pcs X) Tail.no, PV.list (List.map pcs Y) Tail.no], Ob.dead, Ob.dead, Ob.tok]) (R Ex.normal [PV.ptr 0 0, PV.list (List.map pcs x) (Tail.tok 2), PV.int IntKind.i64 (↑i : Int), PV.int IntKind.i64 (wI ((↑k : Int) + 1))] [Ob.cells [PV.list (List.map pcs X) Tail.no, PV.list (List.map pcs Y) Tail.no], Ob.dead, Ob.tok])) False) (R (Ex.exit 4) [PV.ptr 0 0, PV.list (List.map pcs x) (Tail.tok 2), PV.int IntKind.i64 (↑i : Int), PV.int IntKind.i64 (↑k : Int)] [Ob.cells [PV.list (List.map pcs X) Tail.no, PV.list (List.map pcs Y) Tail.no], Ob.dead, Ob.tok])) : Holds (wpc br Try.prog gl TC [] (fun o => match o.dst with | some 28 => 1 | some 46 => 1 | _ => 0) (subOf [1, 1, 0, 1, 0, 0, 1, 0, 0, 1, 1, 0] (bodyOf Try.f25)) [] (envS [1, 3, 4, 6] [.ptr 0 0, .list (x.map pcs) (.tok 2), .int .i64 i, .int .i64 k]) [.cells (sp2 X Y), .dead, .tok] (fun ex e H => R ex (List.map e [1, 3, 4, 6]) H)) := holds_of_eq (w2_red X Y x i k R) h
theorem w3_red (X Y : List Nat) (x : List Nat) (i k : Nat) (R : Ex → List PV → Heap → Prop) : (br (decide ((↑k : Int) < (↑(List.length (List.map pcs Y)) : Int))) (InL (List.map pcs Y) 1 (↑k : Int) ∧ br (true && fitX [CK.int IntKind.i64] 0 (List.getD (List.map pcs Y) (Int.toNat (↑k : Int)) [])) (br (cI (List.getD (List.map pcs Y) (Int.toNat (↑k : Int)) []) 0 == (↑i : Int)) (AppL (List.map pcs x) [[PV.int IntKind.i64 (↑i : Int)]] 1 8 ∧ (List.all [PV.int IntKind.i64 (↑i : Int)] PV.one = true ∧ [[PV.int IntKind.i64 (↑i : Int)]] ≠ []) ∧ R Ex.normal [PV.ptr 0 0, PV.list (List.map pcs x ++ [[PV.int IntKind.i64 (↑i : Int)]]) (Tail.tok 4), PV.int IntKind.i64 (↑i : Int), PV.int IntKind.i64 (wI ((↑k : Int) + 1))] [Ob.cells [PV.list (List.map pcs X) Tail.no, PV.list (List.map pcs Y) Tail.no], Ob.dead, Ob.dead, Ob.dead, Ob.tok]) (R Ex.normal [PV.ptr 0 0, PV.list (List.map pcs x) (Tail.tok 3), PV.int IntKind.i64 (↑i : Int), PV.int IntKind.i64 (wI ((↑k : Int) + 1))] [Ob.cells [PV.list (List.map pcs X) Tail.no, PV.list (List.map pcs Y) Tail.no], Ob.dead, Ob.dead, Ob.tok])) False) (R (Ex.exit 4) [PV.ptr 0 0, PV.list (List.map pcs x) (Tail.tok 3), PV.int IntKind.i64 (↑i : Int), PV.int IntKind.i64 (↑k : Int)] [Ob.cells [PV.list (List.map pcs X) Tail.no, PV.list (List.map pcs Y) Tail.no], Ob.dead, Ob.dead, Ob.tok])) = wpc br Try.prog gl TC [] (fun o => match o.dst with | some 28 => 1 | some 46 => 1 | _ => 0) (subOf [1, 1, 0, 1, 0, 0, 1, 0, 0, 1, 1, 0] (bodyOf Try.f25)) [] (envS [1, 3, 4, 6] [.ptr 0 0, .list (x.map pcs) (.tok 3), .int .i64 i, .int .i64 k]) [.cells (sp2 X Y), .dead, .dead, .tok] (fun ex e H => R ex (List.map e [1, 3, 4, 6]) H) := by kernel_rfl
theorem w3_vc (X Y : List Nat) (x : List Nat) (i k : Nat) (R : Ex → List PV → Heap → Prop) (h : br (decide ((↑k : Int) < (↑(List.length (List.map pcs Y)) : Int))) (InL (List.map pcs Y) 1 (↑k : Int) ∧ br (true && fitX [CK.int IntKind.i64] 0 (List.getD (List.map pcs Y) (Int.toNat (↑k : Int)) [])) (br (cI (List.getD (List.map pcs Y) (Int.toNat (↑k : Int)) []) 0 == (↑i : Int)) (AppL (List.map pcs x) [[PV.int IntKind.i64 (↑i : Int)]] 1 8 ∧ (List.all [PV.int IntKind.i64 (↑i : Int)] PV.one = true ∧ [[PV.int IntKind.i64 (↑i : Int)]] ≠ []) ∧ R Ex.normal [PV.ptr 0 0, PV.list (List.map pcs x ++ [[PV.int IntKind.i64 (↑i : Int)]]) (Tail.tok 4), PV.int IntKind.i64 (↑i : Int), PV.int IntKind.i64 (wI ((↑k : Int) + 1))] [Ob.cells [PV.list (List.map pcs X) Tail.no, PV.list (List.map pcs Y) Tail.no], Ob.dead, Ob.dead, Ob.dead, Ob.tok]) (R Ex.normal [PV.ptr 0 0, PV.list (List.map pcs x) (Tail.tok 3), PV.int IntKind.i64 (↑i : Int), PV.int IntKind.i64 (wI ((↑k : Int) + 1))] [Ob.cells [PV.list (List.map pcs X) Tail.no, PV.list (List.map pcs Y) Tail.no], Ob.dead, Ob.dead, Ob.tok])) False) (R (Ex.exit 4) [PV.ptr 0 0, PV.list (List.map pcs x) (Tail.tok 3), PV.int IntKind.i64 (↑i : Int), PV.int IntKind.i64 (↑k : Int)] [Ob.cells [PV.list (List.map pcs X) Tail.no, PV.list (List.map pcs Y) Tail.no], Ob.dead, Ob.dead, Ob.tok])) : Holds (wpc br Try.prog gl TC [] (fun o => match o.dst with | some 28 => 1 | some 46 => 1 | _ => 0) (subOf [1, 1, 0, 1, 0, 0, 1, 0, 0, 1, 1, 0] (bodyOf Try.f25)) [] (envS [1, 3, 4, 6] [.ptr 0 0, .list (x.map pcs) (.tok 3), .int .i64 i, .int .i64 k]) [.cells (sp2 X Y), .dead, .dead, .tok] (fun ex e H => R ex (List.map e [1, 3, 4, 6]) H)) := holds_of_eq (w3_red X Y x i k R) h
def hpU (c : List PV) : Nat → Heap
  | 0 => [.cells c]
  | 1 => [.cells c, .tok]
  | 2 => [.cells c, .dead, .tok]
  | 3 => [.cells c, .dead, .dead, .tok]
  | _ => [.cells c, .dead, .dead, .dead, .tok]
def tlU : Nat → Tail
  | 0 => .exact
  | f + 1 => .tok (f + 1)
def acU (b : List Nat) (i : Nat) (q : List Nat) : List Nat := if i ∈ q then b ++ [i] else b
def fmU (f i : Nat) (q : List Nat) : Nat := if i ∈ q then f + 1 else f
theorem take_mem {X : List Nat} {i k : Nat} (h : k < X.length) : i ∈ X.take (k + 1) ↔ i ∈ X.take k ∨ X.getD k 0 = i := by
  rw [take_snoc 0 h, List.mem_append, List.mem_singleton]
  exact ⟨fun q => q.imp id Eq.symm, fun q => q.imp id Eq.symm⟩
theorem take_new {X : List Nat} (hX : X.Pairwise (· < ·)) {k : Nat} (h : k < X.length) : X.getD k 0 ∉ X.take k := by
  intro q
  obtain ⟨j, hj⟩ := List.mem_iff_getElem?.1 q
  rw [List.getElem?_take] at hj
  split at hj
  · rename_i hjk
    have hjl : j < X.length := by omega
    have := List.pairwise_iff_getElem.1 hX j k hjl h hjk
    rw [List.getElem?_eq_getElem hjl] at hj
    rw [List.getD_eq_getElem?_getD, List.getElem?_eq_getElem h] at hj
    have e : X[j] = X[k] := Option.some.inj hj
    omega
  · cases hj
theorem hpU_len (c : List PV) (f : Nat) : (hpU c f).length ≤ (hpU c (f + 1)).length := by
  match f with
  | 0 => exact Nat.le_succ _
  | 1 => exact Nat.le_succ _
  | 2 => exact Nat.le_succ _
  | 3 => exact Nat.le_succ _
  | f + 4 => exact Nat.le_refl _
theorem u_round (X Y acc : List Nat) (g i k : Nat) (hg : g ≤ 2) (ha : g = 0 ↔ acc = []) (hl : acc.length ≤ 50) (R : Ex → List PV → Heap → Prop)
    (h1 : k < X.length → X.getD k 0 = i → R .normal [.ptr 0 0, .list ((acc ++ [i]).map pcs) (tlU (g + 1)), .int .i64 i, .int .i64 (wI ((k : Int) + 1))] (hpU (sp2 X Y) (g + 1)))
    (h2 : k < X.length → X.getD k 0 ≠ i → R .normal [.ptr 0 0, .list (acc.map pcs) (tlU g), .int .i64 i, .int .i64 (wI ((k : Int) + 1))] (hpU (sp2 X Y) g))
    (h3 : ¬ k < X.length → R (.exit 2) [.ptr 0 0, .list (acc.map pcs) (tlU g), .int .i64 i, .int .i64 k] (hpU (sp2 X Y) g)) :
    Holds (wpc br Try.prog gl TC [] (fun o => match o.dst with | some 28 => 1 | some 46 => 1 | _ => 0) (subOf [1, 1, 0, 1, 0, 0, 1, 0, 0, 0, 1, 0] (bodyOf Try.f25)) [] (envS [1, 3, 4, 5] [.ptr 0 0, .list (acc.map pcs) (tlU g), .int .i64 i, .int .i64 k]) (hpU (sp2 X Y) g) (fun ex e H => R ex (List.map e [1, 3, 4, 5]) H)) := by
  have e1 : acc.map pcs ++ [[PV.int .i64 (i : Int)]] = (acc ++ [i]).map pcs := by rw [List.map_append]; rfl
  obtain rfl | rfl | rfl : g = 0 ∨ g = 1 ∨ g = 2 := by omega
  · have e0 : acc = [] := ha.1 rfl
    subst e0
    refine u0_vc X Y i k R ?_
    simp only [br_if, dt, beq_I, List.length_map, inL_p, toNat_nat]
    by_cases c : k < X.length
    · rw [if_pos (by omega)]
      simp only [getD_map 0 c, pcs_f, pcs_c]
      refine ⟨c, ?_⟩
      rw [if_pos (by rfl : (true && true) = true)]
      by_cases q : X.getD k 0 = i
      · rw [if_pos (by omega)]
        exact ⟨appL_p [] i (by simp), ⟨rfl, by simp⟩, h1 c q⟩
      · rw [if_neg (by omega)]; exact h2 c q
    · rw [if_neg (by omega)]; exact h3 c
  · refine u1_vc X Y acc i k R ?_
    simp only [br_if, dt, beq_I, List.length_map, inL_p, toNat_nat]
    by_cases c : k < X.length
    · rw [if_pos (by omega)]
      simp only [getD_map 0 c, pcs_f, pcs_c]
      refine ⟨c, ?_⟩
      rw [if_pos (by rfl : (true && true) = true)]
      by_cases q : X.getD k 0 = i
      · rw [if_pos (by omega)]
        exact ⟨appL_p acc i (by omega), ⟨rfl, by simp⟩, (by rw [e1]; exact h1 c q)⟩
      · rw [if_neg (by omega)]; exact h2 c q
    · rw [if_neg (by omega)]; exact h3 c
  · refine u2_vc X Y acc i k R ?_
    simp only [br_if, dt, beq_I, List.length_map, inL_p, toNat_nat]
    by_cases c : k < X.length
    · rw [if_pos (by omega)]
      simp only [getD_map 0 c, pcs_f, pcs_c]
      refine ⟨c, ?_⟩
      rw [if_pos (by rfl : (true && true) = true)]
      by_cases q : X.getD k 0 = i
      · rw [if_pos (by omega)]
        exact ⟨appL_p acc i (by omega), ⟨rfl, by simp⟩, (by rw [e1]; exact h1 c q)⟩
      · rw [if_neg (by omega)]; exact h2 c q
    · rw [if_neg (by omega)]; exact h3 c
def u_l : LSp := fun e H Q => ∃ (X Y acc : List Nat) (f i : Nat), f ≤ 1 ∧ (f = 0 ↔ acc = []) ∧ acc.length ≤ 40 ∧ X.Pairwise (· < ·) ∧ X.length ≤ 100 ∧ SlIs (List.map e [1, 3, 4, 5]) [.ptr 0 0, .list (acc.map pcs) (tlU f), .int .i64 i, .int .i64 0] ∧ HpIs H (hpU (sp2 X Y) f) ∧
  Q (.exit 2) (envS [1, 3, 4, 5] [.ptr 0 0, .list ((acU acc i X).map pcs) (tlU (fmU f i X)), .int .i64 i, .int .i64 X.length]) (hpU (sp2 X Y) (fmU f i X))
theorem u_l_ok : ∀ e H Q, u_l e H Q → AW Try.prog gl Try.f25.ntmps (.loop (subOf [1, 1, 0, 1, 0, 0, 1, 0, 0, 0, 1, 0] (bodyOf Try.f25))) Q e H := by
  rintro e H Q ⟨X, Y, acc, f, i, hf, hfa, hal, hZ, hlen, he, hH, hQ⟩
  refine aw_loop4 (hn := fun o => match o.dst with | some 28 => 1 | some 46 => 1 | _ => 0) gl_low TC_ok (.nil _ _ _ _ _) (σ := Nat) [1, 3, 4, 5] (fun k => k ≤ X.length)
    (fun k => [.ptr 0 0, .list ((acU acc i (X.take k)).map pcs) (tlU (fmU f i (X.take k))), .int .i64 i, .int .i64 k]) (fun k => hpU (sp2 X Y) (fmU f i (X.take k))) (fun k => X.length - k) 0 (Nat.zero_le _) (by rw [List.take_zero]; exact he) (by rw [List.take_zero]; exact hH) ?_
  intro k hk
  have hga : fmU f i (X.take k) = 0 ↔ acU acc i (X.take k) = [] := by
    unfold fmU acU
    by_cases c : i ∈ X.take k
    · rw [if_pos c, if_pos c]; simp
    · rw [if_neg c, if_neg c]; exact hfa
  have hgl : (acU acc i (X.take k)).length ≤ 50 := by
    unfold acU
    split
    · rw [List.length_append, List.length_singleton]; omega
    · omega
  refine u_round X Y _ _ i k (by unfold fmU; split <;> omega) hga hgl _ (fun h q => ?_) (fun h q => ?_) (fun h => ?_)
  · have c0 : i ∉ X.take k := by rw [← q]; exact take_new hZ h
    have c1 : i ∈ X.take (k + 1) := (take_mem h).2 (.inr q)
    have a0 : acU acc i (X.take k) = acc := by unfold acU; rw [if_neg c0]
    have a1 : acU acc i (X.take (k + 1)) = acc ++ [i] := by unfold acU; rw [if_pos c1]
    have g0 : fmU f i (X.take k) = f := by unfold fmU; rw [if_neg c0]
    have g1 : fmU f i (X.take (k + 1)) = f + 1 := by unfold fmU; rw [if_pos c1]
    refine ⟨k + 1, (show X.length - (k + 1) < X.length - k by omega), h, ?_, [], ?_, ?_, .inl rfl⟩
    · simp only [a0, a1, g0, g1, wI_succ h (show (X.length : Int) ≤ 4611686018427387904 by omega)]
    · simp only [g0, g1, List.append_nil]
    · simp only [g0, g1]; exact hpU_len _ _
  · have cc : i ∈ X.take (k + 1) ↔ i ∈ X.take k := (take_mem h).trans ⟨fun z => z.elim id fun z => absurd z q, .inl⟩
    have a1 : acU acc i (X.take (k + 1)) = acU acc i (X.take k) := by unfold acU; simp only [cc]
    have g1 : fmU f i (X.take (k + 1)) = fmU f i (X.take k) := by unfold fmU; simp only [cc]
    refine ⟨k + 1, (show X.length - (k + 1) < X.length - k by omega), h, ?_, [], ?_, ?_, .inl rfl⟩
    · simp only [a1, g1, wI_succ h (show (X.length : Int) ≤ 4611686018427387904 by omega)]
    · simp only [g1, List.append_nil]
    · simp only [g1]; exact Nat.le_refl _
  · have : k = X.length := by have : k ≤ X.length := hk; omega
    subst this
    rw [List.take_length]
    exact hQ
theorem u_sub : subOf [1, 1, 0, 1, 0, 0, 1, 0, 0, 0, 1, 0] (bodyOf Try.f25) = subOf [1, 0, 0, 0, 1, 0] (subOf [1, 1, 0, 1, 0] (bodyOf Try.f25)) := by kernel_rfl
theorem u_l_ok2 : ∀ e H Q, u_l e H Q → AW Try.prog gl Try.f25.ntmps (.loop (subOf [1, 0, 0, 0, 1, 0] (subOf [1, 1, 0, 1, 0] (bodyOf Try.f25)))) Q e H := by
  rw [← u_sub]; exact u_l_ok
theorem w_round (X Y acc : List Nat) (g i k : Nat) (hg : g ≤ 3) (ha : g = 0 ↔ acc = []) (hl : acc.length ≤ 50) (R : Ex → List PV → Heap → Prop)
    (h1 : k < Y.length → Y.getD k 0 = i → R .normal [.ptr 0 0, .list ((acc ++ [i]).map pcs) (tlU (g + 1)), .int .i64 i, .int .i64 (wI ((k : Int) + 1))] (hpU (sp2 X Y) (g + 1)))
    (h2 : k < Y.length → Y.getD k 0 ≠ i → R .normal [.ptr 0 0, .list (acc.map pcs) (tlU g), .int .i64 i, .int .i64 (wI ((k : Int) + 1))] (hpU (sp2 X Y) g))
    (h3 : ¬ k < Y.length → R (.exit 4) [.ptr 0 0, .list (acc.map pcs) (tlU g), .int .i64 i, .int .i64 k] (hpU (sp2 X Y) g)) :
    Holds (wpc br Try.prog gl TC [] (fun o => match o.dst with | some 28 => 1 | some 46 => 1 | _ => 0) (subOf [1, 1, 0, 1, 0, 0, 1, 0, 0, 1, 1, 0] (bodyOf Try.f25)) [] (envS [1, 3, 4, 6] [.ptr 0 0, .list (acc.map pcs) (tlU g), .int .i64 i, .int .i64 k]) (hpU (sp2 X Y) g) (fun ex e H => R ex (List.map e [1, 3, 4, 6]) H)) := by
  have e1 : acc.map pcs ++ [[PV.int .i64 (i : Int)]] = (acc ++ [i]).map pcs := by rw [List.map_append]; rfl
  obtain rfl | rfl | rfl | rfl : g = 0 ∨ g = 1 ∨ g = 2 ∨ g = 3 := by omega
  · have e0 : acc = [] := ha.1 rfl
    subst e0
    refine w0_vc X Y i k R ?_
    simp only [br_if, dt, beq_I, List.length_map, inL_p, toNat_nat]
    by_cases c : k < Y.length
    · rw [if_pos (by omega)]
      simp only [getD_map 0 c, pcs_f, pcs_c]
      refine ⟨c, ?_⟩
      rw [if_pos (by rfl : (true && true) = true)]
      by_cases q : Y.getD k 0 = i
      · rw [if_pos (by omega)]
        exact ⟨appL_p [] i (by simp), ⟨rfl, by simp⟩, h1 c q⟩
      · rw [if_neg (by omega)]; exact h2 c q
    · rw [if_neg (by omega)]; exact h3 c
  · refine w1_vc X Y acc i k R ?_
    simp only [br_if, dt, beq_I, List.length_map, inL_p, toNat_nat]
    by_cases c : k < Y.length
    · rw [if_pos (by omega)]
      simp only [getD_map 0 c, pcs_f, pcs_c]
      refine ⟨c, ?_⟩
      rw [if_pos (by rfl : (true && true) = true)]
      by_cases q : Y.getD k 0 = i
      · rw [if_pos (by omega)]
        exact ⟨appL_p acc i (by omega), ⟨rfl, by simp⟩, (by rw [e1]; exact h1 c q)⟩
      · rw [if_neg (by omega)]; exact h2 c q
    · rw [if_neg (by omega)]; exact h3 c
  · refine w2_vc X Y acc i k R ?_
    simp only [br_if, dt, beq_I, List.length_map, inL_p, toNat_nat]
    by_cases c : k < Y.length
    · rw [if_pos (by omega)]
      simp only [getD_map 0 c, pcs_f, pcs_c]
      refine ⟨c, ?_⟩
      rw [if_pos (by rfl : (true && true) = true)]
      by_cases q : Y.getD k 0 = i
      · rw [if_pos (by omega)]
        exact ⟨appL_p acc i (by omega), ⟨rfl, by simp⟩, (by rw [e1]; exact h1 c q)⟩
      · rw [if_neg (by omega)]; exact h2 c q
    · rw [if_neg (by omega)]; exact h3 c
  · refine w3_vc X Y acc i k R ?_
    simp only [br_if, dt, beq_I, List.length_map, inL_p, toNat_nat]
    by_cases c : k < Y.length
    · rw [if_pos (by omega)]
      simp only [getD_map 0 c, pcs_f, pcs_c]
      refine ⟨c, ?_⟩
      rw [if_pos (by rfl : (true && true) = true)]
      by_cases q : Y.getD k 0 = i
      · rw [if_pos (by omega)]
        exact ⟨appL_p acc i (by omega), ⟨rfl, by simp⟩, (by rw [e1]; exact h1 c q)⟩
      · rw [if_neg (by omega)]; exact h2 c q
    · rw [if_neg (by omega)]; exact h3 c
def w_l : LSp := fun e H Q => ∃ (X Y acc : List Nat) (f i : Nat), f ≤ 2 ∧ (f = 0 ↔ acc = []) ∧ acc.length ≤ 40 ∧ Y.Pairwise (· < ·) ∧ Y.length ≤ 100 ∧ SlIs (List.map e [1, 3, 4, 6]) [.ptr 0 0, .list (acc.map pcs) (tlU f), .int .i64 i, .int .i64 0] ∧ HpIs H (hpU (sp2 X Y) f) ∧
  Q (.exit 4) (envS [1, 3, 4, 6] [.ptr 0 0, .list ((acU acc i Y).map pcs) (tlU (fmU f i Y)), .int .i64 i, .int .i64 Y.length]) (hpU (sp2 X Y) (fmU f i Y))
theorem w_l_ok : ∀ e H Q, w_l e H Q → AW Try.prog gl Try.f25.ntmps (.loop (subOf [1, 1, 0, 1, 0, 0, 1, 0, 0, 1, 1, 0] (bodyOf Try.f25))) Q e H := by
  rintro e H Q ⟨X, Y, acc, f, i, hf, hfa, hal, hZ, hlen, he, hH, hQ⟩
  refine aw_loop4 (hn := fun o => match o.dst with | some 28 => 1 | some 46 => 1 | _ => 0) gl_low TC_ok (.nil _ _ _ _ _) (σ := Nat) [1, 3, 4, 6] (fun k => k ≤ Y.length)
    (fun k => [.ptr 0 0, .list ((acU acc i (Y.take k)).map pcs) (tlU (fmU f i (Y.take k))), .int .i64 i, .int .i64 k]) (fun k => hpU (sp2 X Y) (fmU f i (Y.take k))) (fun k => Y.length - k) 0 (Nat.zero_le _) (by rw [List.take_zero]; exact he) (by rw [List.take_zero]; exact hH) ?_
  intro k hk
  have hga : fmU f i (Y.take k) = 0 ↔ acU acc i (Y.take k) = [] := by
    unfold fmU acU
    by_cases c : i ∈ Y.take k
    · rw [if_pos c, if_pos c]; simp
    · rw [if_neg c, if_neg c]; exact hfa
  have hgl : (acU acc i (Y.take k)).length ≤ 50 := by
    unfold acU
    split
    · rw [List.length_append, List.length_singleton]; omega
    · omega
  refine w_round X Y _ _ i k (by unfold fmU; split <;> omega) hga hgl _ (fun h q => ?_) (fun h q => ?_) (fun h => ?_)
  · have c0 : i ∉ Y.take k := by rw [← q]; exact take_new hZ h
    have c1 : i ∈ Y.take (k + 1) := (take_mem h).2 (.inr q)
    have a0 : acU acc i (Y.take k) = acc := by unfold acU; rw [if_neg c0]
    have a1 : acU acc i (Y.take (k + 1)) = acc ++ [i] := by unfold acU; rw [if_pos c1]
    have g0 : fmU f i (Y.take k) = f := by unfold fmU; rw [if_neg c0]
    have g1 : fmU f i (Y.take (k + 1)) = f + 1 := by unfold fmU; rw [if_pos c1]
    refine ⟨k + 1, (show Y.length - (k + 1) < Y.length - k by omega), h, ?_, [], ?_, ?_, .inl rfl⟩
    · simp only [a0, a1, g0, g1, wI_succ h (show (Y.length : Int) ≤ 4611686018427387904 by omega)]
    · simp only [g0, g1, List.append_nil]
    · simp only [g0, g1]; exact hpU_len _ _
  · have cc : i ∈ Y.take (k + 1) ↔ i ∈ Y.take k := (take_mem h).trans ⟨fun z => z.elim id fun z => absurd z q, .inl⟩
    have a1 : acU acc i (Y.take (k + 1)) = acU acc i (Y.take k) := by unfold acU; simp only [cc]
    have g1 : fmU f i (Y.take (k + 1)) = fmU f i (Y.take k) := by unfold fmU; simp only [cc]
    refine ⟨k + 1, (show Y.length - (k + 1) < Y.length - k by omega), h, ?_, [], ?_, ?_, .inl rfl⟩
    · simp only [a1, g1, wI_succ h (show (Y.length : Int) ≤ 4611686018427387904 by omega)]
    · simp only [g1, List.append_nil]
    · simp only [g1]; exact Nat.le_refl _
  · have : k = Y.length := by have : k ≤ Y.length := hk; omega
    subst this
    rw [List.take_length]
    exact hQ
theorem w_sub : subOf [1, 1, 0, 1, 0, 0, 1, 0, 0, 1, 1, 0] (bodyOf Try.f25) = subOf [1, 0, 0, 1, 1, 0] (subOf [1, 1, 0, 1, 0] (bodyOf Try.f25)) := by kernel_rfl
theorem w_l_ok2 : ∀ e H Q, w_l e H Q → AW Try.prog gl Try.f25.ntmps (.loop (subOf [1, 0, 0, 1, 1, 0] (subOf [1, 1, 0, 1, 0] (bodyOf Try.f25)))) Q e H := by
  rw [← w_sub]; exact w_l_ok
theorem xa_red (X Y : List Nat) (i : Nat) (R : Ex → List PV → Heap → Prop) : (br (decide ((↑i : Int) < 16)) (∃ (X_1 : List Nat), ∃ (Y_1 : List Nat), ∃ (acc : List Nat), ∃ (f : Nat), ∃ (i_1 : Nat), f ≤ 1 ∧ (f = 0 ↔ acc = []) ∧ List.length acc ≤ 40 ∧ List.Pairwise (fun (x1 x2 : Nat) => x1 < x2) X_1 ∧ List.length X_1 ≤ 100 ∧ SlIs [PV.ptr 0 0, PV.list [] Tail.exact, PV.int IntKind.i64 (↑i : Int), PV.int IntKind.i64 0] [PV.ptr 0 0, PV.list (List.map pcs acc) (tlU f), PV.int IntKind.i64 (↑i_1 : Int), PV.int IntKind.i64 0] ∧ HpIs [Ob.cells [PV.list (List.map pcs X) Tail.no, PV.list (List.map pcs Y) Tail.no]] (hpU [PV.list (List.map pcs X_1) Tail.no, PV.list (List.map pcs Y_1) Tail.no] f) ∧ ∃ (X : List Nat), ∃ (Y : List Nat), ∃ (acc_1 : List Nat), ∃ (f_1 : Nat), ∃ (i : Nat), f_1 ≤ 2 ∧ (f_1 = 0 ↔ acc_1 = []) ∧ List.length acc_1 ≤ 40 ∧ List.Pairwise (fun (x1 x2 : Nat) => x1 < x2) Y ∧ List.length Y ≤ 100 ∧ SlIs [PV.ptr 0 0, PV.list (List.map pcs (acU acc i_1 X_1)) (tlU (fmU f i_1 X_1)), PV.int IntKind.i64 (↑i_1 : Int), PV.int IntKind.i64 0] [PV.ptr 0 0, PV.list (List.map pcs acc_1) (tlU f_1), PV.int IntKind.i64 (↑i : Int), PV.int IntKind.i64 0] ∧ HpIs (hpU [PV.list (List.map pcs X_1) Tail.no, PV.list (List.map pcs Y_1) Tail.no] (fmU f i_1 X_1)) (hpU [PV.list (List.map pcs X) Tail.no, PV.list (List.map pcs Y) Tail.no] f_1) ∧ R Ex.normal [PV.ptr 0 0, PV.list (List.map pcs (acU acc_1 i Y)) (tlU (fmU f_1 i Y)), PV.int IntKind.i64 (wI ((↑i : Int) + 1))] (hpU [PV.list (List.map pcs X) Tail.no, PV.list (List.map pcs Y) Tail.no] (fmU f_1 i Y))) (R (Ex.exit 0) [PV.ptr 0 0, PV.list [] Tail.exact, PV.int IntKind.i64 (↑i : Int)] [Ob.cells [PV.list (List.map pcs X) Tail.no, PV.list (List.map pcs Y) Tail.no]])) = wpc br Try.prog gl TC [([1, 0, 0, 0, 1, 0], u_l), ([1, 0, 0, 1, 1, 0], w_l)] (fun o => match o.dst with | some 28 => 1 | some 46 => 1 | _ => 0) (subOf [1, 1, 0, 1, 0] (bodyOf Try.f25)) [] (envS [1, 3, 4] [.ptr 0 0, .list [] .exact, .int .i64 i]) [.cells (sp2 X Y)] (fun ex e H => R ex (List.map e [1, 3, 4]) H) := by kernel_rfl
theorem xa_vc (X Y : List Nat) (i : Nat) (R : Ex → List PV → Heap → Prop) (h : br (decide ((↑i : Int) < 16)) (∃ (X_1 : List Nat), ∃ (Y_1 : List Nat), ∃ (acc : List Nat), ∃ (f : Nat), ∃ (i_1 : Nat), f ≤ 1 ∧ (f = 0 ↔ acc = []) ∧ List.length acc ≤ 40 ∧ List.Pairwise (fun (x1 x2 : Nat) => x1 < x2) X_1 ∧ List.length X_1 ≤ 100 ∧ SlIs [PV.ptr 0 0, PV.list [] Tail.exact, PV.int IntKind.i64 (↑i : Int), PV.int IntKind.i64 0] [PV.ptr 0 0, PV.list (List.map pcs acc) (tlU f), PV.int IntKind.i64 (↑i_1 : Int), PV.int IntKind.i64 0] ∧ HpIs [Ob.cells [PV.list (List.map pcs X) Tail.no, PV.list (List.map pcs Y) Tail.no]] (hpU [PV.list (List.map pcs X_1) Tail.no, PV.list (List.map pcs Y_1) Tail.no] f) ∧ ∃ (X : List Nat), ∃ (Y : List Nat), ∃ (acc_1 : List Nat), ∃ (f_1 : Nat), ∃ (i : Nat), f_1 ≤ 2 ∧ (f_1 = 0 ↔ acc_1 = []) ∧ List.length acc_1 ≤ 40 ∧ List.Pairwise (fun (x1 x2 : Nat) => x1 < x2) Y ∧ List.length Y ≤ 100 ∧ SlIs [PV.ptr 0 0, PV.list (List.map pcs (acU acc i_1 X_1)) (tlU (fmU f i_1 X_1)), PV.int IntKind.i64 (↑i_1 : Int), PV.int IntKind.i64 0] [PV.ptr 0 0, PV.list (List.map pcs acc_1) (tlU f_1), PV.int IntKind.i64 (↑i : Int), PV.int IntKind.i64 0] ∧ HpIs (hpU [PV.list (List.map pcs X_1) Tail.no, PV.list (List.map pcs Y_1) Tail.no] (fmU f i_1 X_1)) (hpU [PV.list (List.map pcs X) Tail.no, PV.list (List.map pcs Y) Tail.no] f_1) ∧ R Ex.normal [PV.ptr 0 0, PV.list (List.map pcs (acU acc_1 i Y)) (tlU (fmU f_1 i Y)), PV.int IntKind.i64 (wI ((↑i : Int) + 1))] (hpU [PV.list (List.map pcs X) Tail.no, PV.list (List.map pcs Y) Tail.no] (fmU f_1 i Y))) (R (Ex.exit 0) [PV.ptr 0 0, PV.list [] Tail.exact, PV.int IntKind.i64 (↑i : Int)] [Ob.cells [PV.list (List.map pcs X) Tail.no, PV.list (List.map pcs Y) Tail.no]])) : Holds (wpc br Try.prog gl TC [([1, 0, 0, 0, 1, 0], u_l), ([1, 0, 0, 1, 1, 0], w_l)] (fun o => match o.dst with | some 28 => 1 | some 46 => 1 | _ => 0) (subOf [1, 1, 0, 1, 0] (bodyOf Try.f25)) [] (envS [1, 3, 4] [.ptr 0 0, .list [] .exact, .int .i64 i]) [.cells (sp2 X Y)] (fun ex e H => R ex (List.map e [1, 3, 4]) H)) := holds_of_eq (xa_red X Y i R) h
theorem xb_red (X Y x : List Nat) (i : Nat) (R : Ex → List PV → Heap → Prop) : (br (decide ((↑i : Int) < 16)) (∃ (X_1 : List Nat), ∃ (Y_1 : List Nat), ∃ (acc : List Nat), ∃ (f : Nat), ∃ (i_1 : Nat), f ≤ 1 ∧ (f = 0 ↔ acc = []) ∧ List.length acc ≤ 40 ∧ List.Pairwise (fun (x1 x2 : Nat) => x1 < x2) X_1 ∧ List.length X_1 ≤ 100 ∧ SlIs [PV.ptr 0 0, PV.list (List.map pcs x) (Tail.tok 1), PV.int IntKind.i64 (↑i : Int), PV.int IntKind.i64 0] [PV.ptr 0 0, PV.list (List.map pcs acc) (tlU f), PV.int IntKind.i64 (↑i_1 : Int), PV.int IntKind.i64 0] ∧ HpIs [Ob.cells [PV.list (List.map pcs X) Tail.no, PV.list (List.map pcs Y) Tail.no], Ob.tok] (hpU [PV.list (List.map pcs X_1) Tail.no, PV.list (List.map pcs Y_1) Tail.no] f) ∧ ∃ (X : List Nat), ∃ (Y : List Nat), ∃ (acc_1 : List Nat), ∃ (f_1 : Nat), ∃ (i : Nat), f_1 ≤ 2 ∧ (f_1 = 0 ↔ acc_1 = []) ∧ List.length acc_1 ≤ 40 ∧ List.Pairwise (fun (x1 x2 : Nat) => x1 < x2) Y ∧ List.length Y ≤ 100 ∧ SlIs [PV.ptr 0 0, PV.list (List.map pcs (acU acc i_1 X_1)) (tlU (fmU f i_1 X_1)), PV.int IntKind.i64 (↑i_1 : Int), PV.int IntKind.i64 0] [PV.ptr 0 0, PV.list (List.map pcs acc_1) (tlU f_1), PV.int IntKind.i64 (↑i : Int), PV.int IntKind.i64 0] ∧ HpIs (hpU [PV.list (List.map pcs X_1) Tail.no, PV.list (List.map pcs Y_1) Tail.no] (fmU f i_1 X_1)) (hpU [PV.list (List.map pcs X) Tail.no, PV.list (List.map pcs Y) Tail.no] f_1) ∧ R Ex.normal [PV.ptr 0 0, PV.list (List.map pcs (acU acc_1 i Y)) (tlU (fmU f_1 i Y)), PV.int IntKind.i64 (wI ((↑i : Int) + 1))] (hpU [PV.list (List.map pcs X) Tail.no, PV.list (List.map pcs Y) Tail.no] (fmU f_1 i Y))) (R (Ex.exit 0) [PV.ptr 0 0, PV.list (List.map pcs x) (Tail.tok 1), PV.int IntKind.i64 (↑i : Int)] [Ob.cells [PV.list (List.map pcs X) Tail.no, PV.list (List.map pcs Y) Tail.no], Ob.tok])) = wpc br Try.prog gl TC [([1, 0, 0, 0, 1, 0], u_l), ([1, 0, 0, 1, 1, 0], w_l)] (fun o => match o.dst with | some 28 => 1 | some 46 => 1 | _ => 0) (subOf [1, 1, 0, 1, 0] (bodyOf Try.f25)) [] (envS [1, 3, 4] [.ptr 0 0, .list (x.map pcs) (.tok 1), .int .i64 i]) [.cells (sp2 X Y), .tok] (fun ex e H => R ex (List.map e [1, 3, 4]) H) := by kernel_rfl
theorem xb_vc (X Y x : List Nat) (i : Nat) (R : Ex → List PV → Heap → Prop) (h : br (decide ((↑i : Int) < 16)) (∃ (X_1 : List Nat), ∃ (Y_1 : List Nat), ∃ (acc : List Nat), ∃ (f : Nat), ∃ (i_1 : Nat), f ≤ 1 ∧ (f = 0 ↔ acc = []) ∧ List.length acc ≤ 40 ∧ List.Pairwise (fun (x1 x2 : Nat) => x1 < x2) X_1 ∧ List.length X_1 ≤ 100 ∧ SlIs [PV.ptr 0 0, PV.list (List.map pcs x) (Tail.tok 1), PV.int IntKind.i64 (↑i : Int), PV.int IntKind.i64 0] [PV.ptr 0 0, PV.list (List.map pcs acc) (tlU f), PV.int IntKind.i64 (↑i_1 : Int), PV.int IntKind.i64 0] ∧ HpIs [Ob.cells [PV.list (List.map pcs X) Tail.no, PV.list (List.map pcs Y) Tail.no], Ob.tok] (hpU [PV.list (List.map pcs X_1) Tail.no, PV.list (List.map pcs Y_1) Tail.no] f) ∧ ∃ (X : List Nat), ∃ (Y : List Nat), ∃ (acc_1 : List Nat), ∃ (f_1 : Nat), ∃ (i : Nat), f_1 ≤ 2 ∧ (f_1 = 0 ↔ acc_1 = []) ∧ List.length acc_1 ≤ 40 ∧ List.Pairwise (fun (x1 x2 : Nat) => x1 < x2) Y ∧ List.length Y ≤ 100 ∧ SlIs [PV.ptr 0 0, PV.list (List.map pcs (acU acc i_1 X_1)) (tlU (fmU f i_1 X_1)), PV.int IntKind.i64 (↑i_1 : Int), PV.int IntKind.i64 0] [PV.ptr 0 0, PV.list (List.map pcs acc_1) (tlU f_1), PV.int IntKind.i64 (↑i : Int), PV.int IntKind.i64 0] ∧ HpIs (hpU [PV.list (List.map pcs X_1) Tail.no, PV.list (List.map pcs Y_1) Tail.no] (fmU f i_1 X_1)) (hpU [PV.list (List.map pcs X) Tail.no, PV.list (List.map pcs Y) Tail.no] f_1) ∧ R Ex.normal [PV.ptr 0 0, PV.list (List.map pcs (acU acc_1 i Y)) (tlU (fmU f_1 i Y)), PV.int IntKind.i64 (wI ((↑i : Int) + 1))] (hpU [PV.list (List.map pcs X) Tail.no, PV.list (List.map pcs Y) Tail.no] (fmU f_1 i Y))) (R (Ex.exit 0) [PV.ptr 0 0, PV.list (List.map pcs x) (Tail.tok 1), PV.int IntKind.i64 (↑i : Int)] [Ob.cells [PV.list (List.map pcs X) Tail.no, PV.list (List.map pcs Y) Tail.no], Ob.tok])) : Holds (wpc br Try.prog gl TC [([1, 0, 0, 0, 1, 0], u_l), ([1, 0, 0, 1, 1, 0], w_l)] (fun o => match o.dst with | some 28 => 1 | some 46 => 1 | _ => 0) (subOf [1, 1, 0, 1, 0] (bodyOf Try.f25)) [] (envS [1, 3, 4] [.ptr 0 0, .list (x.map pcs) (.tok 1), .int .i64 i]) [.cells (sp2 X Y), .tok] (fun ex e H => R ex (List.map e [1, 3, 4]) H)) := holds_of_eq (xb_red X Y x i R) h
def acX (x : List Nat) (i : Nat) : List Nat := x.filter (fun k => decide (k < i))
theorem acX_nil {x : List Nat} {i : Nat} (h : ∀ k ∈ x, i ≤ k) : acX x i = [] := by
  unfold acX
  rw [List.filter_eq_nil_iff]
  intro k hk
  have := h k hk
  simp; omega
theorem acX_step : ∀ {x : List Nat} (i : Nat), x.Pairwise (· < ·) → acX x (i + 1) = acU (acX x i) i x
  | [], i, _ => by simp [acX, acU]
  | a :: x, i, hx => by
    have hx' := List.pairwise_cons.1 hx
    rcases Nat.lt_trichotomy a i with h | h | h
    · have ih := acX_step i hx'.2
      have e1 : acX (a :: x) (i + 1) = a :: acX x (i + 1) := by unfold acX; rw [List.filter_cons_of_pos (by simp; omega)]
      have e2 : acX (a :: x) i = a :: acX x i := by unfold acX; rw [List.filter_cons_of_pos (by simp; omega)]
      rw [e1, e2, ih]
      unfold acU
      by_cases c : i ∈ x
      · rw [if_pos c, if_pos (List.mem_cons_of_mem _ c), List.cons_append]
      · rw [if_neg c, if_neg (fun q => by rcases List.mem_cons.1 q with q | q; omega; exact c q)]
    · subst h
      have e1 : acX (a :: x) (a + 1) = a :: acX x (a + 1) := by unfold acX; rw [List.filter_cons_of_pos (by simp)]
      have e2 : acX (a :: x) a = [] := acX_nil fun k hk => by
        rcases List.mem_cons.1 hk with rfl | hk
        · exact Nat.le_refl _
        · have := hx'.1 k hk; omega
      have e3 : acX x (a + 1) = [] := acX_nil fun k hk => hx'.1 k hk
      rw [e1, e2, e3]
      unfold acU
      rw [if_pos (by simp)]; rfl
    · have e1 : acX (a :: x) (i + 1) = [] := acX_nil fun k hk => by
        rcases List.mem_cons.1 hk with rfl | hk
        · omega
        · have := hx'.1 k hk; omega
      have e2 : acX (a :: x) i = [] := acX_nil fun k hk => by
        rcases List.mem_cons.1 hk with rfl | hk
        · omega
        · have := hx'.1 k hk; omega
      rw [e1, e2]
      unfold acU
      rw [if_neg (fun q => by rcases List.mem_cons.1 q with q | q; omega; have := hx'.1 i q; omega)]
theorem acX_end {x : List Nat} {n : Nat} (h : ∀ k ∈ x, k < n) : acX x n = x := by
  unfold acX
  rw [List.filter_eq_self]
  intro k hk
  have := h k hk
  simp; omega
theorem nodup_up {x : List Nat} (h : x.Pairwise (· < ·)) : x.Nodup := h.imp fun {a b} q => by omega
theorem two_U {A E x : List Nat} (hp : (A ++ E).Perm x) (hx : x.Pairwise (· < ·)) (b : List Nat) (f i : Nat) : acU (acU b i A) i E = acU b i x ∧ fmU (fmU f i A) i E = fmU f i x := by
  have nd : (A ++ E).Nodup := hp.nodup_iff.2 (nodup_up hx)
  have hm : i ∈ x ↔ i ∈ A ∨ i ∈ E := by rw [← hp.mem_iff, List.mem_append]
  have hd : i ∈ A → i ∉ E := fun h1 h2 => (List.nodup_append.1 nd).2.2 i h1 i h2 rfl
  unfold acU fmU
  by_cases c1 : i ∈ A
  · have c2 := hd c1
    rw [if_pos c1, if_neg c2, if_pos (hm.2 (.inl c1)), if_pos c1, if_neg c2, if_pos (hm.2 (.inl c1))]; exact ⟨rfl, rfl⟩
  · by_cases c2 : i ∈ E
    · rw [if_neg c1, if_pos c2, if_pos (hm.2 (.inr c2)), if_neg c1, if_pos c2, if_pos (hm.2 (.inr c2))]; exact ⟨rfl, rfl⟩
    · have c3 : i ∉ x := fun q => (hm.1 q).elim c1 c2
      rw [if_neg c1, if_neg c2, if_neg c3, if_neg c1, if_neg c2, if_neg c3]; exact ⟨rfl, rfl⟩
theorem acX_len (x : List Nat) (i : Nat) : (acX x i).length ≤ x.length := List.length_filter_le _ _
structure Both (A E x : List Nat) : Prop where
  up : x.Pairwise (· < ·)
  perm : (A ++ E).Perm x
  upA : A.Pairwise (· < ·)
  upE : E.Pairwise (· < ·)
  lt : ∀ k ∈ x, k < 16
  len : x.length ≤ 30
def ux_l : LSp := fun e H Q => ∃ (A E x : List Nat), Both A E x ∧ SlIs (List.map e [1, 3, 4]) [.ptr 0 0, .list [] .exact, .int .i64 0] ∧ HpIs H [.cells (sp2 A E)] ∧
  Q (.exit 0) (envS [1, 3, 4] [.ptr 0 0, .list (x.map pcs) .no, .int .i64 16]) [.cells (sp2 A E), .dead]
theorem ux_l_ok : ∀ e H Q, ux_l e H Q → AW Try.prog gl Try.f25.ntmps (.loop (subOf [1, 1, 0, 1, 0] (bodyOf Try.f25))) Q e H := by
  rintro e H Q ⟨A, E, x, hb, he, hH, hQ⟩
  have hH2 : H = [.cells (sp2 A E)] := hH
  have hlen := hb.perm.length_eq
  rw [List.length_append] at hlen
  have hl30 := hb.len
  refine aw_growif (f := pcs) (acc := acX x) (I := fun i => i ≤ 16) (m := fun i => 16 - i) (hn := fun o => match o.dst with | some 28 => 1 | some 46 => 1 | _ => 0) gl_low TC_ok (.cons (sub_of (by kernel_rfl)) u_l_ok2 (.cons (sub_of (by kernel_rfl)) w_l_ok2 (.nil _ _ _ _ _))) [1, 3, 4] (fun r i => [.ptr 0 0, r, .int .i64 i]) [.cells (sp2 A E)] (0 : Nat)
    (low_base [sp2 A E] (by
      intro cs hcs x hx
      rw [List.mem_singleton] at hcs
      subst hcs
      exact low_sp A E x hx))
    (fun i _ a _ y hy => by simp only [pcs, List.mem_cons, List.not_mem_nil, or_false] at hy; subst hy; exact .int _ _)
    (fun es i k _ h => .same (.ptr _ _ (by simp)) (.row h (.same (.int _ _) .nil)))
    (fun i _ w hw => by
      simp only [List.mem_cons, List.not_mem_nil, or_false] at hw
      rcases hw with rfl | rfl | rfl <;> first | exact .int _ _ | exact .ptr _ _ (by simp) | exact low_list NT.exact (by simp))
    (Nat.zero_le _) (acX_nil fun k _ => Nat.zero_le _) he hH2 ?_ ?_
  · intro i hi ha
    refine xa_vc A E i _ ?_
    simp only [br_if, dt]
    by_cases h : i < 16
    · rw [if_pos (by omega)]
      have hs := acX_step i hb.up
      rw [ha] at hs
      have h2 := two_U hb.perm hb.up [] 0 i
      refine ⟨A, E, [], 0, i, by omega, by simp, by simp, hb.upA, by omega, rfl, rfl, A, E, acU [] i A, fmU 0 i A, i, by unfold fmU; split <;> omega, by unfold fmU acU; split <;> simp, by unfold acU; split <;> simp, hb.upE, by omega, rfl, rfl, ?_⟩
      rw [h2.1, h2.2, ← hs]
      refine ⟨i + 1, (show 16 - (i + 1) < 16 - i by omega), h, ?_⟩
      by_cases c : i ∈ x
      · refine .inr ⟨by rw [hs]; unfold acU; rw [if_pos c]; simp, [.tok], 1, ?_, rfl, by simp, ?_⟩
        · unfold fmU; rw [if_pos c]; rfl
        · unfold fmU; rw [if_pos c, wI_succ h (by omega)]; rfl
      · refine .inl ⟨by rw [hs]; unfold acU; rw [if_neg c], [], ?_, ?_⟩
        · unfold fmU; rw [if_neg c]; rfl
        · have e0 : acX x (i + 1) = [] := by rw [hs]; unfold acU; rw [if_neg c]
          rw [e0]; unfold fmU; rw [if_neg c, wI_succ h (by omega)]; rfl
    · rw [if_neg (by omega)]
      have : i = 16 := by have : i ≤ 16 := hi; omega
      subst this
      rw [acX_end hb.lt] at ha
      subst ha
      exact ⟨_, _, .cons (.refl _) (.cons (.list _ _) (.cons (.refl _) .nil)), pad_dead _, hQ⟩
  · intro i hi ha
    refine xb_vc A E (acX x i) i _ ?_
    simp only [br_if, dt]
    by_cases h : i < 16
    · rw [if_pos (by omega)]
      have hs := acX_step i hb.up
      have h2 := two_U hb.perm hb.up (acX x i) 1 i
      have hal := acX_len x i
      refine ⟨A, E, acX x i, 1, i, by omega, by simp [ha], by omega, hb.upA, by omega, rfl, rfl, A, E, acU (acX x i) i A, fmU 1 i A, i, by unfold fmU; split <;> omega, by unfold fmU acU; split <;> simp [ha], by
        unfold acU
        split
        · rw [List.length_append, List.length_singleton]; omega
        · omega, hb.upE, by omega, rfl, rfl, ?_⟩
      rw [h2.1, h2.2, ← hs]
      refine ⟨i + 1, (show 16 - (i + 1) < 16 - i by omega), h, .inr ?_⟩
      by_cases c : i ∈ x
      · refine ⟨by rw [hs]; unfold acU; rw [if_pos c]; simp, [.dead, .tok], 2, ?_, rfl, by simp, ?_⟩
        · unfold fmU; rw [if_pos c]; rfl
        · unfold fmU; rw [if_pos c, wI_succ h (by omega)]; rfl
      · refine ⟨by rw [hs]; unfold acU; rw [if_neg c]; exact ha, [.tok], 1, ?_, rfl, by simp, ?_⟩
        · unfold fmU; rw [if_neg c]; rfl
        · unfold fmU; rw [if_neg c, wI_succ h (by omega)]; rfl
    · rw [if_neg (by omega)]
      have : i = 16 := by have : i ≤ 16 := hi; omega
      subst this
      rw [acX_end hb.lt]
      exact ⟨_, _, .cons (.refl _) (.cons (.list _ _) (.cons (.refl _) .nil)), pad_kill [.cells (sp2 A E)] .tok, hQ⟩
theorem allF_red (X Y : List Nat) (K : PV → Prop) : (∃ (A : List Nat), ∃ (E : List Nat), ∃ (x : List Nat), Both A E x ∧ SlIs [PV.ptr 0 0, PV.list [] Tail.exact, PV.int IntKind.i64 0] [PV.ptr 0 0, PV.list [] Tail.exact, PV.int IntKind.i64 0] ∧ HpIs [Ob.cells [PV.list (List.map pcs X) Tail.no, PV.list (List.map pcs Y) Tail.no]] [Ob.cells [PV.list (List.map pcs A) Tail.no, PV.list (List.map pcs E) Tail.no]] ∧ K (PV.list (List.map pcs x) Tail.no)) = wpc br Try.prog gl TC [([1, 1, 0, 1, 0], ux_l)] (fun _ => 0) (bodyOf Try.f25) [] (env0 [.agg (sp2 X Y)]) [] (resQ Try.prog Try.f25.results.toList (fun x _ => K x)) := by kernel_rfl
theorem allF_vc (X Y : List Nat)  (K : PV → Prop) (h : ∃ (A : List Nat), ∃ (E : List Nat), ∃ (x : List Nat), Both A E x ∧ SlIs [PV.ptr 0 0, PV.list [] Tail.exact, PV.int IntKind.i64 0] [PV.ptr 0 0, PV.list [] Tail.exact, PV.int IntKind.i64 0] ∧ HpIs [Ob.cells [PV.list (List.map pcs X) Tail.no, PV.list (List.map pcs Y) Tail.no]] [Ob.cells [PV.list (List.map pcs A) Tail.no, PV.list (List.map pcs E) Tail.no]] ∧ K (PV.list (List.map pcs x) Tail.no)) : ACalls Try.prog gl 25 [.agg (sp2 X Y)] [] (fun x _ => K x) :=
  acalls_of_wpc2 (T := TC) (L := [([1, 1, 0, 1, 0], ux_l)]) (fun _ => 0) Try.func25 (by kernel_rfl) (by kernel_rfl) (by kernel_rfl) (TC_ok) (.cons (sub_of (by kernel_rfl)) ux_l_ok (.nil _ _ _ _ _)) (holds_of_eq (allF_red X Y K) h)
def all_s (args : List PV) (K : PV → Prop) : Prop := ∃ (A E x : List Nat) (u v : Tail), SlIs args [.agg [.list (A.map pcs) u, .list (E.map pcs) v]] ∧ Both A E x ∧ K (.list (x.map pcs) .no)
theorem all_ok : SpOk Try.prog gl 25 (.pure all_s) := by
  rintro args K ⟨A, E, x, u, v, he, hb, hk⟩
  have he : args = _ := he
  subst he
  exact spure_w gl_low (.cons (.agg (.cons (.list _ _) (.cons (.list _ _) .nil))) .nil) (by intro z hz; rw [List.mem_singleton] at hz; subst hz; exact .agg _ (low_sp A E)) (low_list NT.no (low_p _))
    (allF_vc A E (fun z => z = .list (x.map pcs) .no) ⟨A, E, x, hb, rfl, rfl, rfl⟩) hk
def TAl : Tab := (25, .pure all_s) :: TC
theorem TAl_ok : TabOk Try.prog gl TAl := .cons all_ok TC_ok
theorem lWaits_red (m : Mo) (a b : Int) (l : List Ti) (K : PV → Prop) : (br (decide ((↑(List.length (List.map Ti.cs l)) : Int) > 10) == false) (∃ (l_1 : List Ti), ∃ (u : Tail), SlIs [PV.list (List.map Ti.cs l) Tail.no] [PV.list (List.map Ti.cs l_1) u] ∧ List.length l_1 ≤ 20 ∧ (∀ (t : Ti), t ∈ l_1 → NT (Ti.Pt t)) ∧ br (!smallS l_1) (K (PV.bool true)) (∃ (l_2 : List Ti), ∃ (u : Tail), SlIs [PV.list (List.map Ti.cs l) Tail.no] [PV.list (List.map Ti.cs l_2) u] ∧ PtNo l_2 ∧ ∃ (m_1 : Mo), SlIs [PV.agg [PV.int IntKind.i64 (Mo.K m), PV.int IntKind.i64 (Mo.Base m), PV.int IntKind.i64 (Mo.Step m), PV.int IntKind.i64 (Mo.Cap m), PV.int IntKind.i64 (Mo.Every m)]] [PV.agg [PV.int IntKind.i64 (Mo.K m_1), PV.int IntKind.i64 (Mo.Base m_1), PV.int IntKind.i64 (Mo.Step m_1), PV.int IntKind.i64 (Mo.Cap m_1), PV.int IntKind.i64 (Mo.Every m_1)]] ∧ ∃ (m_2 : Mo), ∃ (n : Int), ∃ (l : List Ti), ∃ (u : Tail), SlIs [PV.agg [PV.int IntKind.i64 (Mo.K m_1), PV.int IntKind.i64 (Mo.Base m_1), PV.int IntKind.i64 (Mo.Step m_1), PV.int IntKind.i64 (Mo.Cap m_1), PV.int IntKind.i64 (Mo.Every m_1)], PV.int IntKind.i64 (mnI a b), PV.list (List.map Ti.cs l_2) Tail.no] [PV.agg [PV.int IntKind.i64 (Mo.K m_2), PV.int IntKind.i64 (Mo.Base m_2), PV.int IntKind.i64 (Mo.Step m_2), PV.int IntKind.i64 (Mo.Cap m_2), PV.int IntKind.i64 (Mo.Every m_2)], PV.int IntKind.i64 n, PV.list (List.map Ti.cs l) u] ∧ in64 n ∧ LsOk l ∧ br (fitsS m_2 n l == true) (∃ (m_3 : Mo), SlIs [PV.agg [PV.int IntKind.i64 (Mo.K m), PV.int IntKind.i64 (Mo.Base m), PV.int IntKind.i64 (Mo.Step m), PV.int IntKind.i64 (Mo.Cap m), PV.int IntKind.i64 (Mo.Every m)]] [PV.agg [PV.int IntKind.i64 (Mo.K m_3), PV.int IntKind.i64 (Mo.Base m_3), PV.int IntKind.i64 (Mo.Step m_3), PV.int IntKind.i64 (Mo.Cap m_3), PV.int IntKind.i64 (Mo.Every m_3)]] ∧ ∃ (m_4 : Mo), ∃ (n : Int), ∃ (l : List Ti), ∃ (u : Tail), SlIs [PV.agg [PV.int IntKind.i64 (Mo.K m_3), PV.int IntKind.i64 (Mo.Base m_3), PV.int IntKind.i64 (Mo.Step m_3), PV.int IntKind.i64 (Mo.Cap m_3), PV.int IntKind.i64 (Mo.Every m_3)], PV.int IntKind.i64 (mxI a b), PV.list (List.map Ti.cs l_2) Tail.no] [PV.agg [PV.int IntKind.i64 (Mo.K m_4), PV.int IntKind.i64 (Mo.Base m_4), PV.int IntKind.i64 (Mo.Step m_4), PV.int IntKind.i64 (Mo.Cap m_4), PV.int IntKind.i64 (Mo.Every m_4)], PV.int IntKind.i64 n, PV.list (List.map Ti.cs l) u] ∧ in64 n ∧ LsOk l ∧ br (!fitsS m_4 n l) (K (PV.bool false)) (∃ (m_5 : Mo), SlIs [PV.agg [PV.int IntKind.i64 (Mo.K m), PV.int IntKind.i64 (Mo.Base m), PV.int IntKind.i64 (Mo.Step m), PV.int IntKind.i64 (Mo.Cap m), PV.int IntKind.i64 (Mo.Every m)]] [PV.agg [PV.int IntKind.i64 (Mo.K m_5), PV.int IntKind.i64 (Mo.Base m_5), PV.int IntKind.i64 (Mo.Step m_5), PV.int IntKind.i64 (Mo.Cap m_5), PV.int IntKind.i64 (Mo.Every m_5)]] ∧ ∃ (m_6 : Mo), ∃ (n : Int), ∃ (l : List Ti), ∃ (u : Tail), SlIs [PV.agg [PV.int IntKind.i64 (Mo.K m_5), PV.int IntKind.i64 (Mo.Base m_5), PV.int IntKind.i64 (Mo.Step m_5), PV.int IntKind.i64 (Mo.Cap m_5), PV.int IntKind.i64 (Mo.Every m_5)], PV.int IntKind.i64 (mnI a b), PV.list (List.map Ti.cs l_2) Tail.no] [PV.agg [PV.int IntKind.i64 (Mo.K m_6), PV.int IntKind.i64 (Mo.Base m_6), PV.int IntKind.i64 (Mo.Step m_6), PV.int IntKind.i64 (Mo.Cap m_6), PV.int IntKind.i64 (Mo.Every m_6)], PV.int IntKind.i64 n, PV.list (List.map Ti.cs l) u] ∧ in64 n ∧ LsOk l ∧ ∃ (m_7 : Mo), SlIs [PV.agg [PV.int IntKind.i64 (Mo.K m), PV.int IntKind.i64 (Mo.Base m), PV.int IntKind.i64 (Mo.Step m), PV.int IntKind.i64 (Mo.Cap m), PV.int IntKind.i64 (Mo.Every m)]] [PV.agg [PV.int IntKind.i64 (Mo.K m_7), PV.int IntKind.i64 (Mo.Base m_7), PV.int IntKind.i64 (Mo.Step m_7), PV.int IntKind.i64 (Mo.Cap m_7), PV.int IntKind.i64 (Mo.Every m_7)]] ∧ ∃ (m : Mo), ∃ (n_1 : Int), ∃ (l_3 : List Ti), ∃ (u : Tail), SlIs [PV.agg [PV.int IntKind.i64 (Mo.K m_7), PV.int IntKind.i64 (Mo.Base m_7), PV.int IntKind.i64 (Mo.Step m_7), PV.int IntKind.i64 (Mo.Cap m_7), PV.int IntKind.i64 (Mo.Every m_7)], PV.int IntKind.i64 (mxI a b), PV.list (List.map Ti.cs l_2) Tail.no] [PV.agg [PV.int IntKind.i64 (Mo.K m), PV.int IntKind.i64 (Mo.Base m), PV.int IntKind.i64 (Mo.Step m), PV.int IntKind.i64 (Mo.Cap m), PV.int IntKind.i64 (Mo.Every m)], PV.int IntKind.i64 n_1, PV.list (List.map Ti.cs l_3) u] ∧ in64 n_1 ∧ LsOk l_3 ∧ br (!Option.isSome (findS m_6 n l)) (K (PV.bool true)) (∃ (A : List Nat), ∃ (E : List Nat), ∃ (x : List Nat), ∃ (u : Tail), ∃ (v : Tail), SlIs [PV.agg [PV.list (List.map pcs (tmA (findS m_6 n l))) Tail.no, PV.list (List.map pcs (tmB (findS m_6 n l))) Tail.no]] [PV.agg [PV.list (List.map pcs A) u, PV.list (List.map pcs E) v]] ∧ Both A E x ∧ ∃ (A : List Nat), ∃ (E : List Nat), ∃ (x_1 : List Nat), ∃ (u : Tail), ∃ (v : Tail), SlIs [PV.agg [PV.list (List.map pcs (tmA (findS m n_1 l_3))) Tail.no, PV.list (List.map pcs (tmB (findS m n_1 l_3))) Tail.no]] [PV.agg [PV.list (List.map pcs A) u, PV.list (List.map pcs E) v]] ∧ Both A E x_1 ∧ br (Option.isSome (findS m n_1 l_3) == true) (∃ (x_2 : List Nat), ∃ (y : List Nat), ∃ (u : Tail), ∃ (v : Tail), SlIs [PV.list (List.map pcs x) Tail.no, PV.list (List.map pcs x_1) Tail.no] [PV.list (List.map pcs x_2) u, PV.list (List.map pcs y) v] ∧ List.length x_2 ≤ 100 ∧ br ((!aheadN x_2 y) == true) (K (PV.bool true)) (K (PV.bool false))) (K (PV.bool false))))) (∃ (m_3 : Mo), SlIs [PV.agg [PV.int IntKind.i64 (Mo.K m), PV.int IntKind.i64 (Mo.Base m), PV.int IntKind.i64 (Mo.Step m), PV.int IntKind.i64 (Mo.Cap m), PV.int IntKind.i64 (Mo.Every m)]] [PV.agg [PV.int IntKind.i64 (Mo.K m_3), PV.int IntKind.i64 (Mo.Base m_3), PV.int IntKind.i64 (Mo.Step m_3), PV.int IntKind.i64 (Mo.Cap m_3), PV.int IntKind.i64 (Mo.Every m_3)]] ∧ ∃ (m_4 : Mo), ∃ (n : Int), ∃ (l : List Ti), ∃ (u : Tail), SlIs [PV.agg [PV.int IntKind.i64 (Mo.K m_3), PV.int IntKind.i64 (Mo.Base m_3), PV.int IntKind.i64 (Mo.Step m_3), PV.int IntKind.i64 (Mo.Cap m_3), PV.int IntKind.i64 (Mo.Every m_3)], PV.int IntKind.i64 (mnI a b), PV.list (List.map Ti.cs l_2) Tail.no] [PV.agg [PV.int IntKind.i64 (Mo.K m_4), PV.int IntKind.i64 (Mo.Base m_4), PV.int IntKind.i64 (Mo.Step m_4), PV.int IntKind.i64 (Mo.Cap m_4), PV.int IntKind.i64 (Mo.Every m_4)], PV.int IntKind.i64 n, PV.list (List.map Ti.cs l) u] ∧ in64 n ∧ LsOk l ∧ ∃ (m_5 : Mo), SlIs [PV.agg [PV.int IntKind.i64 (Mo.K m), PV.int IntKind.i64 (Mo.Base m), PV.int IntKind.i64 (Mo.Step m), PV.int IntKind.i64 (Mo.Cap m), PV.int IntKind.i64 (Mo.Every m)]] [PV.agg [PV.int IntKind.i64 (Mo.K m_5), PV.int IntKind.i64 (Mo.Base m_5), PV.int IntKind.i64 (Mo.Step m_5), PV.int IntKind.i64 (Mo.Cap m_5), PV.int IntKind.i64 (Mo.Every m_5)]] ∧ ∃ (m : Mo), ∃ (n_1 : Int), ∃ (l_3 : List Ti), ∃ (u : Tail), SlIs [PV.agg [PV.int IntKind.i64 (Mo.K m_5), PV.int IntKind.i64 (Mo.Base m_5), PV.int IntKind.i64 (Mo.Step m_5), PV.int IntKind.i64 (Mo.Cap m_5), PV.int IntKind.i64 (Mo.Every m_5)], PV.int IntKind.i64 (mxI a b), PV.list (List.map Ti.cs l_2) Tail.no] [PV.agg [PV.int IntKind.i64 (Mo.K m), PV.int IntKind.i64 (Mo.Base m), PV.int IntKind.i64 (Mo.Step m), PV.int IntKind.i64 (Mo.Cap m), PV.int IntKind.i64 (Mo.Every m)], PV.int IntKind.i64 n_1, PV.list (List.map Ti.cs l_3) u] ∧ in64 n_1 ∧ LsOk l_3 ∧ br (!Option.isSome (findS m_4 n l)) (K (PV.bool true)) (∃ (A : List Nat), ∃ (E : List Nat), ∃ (x : List Nat), ∃ (u : Tail), ∃ (v : Tail), SlIs [PV.agg [PV.list (List.map pcs (tmA (findS m_4 n l))) Tail.no, PV.list (List.map pcs (tmB (findS m_4 n l))) Tail.no]] [PV.agg [PV.list (List.map pcs A) u, PV.list (List.map pcs E) v]] ∧ Both A E x ∧ ∃ (A : List Nat), ∃ (E : List Nat), ∃ (x_1 : List Nat), ∃ (u : Tail), ∃ (v : Tail), SlIs [PV.agg [PV.list (List.map pcs (tmA (findS m n_1 l_3))) Tail.no, PV.list (List.map pcs (tmB (findS m n_1 l_3))) Tail.no]] [PV.agg [PV.list (List.map pcs A) u, PV.list (List.map pcs E) v]] ∧ Both A E x_1 ∧ br (Option.isSome (findS m n_1 l_3) == true) (∃ (x_2 : List Nat), ∃ (y : List Nat), ∃ (u : Tail), ∃ (v : Tail), SlIs [PV.list (List.map pcs x) Tail.no, PV.list (List.map pcs x_1) Tail.no] [PV.list (List.map pcs x_2) u, PV.list (List.map pcs y) v] ∧ List.length x_2 ≤ 100 ∧ br ((!aheadN x_2 y) == true) (K (PV.bool true)) (K (PV.bool false))) (K (PV.bool false)))))) (K (PV.bool true))) = wpc br Try.prog gl TAl [] (fun _ => 0) (bodyOf Try.f8) [] (env0 [m.pv, .agg [.int .i64 a, .int .i64 b], .list (l.map Ti.cs) .no]) [] (resQ Try.prog Try.f8.results.toList (fun x _ => K x)) := by kernel_rfl
theorem lWaits_vc (m : Mo) (a b : Int) (l : List Ti)  (K : PV → Prop) (h : br (decide ((↑(List.length (List.map Ti.cs l)) : Int) > 10) == false) (∃ (l_1 : List Ti), ∃ (u : Tail), SlIs [PV.list (List.map Ti.cs l) Tail.no] [PV.list (List.map Ti.cs l_1) u] ∧ List.length l_1 ≤ 20 ∧ (∀ (t : Ti), t ∈ l_1 → NT (Ti.Pt t)) ∧ br (!smallS l_1) (K (PV.bool true)) (∃ (l_2 : List Ti), ∃ (u : Tail), SlIs [PV.list (List.map Ti.cs l) Tail.no] [PV.list (List.map Ti.cs l_2) u] ∧ PtNo l_2 ∧ ∃ (m_1 : Mo), SlIs [PV.agg [PV.int IntKind.i64 (Mo.K m), PV.int IntKind.i64 (Mo.Base m), PV.int IntKind.i64 (Mo.Step m), PV.int IntKind.i64 (Mo.Cap m), PV.int IntKind.i64 (Mo.Every m)]] [PV.agg [PV.int IntKind.i64 (Mo.K m_1), PV.int IntKind.i64 (Mo.Base m_1), PV.int IntKind.i64 (Mo.Step m_1), PV.int IntKind.i64 (Mo.Cap m_1), PV.int IntKind.i64 (Mo.Every m_1)]] ∧ ∃ (m_2 : Mo), ∃ (n : Int), ∃ (l : List Ti), ∃ (u : Tail), SlIs [PV.agg [PV.int IntKind.i64 (Mo.K m_1), PV.int IntKind.i64 (Mo.Base m_1), PV.int IntKind.i64 (Mo.Step m_1), PV.int IntKind.i64 (Mo.Cap m_1), PV.int IntKind.i64 (Mo.Every m_1)], PV.int IntKind.i64 (mnI a b), PV.list (List.map Ti.cs l_2) Tail.no] [PV.agg [PV.int IntKind.i64 (Mo.K m_2), PV.int IntKind.i64 (Mo.Base m_2), PV.int IntKind.i64 (Mo.Step m_2), PV.int IntKind.i64 (Mo.Cap m_2), PV.int IntKind.i64 (Mo.Every m_2)], PV.int IntKind.i64 n, PV.list (List.map Ti.cs l) u] ∧ in64 n ∧ LsOk l ∧ br (fitsS m_2 n l == true) (∃ (m_3 : Mo), SlIs [PV.agg [PV.int IntKind.i64 (Mo.K m), PV.int IntKind.i64 (Mo.Base m), PV.int IntKind.i64 (Mo.Step m), PV.int IntKind.i64 (Mo.Cap m), PV.int IntKind.i64 (Mo.Every m)]] [PV.agg [PV.int IntKind.i64 (Mo.K m_3), PV.int IntKind.i64 (Mo.Base m_3), PV.int IntKind.i64 (Mo.Step m_3), PV.int IntKind.i64 (Mo.Cap m_3), PV.int IntKind.i64 (Mo.Every m_3)]] ∧ ∃ (m_4 : Mo), ∃ (n : Int), ∃ (l : List Ti), ∃ (u : Tail), SlIs [PV.agg [PV.int IntKind.i64 (Mo.K m_3), PV.int IntKind.i64 (Mo.Base m_3), PV.int IntKind.i64 (Mo.Step m_3), PV.int IntKind.i64 (Mo.Cap m_3), PV.int IntKind.i64 (Mo.Every m_3)], PV.int IntKind.i64 (mxI a b), PV.list (List.map Ti.cs l_2) Tail.no] [PV.agg [PV.int IntKind.i64 (Mo.K m_4), PV.int IntKind.i64 (Mo.Base m_4), PV.int IntKind.i64 (Mo.Step m_4), PV.int IntKind.i64 (Mo.Cap m_4), PV.int IntKind.i64 (Mo.Every m_4)], PV.int IntKind.i64 n, PV.list (List.map Ti.cs l) u] ∧ in64 n ∧ LsOk l ∧ br (!fitsS m_4 n l) (K (PV.bool false)) (∃ (m_5 : Mo), SlIs [PV.agg [PV.int IntKind.i64 (Mo.K m), PV.int IntKind.i64 (Mo.Base m), PV.int IntKind.i64 (Mo.Step m), PV.int IntKind.i64 (Mo.Cap m), PV.int IntKind.i64 (Mo.Every m)]] [PV.agg [PV.int IntKind.i64 (Mo.K m_5), PV.int IntKind.i64 (Mo.Base m_5), PV.int IntKind.i64 (Mo.Step m_5), PV.int IntKind.i64 (Mo.Cap m_5), PV.int IntKind.i64 (Mo.Every m_5)]] ∧ ∃ (m_6 : Mo), ∃ (n : Int), ∃ (l : List Ti), ∃ (u : Tail), SlIs [PV.agg [PV.int IntKind.i64 (Mo.K m_5), PV.int IntKind.i64 (Mo.Base m_5), PV.int IntKind.i64 (Mo.Step m_5), PV.int IntKind.i64 (Mo.Cap m_5), PV.int IntKind.i64 (Mo.Every m_5)], PV.int IntKind.i64 (mnI a b), PV.list (List.map Ti.cs l_2) Tail.no] [PV.agg [PV.int IntKind.i64 (Mo.K m_6), PV.int IntKind.i64 (Mo.Base m_6), PV.int IntKind.i64 (Mo.Step m_6), PV.int IntKind.i64 (Mo.Cap m_6), PV.int IntKind.i64 (Mo.Every m_6)], PV.int IntKind.i64 n, PV.list (List.map Ti.cs l) u] ∧ in64 n ∧ LsOk l ∧ ∃ (m_7 : Mo), SlIs [PV.agg [PV.int IntKind.i64 (Mo.K m), PV.int IntKind.i64 (Mo.Base m), PV.int IntKind.i64 (Mo.Step m), PV.int IntKind.i64 (Mo.Cap m), PV.int IntKind.i64 (Mo.Every m)]] [PV.agg [PV.int IntKind.i64 (Mo.K m_7), PV.int IntKind.i64 (Mo.Base m_7), PV.int IntKind.i64 (Mo.Step m_7), PV.int IntKind.i64 (Mo.Cap m_7), PV.int IntKind.i64 (Mo.Every m_7)]] ∧ ∃ (m : Mo), ∃ (n_1 : Int), ∃ (l_3 : List Ti), ∃ (u : Tail), SlIs [PV.agg [PV.int IntKind.i64 (Mo.K m_7), PV.int IntKind.i64 (Mo.Base m_7), PV.int IntKind.i64 (Mo.Step m_7), PV.int IntKind.i64 (Mo.Cap m_7), PV.int IntKind.i64 (Mo.Every m_7)], PV.int IntKind.i64 (mxI a b), PV.list (List.map Ti.cs l_2) Tail.no] [PV.agg [PV.int IntKind.i64 (Mo.K m), PV.int IntKind.i64 (Mo.Base m), PV.int IntKind.i64 (Mo.Step m), PV.int IntKind.i64 (Mo.Cap m), PV.int IntKind.i64 (Mo.Every m)], PV.int IntKind.i64 n_1, PV.list (List.map Ti.cs l_3) u] ∧ in64 n_1 ∧ LsOk l_3 ∧ br (!Option.isSome (findS m_6 n l)) (K (PV.bool true)) (∃ (A : List Nat), ∃ (E : List Nat), ∃ (x : List Nat), ∃ (u : Tail), ∃ (v : Tail), SlIs [PV.agg [PV.list (List.map pcs (tmA (findS m_6 n l))) Tail.no, PV.list (List.map pcs (tmB (findS m_6 n l))) Tail.no]] [PV.agg [PV.list (List.map pcs A) u, PV.list (List.map pcs E) v]] ∧ Both A E x ∧ ∃ (A : List Nat), ∃ (E : List Nat), ∃ (x_1 : List Nat), ∃ (u : Tail), ∃ (v : Tail), SlIs [PV.agg [PV.list (List.map pcs (tmA (findS m n_1 l_3))) Tail.no, PV.list (List.map pcs (tmB (findS m n_1 l_3))) Tail.no]] [PV.agg [PV.list (List.map pcs A) u, PV.list (List.map pcs E) v]] ∧ Both A E x_1 ∧ br (Option.isSome (findS m n_1 l_3) == true) (∃ (x_2 : List Nat), ∃ (y : List Nat), ∃ (u : Tail), ∃ (v : Tail), SlIs [PV.list (List.map pcs x) Tail.no, PV.list (List.map pcs x_1) Tail.no] [PV.list (List.map pcs x_2) u, PV.list (List.map pcs y) v] ∧ List.length x_2 ≤ 100 ∧ br ((!aheadN x_2 y) == true) (K (PV.bool true)) (K (PV.bool false))) (K (PV.bool false))))) (∃ (m_3 : Mo), SlIs [PV.agg [PV.int IntKind.i64 (Mo.K m), PV.int IntKind.i64 (Mo.Base m), PV.int IntKind.i64 (Mo.Step m), PV.int IntKind.i64 (Mo.Cap m), PV.int IntKind.i64 (Mo.Every m)]] [PV.agg [PV.int IntKind.i64 (Mo.K m_3), PV.int IntKind.i64 (Mo.Base m_3), PV.int IntKind.i64 (Mo.Step m_3), PV.int IntKind.i64 (Mo.Cap m_3), PV.int IntKind.i64 (Mo.Every m_3)]] ∧ ∃ (m_4 : Mo), ∃ (n : Int), ∃ (l : List Ti), ∃ (u : Tail), SlIs [PV.agg [PV.int IntKind.i64 (Mo.K m_3), PV.int IntKind.i64 (Mo.Base m_3), PV.int IntKind.i64 (Mo.Step m_3), PV.int IntKind.i64 (Mo.Cap m_3), PV.int IntKind.i64 (Mo.Every m_3)], PV.int IntKind.i64 (mnI a b), PV.list (List.map Ti.cs l_2) Tail.no] [PV.agg [PV.int IntKind.i64 (Mo.K m_4), PV.int IntKind.i64 (Mo.Base m_4), PV.int IntKind.i64 (Mo.Step m_4), PV.int IntKind.i64 (Mo.Cap m_4), PV.int IntKind.i64 (Mo.Every m_4)], PV.int IntKind.i64 n, PV.list (List.map Ti.cs l) u] ∧ in64 n ∧ LsOk l ∧ ∃ (m_5 : Mo), SlIs [PV.agg [PV.int IntKind.i64 (Mo.K m), PV.int IntKind.i64 (Mo.Base m), PV.int IntKind.i64 (Mo.Step m), PV.int IntKind.i64 (Mo.Cap m), PV.int IntKind.i64 (Mo.Every m)]] [PV.agg [PV.int IntKind.i64 (Mo.K m_5), PV.int IntKind.i64 (Mo.Base m_5), PV.int IntKind.i64 (Mo.Step m_5), PV.int IntKind.i64 (Mo.Cap m_5), PV.int IntKind.i64 (Mo.Every m_5)]] ∧ ∃ (m : Mo), ∃ (n_1 : Int), ∃ (l_3 : List Ti), ∃ (u : Tail), SlIs [PV.agg [PV.int IntKind.i64 (Mo.K m_5), PV.int IntKind.i64 (Mo.Base m_5), PV.int IntKind.i64 (Mo.Step m_5), PV.int IntKind.i64 (Mo.Cap m_5), PV.int IntKind.i64 (Mo.Every m_5)], PV.int IntKind.i64 (mxI a b), PV.list (List.map Ti.cs l_2) Tail.no] [PV.agg [PV.int IntKind.i64 (Mo.K m), PV.int IntKind.i64 (Mo.Base m), PV.int IntKind.i64 (Mo.Step m), PV.int IntKind.i64 (Mo.Cap m), PV.int IntKind.i64 (Mo.Every m)], PV.int IntKind.i64 n_1, PV.list (List.map Ti.cs l_3) u] ∧ in64 n_1 ∧ LsOk l_3 ∧ br (!Option.isSome (findS m_4 n l)) (K (PV.bool true)) (∃ (A : List Nat), ∃ (E : List Nat), ∃ (x : List Nat), ∃ (u : Tail), ∃ (v : Tail), SlIs [PV.agg [PV.list (List.map pcs (tmA (findS m_4 n l))) Tail.no, PV.list (List.map pcs (tmB (findS m_4 n l))) Tail.no]] [PV.agg [PV.list (List.map pcs A) u, PV.list (List.map pcs E) v]] ∧ Both A E x ∧ ∃ (A : List Nat), ∃ (E : List Nat), ∃ (x_1 : List Nat), ∃ (u : Tail), ∃ (v : Tail), SlIs [PV.agg [PV.list (List.map pcs (tmA (findS m n_1 l_3))) Tail.no, PV.list (List.map pcs (tmB (findS m n_1 l_3))) Tail.no]] [PV.agg [PV.list (List.map pcs A) u, PV.list (List.map pcs E) v]] ∧ Both A E x_1 ∧ br (Option.isSome (findS m n_1 l_3) == true) (∃ (x_2 : List Nat), ∃ (y : List Nat), ∃ (u : Tail), ∃ (v : Tail), SlIs [PV.list (List.map pcs x) Tail.no, PV.list (List.map pcs x_1) Tail.no] [PV.list (List.map pcs x_2) u, PV.list (List.map pcs y) v] ∧ List.length x_2 ≤ 100 ∧ br ((!aheadN x_2 y) == true) (K (PV.bool true)) (K (PV.bool false))) (K (PV.bool false)))))) (K (PV.bool true))) : ACalls Try.prog gl 8 [m.pv, .agg [.int .i64 a, .int .i64 b], .list (l.map Ti.cs) .no] [] (fun x _ => K x) :=
  acalls_of_wpc2 (T := TAl) (L := []) (fun _ => 0) Try.func8 (by kernel_rfl) (by kernel_rfl) (by kernel_rfl) (TAl_ok) (LOk.nil _ _ _ _ _) (holds_of_eq (lWaits_red m a b l K) h)
theorem win_mono {m : Mo} (h : okM m) {a b : Int} (hab : a ≤ b) : winM m a ≤ winM m b := by
  have h' := h
  obtain ⟨_, hb, hs, hc, he⟩ := h'
  have h2 : mxI 0 a ≤ mxI 0 b := by unfold mxI; (repeat' split) <;> omega
  have h3 : mxI 0 a / m.Every ≤ mxI 0 b / m.Every := Int.ediv_le_ediv (by omega) h2
  have h4 := Int.mul_le_mul_of_nonneg_left h3 hs.1
  unfold winM
  rw [if_pos h, if_pos h]
  unfold mnI; (repeat' split) <;> omega
theorem wait_mono {a b s : Int} (hab : a ≤ b) : waitS a s ≤ waitS b s := by unfold waitS; (repeat' split) <;> omega
theorem near_mono {m : Mo} (ok : okM m) {a b : Int} (hab : a ≤ b) {x y : Ti} (h : nearT m a x y = true) : nearT m b x y = true := by
  unfold nearT nearS at h ⊢
  rw [decide_eq_true_eq] at h ⊢
  have h1 := win_mono ok (wait_mono (s := x.Since) hab)
  have h2 := win_mono ok (wait_mono (s := y.Since) hab)
  omega
theorem fits_mono {m : Mo} {a b : Int} (hab : a ≤ b) {l : List Ti} (h : fitsS m a l = true) : fitsS m b l = true := by
  unfold fitsS at h ⊢
  rw [Bool.and_eq_true, decide_eq_true_eq, fit_pw _ (Nat.le_refl _)] at h
  rw [Bool.and_eq_true, decide_eq_true_eq, fit_pw _ (Nat.le_refl _)]
  exact ⟨h.1, h.2.imp fun {x y} q => near_mono h.1 hab q⟩
theorem lg_mono {m : Mo} {a b : Int} (hab : a ≤ b) {l : List Ti} {bs : List Bool} (h : lgB ⟨m, a, l⟩ bs = true) : lgB ⟨m, b, l⟩ bs = true := by
  obtain ⟨h1, h2, h3⟩ := lgB_iff.1 h
  have ok : okM m := by
    have h3' := h3
    unfold tmS at h3'
    cases ht : teamsS m (takenL l (plB true 0 bs)) with
    | none =>
      have : (Option.map (fun r : List Nat × List Nat => (overL (plB true 0 bs) r.1, overL (plB true 0 bs) r.2)) (teamsS m (takenL l (plB true 0 bs)))).isSome = true := h3'
      rw [ht] at this; cases this
    | some r => exact (teams_what ht).1.1
  exact lgB_iff.2 ⟨h1, h2.imp fun {x y} q => near_mono ok hab q, h3⟩
theorem Match.both {m : Mo} {n : Int} {l : List Ti} {A E : List Nat} {bs : List Bool} (h : Match m n l A E bs) : Both A E (plB true 0 bs) :=
  ⟨plB_sorted true bs 0, h.perm, h.pA.1.up, h.pA.2.up, fun k hk => by have := (plB_small (v := true) h.bl).2 k hk; have := h.len; omega, by have := (plB_small (v := true) h.bl).1; have := h.len; omega⟩
theorem waits_law (m : Mo) (a b : Int) (l : List Ti) (ha0 : in64 a) (hb0 : in64 b) (h : LnOk l) {K : PV → Prop} (hk : K (.bool true)) : ACalls Try.prog gl 8 [m.pv, .agg [.int .i64 a, .int .i64 b], .list (l.map Ti.cs) .no] [] (fun x _ => K x) := by
  refine lWaits_vc m a b l K ?_
  have ha : in64 (mnI a b) := by unfold in64 at *; unfold mnI; split <;> omega
  have hb : in64 (mxI a b) := by unfold in64 at *; unfold mxI; split <;> omega
  have hab : mnI a b ≤ mxI a b := by unfold mnI mxI; (repeat' split) <;> omega
  simp only [br_if, df, bt, bf, List.length_map]
  by_cases c : (l.length : Int) > 10
  · rw [if_neg (fun q => q c)]; exact hk
  rw [if_pos c]
  refine ⟨l, .no, rfl, by omega, nt_of h, ?_⟩
  by_cases hs : smallS l = true
  · rw [if_neg (by rw [hs]; decide)]
    obtain ⟨hp, hl⟩ := small_of h hs (by omega)
    refine ⟨l, .no, rfl, hp, m, rfl, m, mnI a b, l, .no, rfl, ha, hl, ?_⟩
    by_cases cf : fitsS m (mnI a b) l = true
    · rw [if_pos cf]
      refine ⟨m, rfl, m, mxI a b, l, .no, rfl, hb, hl, ?_⟩
      rw [if_neg (by rw [fits_mono hab cf]; decide)]
      refine ⟨m, rfl, m, mnI a b, l, .no, rfl, ha, hl, m, rfl, m, mxI a b, l, .no, rfl, hb, hl, ?_⟩
      cases hf : findS m (mnI a b) l with
      | none => rw [if_pos (by rfl)]; exact hk
      | some r =>
        obtain ⟨ba, ma⟩ := match_of hf
        have hw := lg_mono hab ma.lg
        obtain ⟨z, hz⟩ := find_some ma.ok ma.len ma.bl hw
        obtain ⟨bb, mb⟩ := match_of hz
        rw [if_neg (show ¬ (!(some r).isSome) = true from Bool.false_ne_true)]
        refine ⟨r.1, r.2, plB true 0 ba, .no, .no, rfl, ma.both, ?_⟩
        rw [hz]
        refine ⟨z.1, z.2, plB true 0 bb, .no, .no, rfl, mb.both, ?_⟩
        rw [if_pos (by rfl)]
        refine ⟨plB true 0 ba, plB true 0 bb, .no, .no, rfl, by have := (plB_small (v := true) ma.bl).1; omega, ?_⟩
        rw [if_pos]
        · exact hk
        · obtain ⟨a1, _, a3⟩ := lgB_iff.1 ma.lg
          obtain ⟨b1, _, b3⟩ := lgB_iff.1 mb.lg
          rw [ahead_lex (pn := pnL l) (by rw [ma.bl, mb.bl]) (fun k hk => ((tmS_sz a3).2 k hk).1) (fun k hk => ((tmS_sz b3).2 k hk).1) (a1.trans b1.symm)]
          rcases find_min (lexB_sorted l.length) mb.fst _ (lexB_len.2 ma.bl) hw with e | e
          · rw [e, lexlt_irrefl]; rfl
          · rw [lexlt_asymm e]; rfl
    · rw [if_neg cf]
      refine ⟨m, rfl, m, mnI a b, l, .no, rfl, ha, hl, m, rfl, m, mxI a b, l, .no, rfl, hb, hl, ?_⟩
      cases hf : findS m (mnI a b) l with
      | none => rw [if_pos (by rfl)]; exact hk
      | some r =>
        obtain ⟨ba, ma⟩ := match_of hf
        have hw := lg_mono hab ma.lg
        obtain ⟨z, hz⟩ := find_some ma.ok ma.len ma.bl hw
        obtain ⟨bb, mb⟩ := match_of hz
        rw [if_neg (show ¬ (!(some r).isSome) = true from Bool.false_ne_true)]
        refine ⟨r.1, r.2, plB true 0 ba, .no, .no, rfl, ma.both, ?_⟩
        rw [hz]
        refine ⟨z.1, z.2, plB true 0 bb, .no, .no, rfl, mb.both, ?_⟩
        rw [if_pos (by rfl)]
        refine ⟨plB true 0 ba, plB true 0 bb, .no, .no, rfl, by have := (plB_small (v := true) ma.bl).1; omega, ?_⟩
        rw [if_pos]
        · exact hk
        · obtain ⟨a1, _, a3⟩ := lgB_iff.1 ma.lg
          obtain ⟨b1, _, b3⟩ := lgB_iff.1 mb.lg
          rw [ahead_lex (pn := pnL l) (by rw [ma.bl, mb.bl]) (fun k hk => ((tmS_sz a3).2 k hk).1) (fun k hk => ((tmS_sz b3).2 k hk).1) (a1.trans b1.symm)]
          rcases find_min (lexB_sorted l.length) mb.fst _ (lexB_len.2 ma.bl) hw with e | e
          · rw [e, lexlt_irrefl]; rfl
          · rw [lexlt_asymm e]; rfl
  · rw [if_pos (by rw [Bool.eq_false_iff.2 hs]; rfl)]; exact hk
theorem waits_args (xs : List PV) (h : WTargs Try.prog 6 Try.f8.params.toList xs) : ACalls Try.prog gl 8 xs [] (fun x _ => x = .bool true) := by
  rw [Try.params8] at h
  obtain ⟨x, r, rfl, h1, y, r2, rfl, h2, z, r3, rfl, h3, h4⟩ := h
  obtain rfl := wtargs_nil h4
  obtain ⟨m, rfl⟩ := moa_of h1
  unfold WTa at h2
  rw [Try.underlying58] at h2
  obtain ⟨cs, rfl, g⟩ := h2
  have g : WFs (WTp Try.prog 5) [2, 2] cs := wtp_array Try.underlying58 g
  obtain ⟨a, r, rfl, g1, b, r2, rfl, g2, g3⟩ := g
  obtain rfl := wfs_nil g3
  obtain ⟨a, rfl, ha⟩ := wtp_int u2 g1
  obtain ⟨b, rfl, hb⟩ := wtp_int u2 g2
  obtain ⟨l, rfl, hl⟩ := tis_of h3
  exact waits_law m a b l ha hb hl (K := fun x => x = .bool true) rfl
end Go.Proofs.Ytmcincfonnfblaa
