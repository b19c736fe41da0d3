/-
  An act on a book and on the document's.
-/
import Derived.Test.YthabdpaipgclpaaPk
import Derived.Test.YthabdpaipgclpaaProg
namespace Go.Proofs.Ythabdpaipgclpaa
open Go Go.AM Go.Proofs
structure Kp (c : Pt) : Prop where
  n4 : c.ms.length + c.iv.length ≤ 4
  mn : c.ms.Nodup
  vn : c.iv.Nodup
  dj : ∀ x ∈ c.ms, x ∉ c.iv
theorem Pt.Ok.kp {c : Pt} (h : c.Ok) : Kp c := ⟨h.n4, h.mn, h.vn, h.dj⟩
theorem Kp.fix {c : Pt} (k : Kp c) (hr : rightS c.id = true) (o : ¬ ovP c = true) : (fixP c).Ok := by
  have o' := of_decide_eq_false (eq_false_of_ne_true o)
  have hm : 0 < c.ms.length := by omega
  unfold fixP
  split
  · rename_i h
    exact ⟨hr, by omega, by omega, k.n4, memB_iff.1 h, k.mn, k.vn, k.dj⟩
  · exact ⟨hr, (show 1 ≤ c.ms.length by omega), (show 2 ≤ c.ms.length + c.iv.length by omega), k.n4, (getD_mem hm : c.ms.getD 0 0 ∈ c.ms), k.mn, k.vn, k.dj⟩
theorem fixP_ms (c : Pt) : (fixP c).ms = c.ms := by unfold fixP; split <;> rfl
theorem PO.drop {w : List Pt} {m : Int} (h : PO w m) (t : Int) : PO (dropG Pt.id w t) m :=
  ⟨h.rise.drop t, by have := h.full; have : (dropG Pt.id w t).length ≤ w.length := List.length_filter_le _ _; omega, h.big, fun c hc => h.cs c (mem_dropG.1 hc).1, fun a ha b hb => h.one a (mem_dropG.1 ha).1 b (mem_dropG.1 hb).1⟩
theorem PO.keep {w : List Pt} {m : Int} {c : Pt} (ro : PO w m) (hr : rightS c.id = true) (hh : hasG Pt.id w c.id = true ∨ (w.length : Int) < m) (k : Kp c) (hd : ∀ b ∈ w, b.id ≠ c.id → ∀ x ∈ c.ms, x ∉ b.ms) : PO (keepS w c).1 m := by
  unfold keepS
  by_cases o : ovP c = true
  · rw [if_pos o]; exact ro.drop _
  · rw [if_neg o]
    have e := putG_len ro.rise (fixP c)
    have hf := ro.full
    refine ⟨ro.rise.put _, ?_, ro.big, fun x hx => ?_, fun a ha b hb x hxa hxb => ?_⟩
    · show ((putG Pt.id w (fixP c)).length : Int) ≤ m
      rw [e, fixP_id]
      split
      · exact hf
      · rename_i q
        have := hh.resolve_left q
        omega
    · rcases mem_putG.1 hx with rfl | ⟨hx, _⟩
      · exact k.fix hr o
      · exact ro.cs x hx
    · rcases mem_putG.1 ha with rfl | ⟨ha, ha2⟩ <;> rcases mem_putG.1 hb with rfl | ⟨hb, hb2⟩
      · rfl
      · rw [fixP_ms] at hxa; rw [fixP_id] at hb2
        exact absurd hxb (hd b hb hb2 x hxa)
      · rw [fixP_ms] at hxb; rw [fixP_id] at ha2
        exact absurd hxa (hd a ha ha2 x hxb)
      · exact ro.one a ha b hb x hxa hxb
theorem of_mem {w : List Pt} {m : Int} (ro : PO w m) {p : Int} {b : Pt} (hb : b ∈ w) (hp : p ∈ b.ms) : ofP w p = b.id := by
  have h : w.findIdx (fun c => memB c.ms p) < w.length := List.findIdx_lt_length.2 ⟨b, hb, memB_iff.2 hp⟩
  unfold ofP
  rw [if_pos h]
  have h2 : memB (w.getD (w.findIdx (fun c => memB c.ms p)) default).ms p = true := by
    rw [getD_eq' h]; exact List.findIdx_getElem (p := fun c : Pt => memB c.ms p) (xs := w) (w := h)
  rw [ro.one _ (getD_mem h) b hb p (memB_iff.1 h2) hp]
theorem of_zero {w : List Pt} {m : Int} (ro : PO w m) {p : Int} (h : ofP w p = 0) {b : Pt} (hb : b ∈ w) : p ∉ b.ms := fun hp => by
  have e := of_mem ro hb hp
  have r := (ro.cs b hb).rt
  rw [← e, h] at r
  exact absurd r (by decide)
theorem of_has {w : List Pt} {m : Int} (ro : PO w m) {p : Int} {b : Pt} (hb : b ∈ w) (hp : p ∈ b.ms) : hP w (ofP w p) = true := by
  rw [of_mem ro hb hp]; exact hasG_iff.2 ⟨b, hb, rfl⟩
theorem sub_dj {w : List Pt} {m : Int} (ro : PO w m) {g : Pt} (hg : g ∈ w) {l : List Int} (hs : ∀ x ∈ l, x ∈ g.ms) : ∀ b ∈ w, b.id ≠ g.id → ∀ x ∈ l, x ∉ b.ms := fun b hb hne x hx hxb => hne (by rw [ro.one b hb g hg x hxb (hs x hx)])
theorem snoc_nodup {l : List Int} {p : Int} (h : l.Nodup) (hp : p ∉ l) : (l ++ [p]).Nodup := by
  rw [List.nodup_append]
  exact ⟨h, by simp, fun a ha b hb => by rcases List.mem_singleton.1 hb with rfl; exact fun e => hp (e ▸ ha)⟩
theorem woS_lt {l : List Int} {p : Int} (h : p ∈ l) : (woS l p).length < l.length := by
  unfold woS
  rw [List.length_filter_lt_length_iff_exists]
  exact ⟨p, h, by simp [eqT]⟩
theorem freeP_right {w : List Pt} {m : Int} (ro : PO w m) : rightS (freeP w) = true := by
  have hg := gap_le (rowsP w)
  have hl : (rowsP w).length = w.length := List.length_map _
  have := ro.len
  unfold freeP rightS
  exact decide_eq_true (by omega)
theorem PO.inv {w : List Pt} {m : Int} (ro : PO w m) (a p : Int) : PO (invS w m a p).1 m := by
  unfold invS
  split
  · split
    · exact ro
    · rename_i hap
      split
      · rename_i c1
        have k := ro.into c1
        split
        · split
          · exact ro
          · rename_i c5
            split
            · exact ro
            · rename_i c7
              refine ro.keep k.ok.rt (.inl k.has) ⟨?_, k.ok.mn, snoc_nodup k.ok.vn fun h => c5 (.inr (memB_iff.2 h)), fun x hx hx2 => ?_⟩ (sub_dj ro k.mem fun _ h => h)
              · show (gP w (ofP w a)).ms.length + ((gP w (ofP w a)).iv ++ [p]).length ≤ 4
                rw [List.length_append, List.length_singleton]; omega
              · rcases List.mem_append.1 hx2 with hx2 | hx2
                · exact k.ok.dj x hx hx2
                · rcases List.mem_singleton.1 hx2 with rfl; exact c5 (.inl (memB_iff.2 hx))
        · exact ro
      · rename_i c1
        split
        · exact ro
        · refine ro.keep (c := ⟨freeP w, a, [a], [p]⟩) (freeP_right ro) (.inr (by omega)) ⟨(by decide : (1 : Nat) + 1 ≤ 4), List.nodup_cons.2 ⟨List.not_mem_nil, List.nodup_nil⟩, List.nodup_cons.2 ⟨List.not_mem_nil, List.nodup_nil⟩, fun x hx hx2 => ?_⟩ fun b hb _ x hx hxb => ?_
          · rcases List.mem_singleton.1 hx with rfl; rcases List.mem_singleton.1 hx2 with rfl; exact hap rfl
          · rcases List.mem_singleton.1 hx with rfl; exact c1 (of_has ro hb hxb)
  · exact ro
theorem PO.join {w : List Pt} {m : Int} (ro : PO w m) (t p : Int) : PO (joinS w t p).1 m := by
  unfold joinS
  split
  · rename_i c
    have k := ro.into c.1
    have hp := memB_iff.1 c.2
    split
    · rename_i c3
      have h4 := k.ok.n4
      have hw := woS_lt hp
      refine ro.keep k.ok.rt (.inl k.has) ⟨?_, snoc_nodup k.ok.mn (fun h => k.ok.dj p h hp), woS_nodup k.ok.vn p, fun x hx hx2 => ?_⟩ fun b hb hne x hx hxb => ?_
      · show ((gP w t).ms ++ [p]).length + (woS (gP w t).iv p).length ≤ 4
        rw [List.length_append, List.length_singleton]; omega
      · have hx2 := mem_woS.1 hx2
        rcases List.mem_append.1 (show x ∈ (gP w t).ms ++ [p] from hx) with hx | hx
        · exact k.ok.dj x hx hx2.1
        · exact hx2.2 (List.mem_singleton.1 hx)
      · rcases List.mem_append.1 (show x ∈ (gP w t).ms ++ [p] from hx) with hx | hx
        · exact sub_dj ro k.mem (fun _ h => h) b hb hne x hx hxb
        · rcases List.mem_singleton.1 hx with rfl; exact of_zero ro c3 hb hxb
    · exact ro
  · exact ro
theorem PO.sub {w : List Pt} {m : Int} (ro : PO w m) {t : Int} (c1 : hP w t = true) (c : Pt) (h1 : c.id = (gP w t).id) (h2 : c.ms.length + c.iv.length ≤ (gP w t).ms.length + (gP w t).iv.length) (h3 : c.ms.Nodup) (h4 : c.iv.Nodup) (h5 : ∀ x ∈ c.ms, x ∈ (gP w t).ms) (h6 : ∀ x ∈ c.iv, x ∈ (gP w t).iv) : PO (keepS w c).1 m := by
  have k := ro.into c1
  have := k.ok.n4
  exact ro.keep (by rw [h1]; exact k.ok.rt) (.inl (by rw [h1]; exact k.has)) ⟨by omega, h3, h4, fun x hx hx2 => k.ok.dj x (h5 x hx) (h6 x hx2)⟩ (by rw [h1]; exact sub_dj ro k.mem h5)
theorem PO.ref {w : List Pt} {m : Int} (ro : PO w m) (t p : Int) : PO (refS w t p).1 m := by
  unfold refS
  split
  · rename_i c
    have k := ro.into c.1
    have := woS_len (gP w t).iv p
    exact ro.sub c.1 (refC (gP w t) p) rfl (by show (gP w t).ms.length + (woS (gP w t).iv p).length ≤ _; omega) k.ok.mn (woS_nodup k.ok.vn p) (fun _ h => h) (fun x h => (mem_woS.1 h).1)
  · exact ro
theorem PO.leave {w : List Pt} {m : Int} (ro : PO w m) (p : Int) : PO (leaveS w p).1 m := by
  unfold leaveS
  split
  · rename_i c
    have k := ro.into c
    have := woS_len (gP w (ofP w p)).ms p
    exact ro.sub c (leaveC (gP w (ofP w p)) p) rfl (by show (woS (gP w (ofP w p)).ms p).length + (gP w (ofP w p)).iv.length ≤ _; omega) (woS_nodup k.ok.mn p) k.ok.vn (fun x h => (mem_woS.1 h).1) (fun _ h => h)
  · exact ro
theorem led_has {w : List Pt} {a p : Int} (c0 : ledE w a p = 0) : hP w (ofP w a) = true := Classical.byContradiction fun h => by unfold ledE at c0; rw [if_neg h] at c0; exact absurd c0 (by decide)
theorem PO.kick {w : List Pt} {m : Int} (ro : PO w m) (a p : Int) : PO (kickS w a p).1 m := by
  unfold kickS
  split
  · rename_i c0
    have c := led_has c0
    have k := ro.into c
    have h1 := woS_len (gP w (ofP w a)).ms p
    have h2 := woS_len (gP w (ofP w a)).iv p
    split
    · exact ro.sub c (kickC (gP w (ofP w a)) p) rfl (by show (woS (gP w (ofP w a)).ms p).length + (woS (gP w (ofP w a)).iv p).length ≤ _; omega) (woS_nodup k.ok.mn p) (woS_nodup k.ok.vn p) (fun x h => (mem_woS.1 h).1) (fun x h => (mem_woS.1 h).1)
    · exact ro
  · exact ro
theorem PO.lead {w : List Pt} {m : Int} (ro : PO w m) (a p : Int) : PO (leadS w a p).1 m := by
  unfold leadS
  split
  · rename_i c0
    have c := led_has c0
    have k := ro.into c
    split
    · exact ro.sub c (leadC (gP w (ofP w a)) p) rfl (Nat.le_refl _) k.ok.mn k.ok.vn (fun _ h => h) (fun _ h => h)
    · exact ro
  · exact ro
theorem PO.nil {m : Int} (h0 : 0 ≤ m) (h : m ≤ 1000000) : PO [] m := ⟨.nil _, by simpa using h0, h, (fun _ h => nomatch h), (fun _ h => nomatch h)⟩
structure Pa where
  d : Int
  a : Int
  b : Int
def Pa.cs (a : Pa) : List PV := [.int .u8 a.d, .int .u32 a.a, .int .u32 a.b]
instance paInh : Inhabited Pa := ⟨⟨0, 0, 0⟩⟩
theorem Pa.cs_len (a : Pa) : a.cs.length = 3 := rfl
def Pa.ok (a : Pa) : Prop := 0 ≤ a.a ∧ 0 ≤ a.b
theorem low_pa {n : Nat} (a : Pa) : ∀ x ∈ a.cs, Low n x := low_three (.int _ _) (.int _ _) (.int _ _)
abbrev An := Int × Int × Bool
def actS (w : List Pt) (m : Int) (a : Pa) : List Pt × An :=
  if a.d = 0 then ((invS w m a.a a.b).1, (invS w m a.a a.b).2.2, (invS w m a.a a.b).2.1, false)
  else if a.d = 1 then ((joinS w a.b a.a).1, (joinS w a.b a.a).2, 0, false)
  else if a.d = 2 then ((refS w a.b a.a).1, (refS w a.b a.a).2.2, 0, (refS w a.b a.a).2.1)
  else if a.d = 3 then ((leaveS w a.a).1, (leaveS w a.a).2.2.2, (leaveS w a.a).2.1, (leaveS w a.a).2.2.1)
  else if a.d = 4 then ((kickS w a.a a.b).1, (kickS w a.a a.b).2.2, 0, (kickS w a.a a.b).2.1)
  else if a.d = 5 then ((leadS w a.a a.b).1, (leadS w a.a a.b).2, 0, false)
  else (w, 0, 0, false)
theorem PO.act {w : List Pt} {m : Int} (ro : PO w m) (a : Pa) : PO (actS w m a).1 m := by
  unfold actS
  (repeat' split)
  · exact ro.inv _ _
  · exact ro.join _ _
  · exact ro.ref _ _
  · exact ro.leave _
  · exact ro.kick _ _
  · exact ro.lead _ _
  · exact ro
def eqA (p q : An) : Bool := if p.1 = q.1 then (if p.2.1 = q.2.1 then p.2.2 == q.2.2 else false) else false
theorem eqA_self (p : An) : eqA p p = true := by unfold eqA; simp
def TD13 : Tab := (36, .heap inv_s) :: (40, .heap join_s) :: (37, .heap ref_s) :: (38, .heap leave_s) :: (39, .heap kick_s) :: (41, .heap lead_s) :: (60, .pure qinv_s) :: (61, .pure qjoin_s) :: (62, .pure qref_s) :: (63, .pure qleave_s) :: (64, .pure qkick_s) :: (65, .pure qlead_s) :: TY0
theorem TD13_ok : TabOk Try.prog gl TD13 := .cons inv_ok (.cons join_ok (.cons ref_ok (.cons leave_ok (.cons kick_ok (.cons lead_ok (.cons qinv_ok (.cons qjoin_ok (.cons qref_ok (.cons qleave_ok (.cons qkick_ok (.cons qlead_ok TY0_ok)))))))))))
theorem pdo1_vc (w l : List Pt) (m : Int) (a : Pa)  (K : PV → Heap → Prop) (h : br (Pa.d a == 0) (∃ (w_1 : List Pt), ∃ (m_1 : Int), ∃ (a_1 : Int), ∃ (p : Int), SlIs [PV.int IntKind.u32 (Pa.a a), PV.int IntKind.u32 (Pa.b a)] [PV.int IntKind.u32 a_1, PV.int IntKind.u32 p] ∧ AbIs [Ob.cells [PV.ptr 1 0], Ob.abs (rkP (rowsP w) m), Ob.cells [PV.int IntKind.u8 (Pa.d a), PV.int IntKind.u32 (Pa.a a), PV.int IntKind.u32 (Pa.b a)]] 1 (rkP (rowsP w_1) m_1) ∧ PO w_1 m_1 ∧ ∃ (w : List Pt), ∃ (m_2 : Int), ∃ (tl : Tail), ∃ (a_2 : Int), ∃ (p_1 : Int), SlIs [PV.list (List.map ptc l) Tail.no, PV.int IntKind.i64 m, PV.int IntKind.u32 (Pa.a a), PV.int IntKind.u32 (Pa.b a)] [PV.list (List.map ptc w) tl, PV.int IntKind.i64 m_2, PV.int IntKind.u32 a_2, PV.int IntKind.u32 p_1] ∧ PO w m_2 ∧ m_2 ≤ 100000 ∧ 0 ≤ a_2 ∧ 0 ≤ p_1 ∧ br ((Prod.snd (Prod.snd (invS w_1 m_1 a_1 p)) == Prod.snd (Prod.snd (invS w m_2 a_2 p_1))) == true) (br ((Prod.fst (Prod.snd (invS w_1 m_1 a_1 p)) == Prod.fst (Prod.snd (invS w m_2 a_2 p_1))) == true) (K (PV.tup [PV.list (List.map ptc (Prod.fst (invS w m_2 a_2 p_1))) Tail.no, PV.bool true]) [Ob.cells [PV.ptr 1 0], Ob.abs (rkP (rowsP (Prod.fst (invS w_1 m_1 a_1 p))) m_1), Ob.cells [PV.int IntKind.u8 (Pa.d a), PV.int IntKind.u32 (Pa.a a), PV.int IntKind.u32 (Pa.b a)]]) (K (PV.tup [PV.list (List.map ptc (Prod.fst (invS w m_2 a_2 p_1))) Tail.no, PV.bool false]) [Ob.cells [PV.ptr 1 0], Ob.abs (rkP (rowsP (Prod.fst (invS w_1 m_1 a_1 p))) m_1), Ob.cells [PV.int IntKind.u8 (Pa.d a), PV.int IntKind.u32 (Pa.a a), PV.int IntKind.u32 (Pa.b a)]])) (K (PV.tup [PV.list (List.map ptc (Prod.fst (invS w m_2 a_2 p_1))) Tail.no, PV.bool false]) [Ob.cells [PV.ptr 1 0], Ob.abs (rkP (rowsP (Prod.fst (invS w_1 m_1 a_1 p))) m_1), Ob.cells [PV.int IntKind.u8 (Pa.d a), PV.int IntKind.u32 (Pa.a a), PV.int IntKind.u32 (Pa.b a)]])) (br (Pa.d a == 1) (∃ (w_1 : List Pt), ∃ (m_1 : Int), ∃ (t : Int), ∃ (p : Int), SlIs [PV.int IntKind.u32 (Pa.b a), PV.int IntKind.u32 (Pa.a a)] [PV.int IntKind.u32 t, PV.int IntKind.u32 p] ∧ AbIs [Ob.cells [PV.ptr 1 0], Ob.abs (rkP (rowsP w) m), Ob.cells [PV.int IntKind.u8 (Pa.d a), PV.int IntKind.u32 (Pa.a a), PV.int IntKind.u32 (Pa.b a)]] 1 (rkP (rowsP w_1) m_1) ∧ PO w_1 m_1 ∧ ∃ (w : List Pt), ∃ (m : Int), ∃ (tl : Tail), ∃ (t_1 : Int), ∃ (p_1 : Int), SlIs [PV.list (List.map ptc l) Tail.no, PV.int IntKind.u32 (Pa.b a), PV.int IntKind.u32 (Pa.a a)] [PV.list (List.map ptc w) tl, PV.int IntKind.u32 t_1, PV.int IntKind.u32 p_1] ∧ PO w m ∧ m ≤ 100000 ∧ br ((Prod.snd (joinS w_1 t p) == Prod.snd (joinS w t_1 p_1)) == true) (K (PV.tup [PV.list (List.map ptc (Prod.fst (joinS w t_1 p_1))) Tail.no, PV.bool true]) [Ob.cells [PV.ptr 1 0], Ob.abs (rkP (rowsP (Prod.fst (joinS w_1 t p))) m_1), Ob.cells [PV.int IntKind.u8 (Pa.d a), PV.int IntKind.u32 (Pa.a a), PV.int IntKind.u32 (Pa.b a)]]) (K (PV.tup [PV.list (List.map ptc (Prod.fst (joinS w t_1 p_1))) Tail.no, PV.bool false]) [Ob.cells [PV.ptr 1 0], Ob.abs (rkP (rowsP (Prod.fst (joinS w_1 t p))) m_1), Ob.cells [PV.int IntKind.u8 (Pa.d a), PV.int IntKind.u32 (Pa.a a), PV.int IntKind.u32 (Pa.b a)]])) (br (Pa.d a == 2) (∃ (w_1 : List Pt), ∃ (m_1 : Int), ∃ (t : Int), ∃ (p : Int), SlIs [PV.int IntKind.u32 (Pa.b a), PV.int IntKind.u32 (Pa.a a)] [PV.int IntKind.u32 t, PV.int IntKind.u32 p] ∧ AbIs [Ob.cells [PV.ptr 1 0], Ob.abs (rkP (rowsP w) m), Ob.cells [PV.int IntKind.u8 (Pa.d a), PV.int IntKind.u32 (Pa.a a), PV.int IntKind.u32 (Pa.b a)]] 1 (rkP (rowsP w_1) m_1) ∧ PO w_1 m_1 ∧ ∃ (w : List Pt), ∃ (m : Int), ∃ (tl : Tail), ∃ (t_1 : Int), ∃ (p_1 : Int), SlIs [PV.list (List.map ptc l) Tail.no, PV.int IntKind.u32 (Pa.b a), PV.int IntKind.u32 (Pa.a a)] [PV.list (List.map ptc w) tl, PV.int IntKind.u32 t_1, PV.int IntKind.u32 p_1] ∧ PO w m ∧ m ≤ 100000 ∧ br ((Prod.snd (Prod.snd (refS w_1 t p)) == Prod.snd (Prod.snd (refS w t_1 p_1))) == true) (K (PV.tup [PV.list (List.map ptc (Prod.fst (refS w t_1 p_1))) Tail.no, PV.bool (Prod.fst (Prod.snd (refS w_1 t p)) == Prod.fst (Prod.snd (refS w t_1 p_1)))]) [Ob.cells [PV.ptr 1 0], Ob.abs (rkP (rowsP (Prod.fst (refS w_1 t p))) m_1), Ob.cells [PV.int IntKind.u8 (Pa.d a), PV.int IntKind.u32 (Pa.a a), PV.int IntKind.u32 (Pa.b a)]]) (K (PV.tup [PV.list (List.map ptc (Prod.fst (refS w t_1 p_1))) Tail.no, PV.bool false]) [Ob.cells [PV.ptr 1 0], Ob.abs (rkP (rowsP (Prod.fst (refS w_1 t p))) m_1), Ob.cells [PV.int IntKind.u8 (Pa.d a), PV.int IntKind.u32 (Pa.a a), PV.int IntKind.u32 (Pa.b a)]])) (br (Pa.d a == 3) (∃ (w_1 : List Pt), ∃ (m_1 : Int), ∃ (p : Int), SlIs [PV.int IntKind.u32 (Pa.a a)] [PV.int IntKind.u32 p] ∧ AbIs [Ob.cells [PV.ptr 1 0], Ob.abs (rkP (rowsP w) m), Ob.cells [PV.int IntKind.u8 (Pa.d a), PV.int IntKind.u32 (Pa.a a), PV.int IntKind.u32 (Pa.b a)]] 1 (rkP (rowsP w_1) m_1) ∧ PO w_1 m_1 ∧ ∃ (w : List Pt), ∃ (m : Int), ∃ (tl : Tail), ∃ (p_1 : Int), SlIs [PV.list (List.map ptc l) Tail.no, PV.int IntKind.u32 (Pa.a a)] [PV.list (List.map ptc w) tl, PV.int IntKind.u32 p_1] ∧ PO w m ∧ m ≤ 100000 ∧ br ((Prod.snd (Prod.snd (Prod.snd (leaveS w_1 p))) == Prod.snd (Prod.snd (Prod.snd (leaveS w p_1)))) == true) (br ((Prod.fst (Prod.snd (leaveS w_1 p)) == Prod.fst (Prod.snd (leaveS w p_1))) == true) (K (PV.tup [PV.list (List.map ptc (Prod.fst (leaveS w p_1))) Tail.no, PV.bool (Prod.fst (Prod.snd (Prod.snd (leaveS w_1 p))) == Prod.fst (Prod.snd (Prod.snd (leaveS w p_1))))]) [Ob.cells [PV.ptr 1 0], Ob.abs (rkP (rowsP (Prod.fst (leaveS w_1 p))) m_1), Ob.cells [PV.int IntKind.u8 (Pa.d a), PV.int IntKind.u32 (Pa.a a), PV.int IntKind.u32 (Pa.b a)]]) (K (PV.tup [PV.list (List.map ptc (Prod.fst (leaveS w p_1))) Tail.no, PV.bool false]) [Ob.cells [PV.ptr 1 0], Ob.abs (rkP (rowsP (Prod.fst (leaveS w_1 p))) m_1), Ob.cells [PV.int IntKind.u8 (Pa.d a), PV.int IntKind.u32 (Pa.a a), PV.int IntKind.u32 (Pa.b a)]])) (K (PV.tup [PV.list (List.map ptc (Prod.fst (leaveS w p_1))) Tail.no, PV.bool false]) [Ob.cells [PV.ptr 1 0], Ob.abs (rkP (rowsP (Prod.fst (leaveS w_1 p))) m_1), Ob.cells [PV.int IntKind.u8 (Pa.d a), PV.int IntKind.u32 (Pa.a a), PV.int IntKind.u32 (Pa.b a)]])) (br (Pa.d a == 4) (∃ (w_1 : List Pt), ∃ (m_1 : Int), ∃ (a_1 : Int), ∃ (p : Int), SlIs [PV.int IntKind.u32 (Pa.a a), PV.int IntKind.u32 (Pa.b a)] [PV.int IntKind.u32 a_1, PV.int IntKind.u32 p] ∧ AbIs [Ob.cells [PV.ptr 1 0], Ob.abs (rkP (rowsP w) m), Ob.cells [PV.int IntKind.u8 (Pa.d a), PV.int IntKind.u32 (Pa.a a), PV.int IntKind.u32 (Pa.b a)]] 1 (rkP (rowsP w_1) m_1) ∧ PO w_1 m_1 ∧ ∃ (w : List Pt), ∃ (m : Int), ∃ (tl : Tail), ∃ (a_2 : Int), ∃ (p_1 : Int), SlIs [PV.list (List.map ptc l) Tail.no, PV.int IntKind.u32 (Pa.a a), PV.int IntKind.u32 (Pa.b a)] [PV.list (List.map ptc w) tl, PV.int IntKind.u32 a_2, PV.int IntKind.u32 p_1] ∧ PO w m ∧ m ≤ 100000 ∧ br ((Prod.snd (Prod.snd (kickS w_1 a_1 p)) == Prod.snd (Prod.snd (kickS w a_2 p_1))) == true) (K (PV.tup [PV.list (List.map ptc (Prod.fst (kickS w a_2 p_1))) Tail.no, PV.bool (Prod.fst (Prod.snd (kickS w_1 a_1 p)) == Prod.fst (Prod.snd (kickS w a_2 p_1)))]) [Ob.cells [PV.ptr 1 0], Ob.abs (rkP (rowsP (Prod.fst (kickS w_1 a_1 p))) m_1), Ob.cells [PV.int IntKind.u8 (Pa.d a), PV.int IntKind.u32 (Pa.a a), PV.int IntKind.u32 (Pa.b a)]]) (K (PV.tup [PV.list (List.map ptc (Prod.fst (kickS w a_2 p_1))) Tail.no, PV.bool false]) [Ob.cells [PV.ptr 1 0], Ob.abs (rkP (rowsP (Prod.fst (kickS w_1 a_1 p))) m_1), Ob.cells [PV.int IntKind.u8 (Pa.d a), PV.int IntKind.u32 (Pa.a a), PV.int IntKind.u32 (Pa.b a)]])) (br (Pa.d a == 5) (∃ (w_1 : List Pt), ∃ (m_1 : Int), ∃ (a_1 : Int), ∃ (p : Int), SlIs [PV.int IntKind.u32 (Pa.a a), PV.int IntKind.u32 (Pa.b a)] [PV.int IntKind.u32 a_1, PV.int IntKind.u32 p] ∧ AbIs [Ob.cells [PV.ptr 1 0], Ob.abs (rkP (rowsP w) m), Ob.cells [PV.int IntKind.u8 (Pa.d a), PV.int IntKind.u32 (Pa.a a), PV.int IntKind.u32 (Pa.b a)]] 1 (rkP (rowsP w_1) m_1) ∧ PO w_1 m_1 ∧ ∃ (w : List Pt), ∃ (m : Int), ∃ (tl : Tail), ∃ (a_2 : Int), ∃ (p_1 : Int), SlIs [PV.list (List.map ptc l) Tail.no, PV.int IntKind.u32 (Pa.a a), PV.int IntKind.u32 (Pa.b a)] [PV.list (List.map ptc w) tl, PV.int IntKind.u32 a_2, PV.int IntKind.u32 p_1] ∧ PO w m ∧ m ≤ 100000 ∧ br ((Prod.snd (leadS w_1 a_1 p) == Prod.snd (leadS w a_2 p_1)) == true) (K (PV.tup [PV.list (List.map ptc (Prod.fst (leadS w a_2 p_1))) Tail.no, PV.bool true]) [Ob.cells [PV.ptr 1 0], Ob.abs (rkP (rowsP (Prod.fst (leadS w_1 a_1 p))) m_1), Ob.cells [PV.int IntKind.u8 (Pa.d a), PV.int IntKind.u32 (Pa.a a), PV.int IntKind.u32 (Pa.b a)]]) (K (PV.tup [PV.list (List.map ptc (Prod.fst (leadS w a_2 p_1))) Tail.no, PV.bool false]) [Ob.cells [PV.ptr 1 0], Ob.abs (rkP (rowsP (Prod.fst (leadS w_1 a_1 p))) m_1), Ob.cells [PV.int IntKind.u8 (Pa.d a), PV.int IntKind.u32 (Pa.a a), PV.int IntKind.u32 (Pa.b a)]])) (K (PV.tup [PV.list (List.map ptc l) Tail.no, PV.bool true]) [Ob.cells [PV.ptr 1 0], Ob.abs (rkP (rowsP w) m), Ob.cells [PV.int IntKind.u8 (Pa.d a), PV.int IntKind.u32 (Pa.a a), PV.int IntKind.u32 (Pa.b a)]]))))))) : ACalls Try.prog gl 28 [.ptr 0 0, .list (l.map ptc) .no, .int .i64 m, .agg a.cs] [.cells [.ptr 1 0], .abs (rkP (rowsP w) m)] K :=
  acalls_of_wpc2 (T := TD13) (L := []) (fun _ => 0) Try.func28 (by kernel_rfl) (by kernel_rfl) (by kernel_rfl) (TD13_ok) (LOk.nil _ _ _ _ _) (holds_of_eq (by kernel_rfl) h)
def pdo_s (args : List PV) (H : Heap) (K : PV → Heap → Prop) : Prop := match args with
  | .ptr q 0 :: rest => match bookR H q with
    | some r => ∃ (w l : List Pt) (m : Int) (a : Pa) (tl : Tail), SlIs rest [.list (l.map ptc) tl, .int .i64 m, .agg a.cs] ∧ AbIs H r (rkP (rowsP w) m) ∧ PO w m ∧ PO l m ∧ m ≤ 100000 ∧ a.ok ∧ K (.tup [.list ((actS l m a).1.map ptc) .no, .bool (eqA (actS w m a).2 (actS l m a).2)]) (H.set r (.abs (rkP (rowsP (actS w m a).1) m)))
    | none => False
  | _ => False
theorem pdo_ok : SpOk Try.prog gl 28 (.heap pdo_s) := by
  intro args H K h
  unfold pdo_s at h
  split at h
  · rename_i q rest
    split at h <;> try (exact h.elim)
    rename_i r hr
    obtain ⟨w, l, m, a, tl, he, ha, ro, ro2, hm, aok, hk⟩ := h
    have hb := bookR_is hr ha
    have he : rest = _ := he
    subst he
    refine acalls_args (.cons (.refl _) (.cons (.list _ _) (.cons (.refl _) (.cons (.refl _) .nil)))) ?_
    refine book_heap (R' := rkP (rowsP (actS w m a).1) m) gl_low hb (low_three (low_ptl l) (.int _ _) (.agg _ (low_pa a))) (.tup _ (low_two (low_ptl _) (.bool _))) (pdo1_vc w l m a _ ?_) hk
    simp only [br_if]
    by_cases d0 : a.d = 0
    · rw [if_pos (by simpa using d0)]
      have hA : actS w m a = ((invS w m a.a a.b).1, (invS w m a.a a.b).2.2, (invS w m a.a a.b).2.1, false) := by unfold actS; rw [if_pos d0]
      have hB : actS l m a = ((invS l m a.a a.b).1, (invS l m a.a a.b).2.2, (invS l m a.a a.b).2.1, false) := by unfold actS; rw [if_pos d0]
      rw [hA, hB]
      unfold eqA
      refine ⟨w, m, a.a, a.b, rfl, rfl, ro, l, m, .no, a.a, a.b, rfl, ro2, hm, aok.1, aok.2, ?_⟩
      simp only [ieqt]
      by_cases e1 : (invS w m a.a a.b).2.2 = (invS l m a.a a.b).2.2
      · simp only [if_pos e1]
        by_cases e2 : (invS w m a.a a.b).2.1 = (invS l m a.a a.b).2.1
        · simp only [if_pos e2]; exact ⟨by first | trivial | rfl, _, rfl⟩
        · simp only [if_neg e2]; exact ⟨by first | trivial | rfl, _, rfl⟩
      · simp only [if_neg e1]; exact ⟨by first | trivial | rfl, _, rfl⟩
    · rw [if_neg (by simpa using d0)]
      by_cases d1 : a.d = 1
      · rw [if_pos (by simpa using d1)]
        have hA : actS w m a = ((joinS w a.b a.a).1, (joinS w a.b a.a).2, 0, false) := by unfold actS; rw [if_neg d0, if_pos d1]
        have hB : actS l m a = ((joinS l a.b a.a).1, (joinS l a.b a.a).2, 0, false) := by unfold actS; rw [if_neg d0, if_pos d1]
        rw [hA, hB]
        unfold eqA
        refine ⟨w, m, a.b, a.a, rfl, rfl, ro, l, m, .no, a.b, a.a, rfl, ro2, hm, ?_⟩
        simp only [ieqt]
        by_cases e1 : (joinS w a.b a.a).2 = (joinS l a.b a.a).2
        · simp only [if_pos e1]
          exact ⟨by first | trivial | rfl, _, rfl⟩
        · simp only [if_neg e1]; exact ⟨by first | trivial | rfl, _, rfl⟩
      · rw [if_neg (by simpa using d1)]
        by_cases d2 : a.d = 2
        · rw [if_pos (by simpa using d2)]
          have hA : actS w m a = ((refS w a.b a.a).1, (refS w a.b a.a).2.2, 0, (refS w a.b a.a).2.1) := by unfold actS; rw [if_neg d0, if_neg d1, if_pos d2]
          have hB : actS l m a = ((refS l a.b a.a).1, (refS l a.b a.a).2.2, 0, (refS l a.b a.a).2.1) := by unfold actS; rw [if_neg d0, if_neg d1, if_pos d2]
          rw [hA, hB]
          unfold eqA
          refine ⟨w, m, a.b, a.a, rfl, rfl, ro, l, m, .no, a.b, a.a, rfl, ro2, hm, ?_⟩
          simp only [ieqt]
          by_cases e1 : (refS w a.b a.a).2.2 = (refS l a.b a.a).2.2
          · simp only [if_pos e1]
            exact ⟨by first | trivial | rfl, _, rfl⟩
          · simp only [if_neg e1]; exact ⟨by first | trivial | rfl, _, rfl⟩
        · rw [if_neg (by simpa using d2)]
          by_cases d3 : a.d = 3
          · rw [if_pos (by simpa using d3)]
            have hA : actS w m a = ((leaveS w a.a).1, (leaveS w a.a).2.2.2, (leaveS w a.a).2.1, (leaveS w a.a).2.2.1) := by unfold actS; rw [if_neg d0, if_neg d1, if_neg d2, if_pos d3]
            have hB : actS l m a = ((leaveS l a.a).1, (leaveS l a.a).2.2.2, (leaveS l a.a).2.1, (leaveS l a.a).2.2.1) := by unfold actS; rw [if_neg d0, if_neg d1, if_neg d2, if_pos d3]
            rw [hA, hB]
            unfold eqA
            refine ⟨w, m, a.a, rfl, rfl, ro, l, m, .no, a.a, rfl, ro2, hm, ?_⟩
            simp only [ieqt]
            by_cases e1 : (leaveS w a.a).2.2.2 = (leaveS l a.a).2.2.2
            · simp only [if_pos e1]
              by_cases e2 : (leaveS w a.a).2.1 = (leaveS l a.a).2.1
              · simp only [if_pos e2]; exact ⟨by first | trivial | rfl, _, rfl⟩
              · simp only [if_neg e2]; exact ⟨by first | trivial | rfl, _, rfl⟩
            · simp only [if_neg e1]; exact ⟨by first | trivial | rfl, _, rfl⟩
          · rw [if_neg (by simpa using d3)]
            by_cases d4 : a.d = 4
            · rw [if_pos (by simpa using d4)]
              have hA : actS w m a = ((kickS w a.a a.b).1, (kickS w a.a a.b).2.2, 0, (kickS w a.a a.b).2.1) := by unfold actS; rw [if_neg d0, if_neg d1, if_neg d2, if_neg d3, if_pos d4]
              have hB : actS l m a = ((kickS l a.a a.b).1, (kickS l a.a a.b).2.2, 0, (kickS l a.a a.b).2.1) := by unfold actS; rw [if_neg d0, if_neg d1, if_neg d2, if_neg d3, if_pos d4]
              rw [hA, hB]
              unfold eqA
              refine ⟨w, m, a.a, a.b, rfl, rfl, ro, l, m, .no, a.a, a.b, rfl, ro2, hm, ?_⟩
              simp only [ieqt]
              by_cases e1 : (kickS w a.a a.b).2.2 = (kickS l a.a a.b).2.2
              · simp only [if_pos e1]
                exact ⟨by first | trivial | rfl, _, rfl⟩
              · simp only [if_neg e1]; exact ⟨by first | trivial | rfl, _, rfl⟩
            · rw [if_neg (by simpa using d4)]
              by_cases d5 : a.d = 5
              · rw [if_pos (by simpa using d5)]
                have hA : actS w m a = ((leadS w a.a a.b).1, (leadS w a.a a.b).2, 0, false) := by unfold actS; rw [if_neg d0, if_neg d1, if_neg d2, if_neg d3, if_neg d4, if_pos d5]
                have hB : actS l m a = ((leadS l a.a a.b).1, (leadS l a.a a.b).2, 0, false) := by unfold actS; rw [if_neg d0, if_neg d1, if_neg d2, if_neg d3, if_neg d4, if_pos d5]
                rw [hA, hB]
                unfold eqA
                refine ⟨w, m, a.a, a.b, rfl, rfl, ro, l, m, .no, a.a, a.b, rfl, ro2, hm, ?_⟩
                simp only [ieqt]
                by_cases e1 : (leadS w a.a a.b).2 = (leadS l a.a a.b).2
                · simp only [if_pos e1]
                  exact ⟨by first | trivial | rfl, _, rfl⟩
                · simp only [if_neg e1]; exact ⟨by first | trivial | rfl, _, rfl⟩
              · rw [if_neg (by simpa using d5)]
                have hA : ∀ v : List Pt, actS v m a = (v, 0, 0, false) := fun v => by unfold actS; rw [if_neg d0, if_neg d1, if_neg d2, if_neg d3, if_neg d4, if_neg d5]
                rw [hA, hA]
                exact ⟨rfl, _, rfl⟩
  · exact h.elim
end Go.Proofs.Ythabdpaipgclpaa
