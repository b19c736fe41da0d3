/-
  QueueAgain: no queue, a ticket put again, loops.
-/
import Derived.Test.YtcmknbanojcbaaaUi
import Derived.Test.YtcmknbanojcbaaaProg
namespace Go.Proofs.Ytcmknbanojcbaaa
open Go Go.AM Go.Proofs
theorem nput_vc (t : Tk)  (K : PV → Prop) (h : K (PV.int IntKind.i64 10)) : ACalls Try.prog gl 43 [.nilptr, t.pv] [] (fun x _ => K x) :=
  acalls_of_wpc2 (T := []) (L := []) (fun _ => 0) Try.func43 (by kernel_rfl) (by kernel_rfl) (by kernel_rfl) (TabOk.nil _ _) (LOk.nil _ _ _ _ _) (holds_of_eq (by kernel_rfl) h)
theorem natD_vc (H : Heap) (b : Nat)  (K : PV → Heap → Prop) (h : K (PV.int IntKind.i64 (-1)) H) : ACalls Try.prog gl 77 [.nilptr, .fn 80 [.ptr b 0]] H K :=
  acalls_of_wpc2 (T := []) (L := []) (fun _ => 0) Try.func77 (by kernel_rfl) (by kernel_rfl) (by kernel_rfl) (TabOk.nil _ _) (LOk.nil _ _ _ _ _) (holds_of_eq (by kernel_rfl) h)
theorem natO_vc (H : Heap) (b : Nat)  (K : PV → Heap → Prop) (h : K (PV.int IntKind.i64 (-1)) H) : ACalls Try.prog gl 77 [.nilptr, .fn 78 [.ptr b 0]] H K :=
  acalls_of_wpc2 (T := []) (L := []) (fun _ => 0) Try.func77 (by kernel_rfl) (by kernel_rfl) (by kernel_rfl) (TabOk.nil _ _) (LOk.nil _ _ _ _ _) (holds_of_eq (by kernel_rfl) h)
def natD_s (args : List PV) (_ : Heap) (K : PV → Prop) : Prop := ∃ b : Nat, SlIs args [.nilptr, .fn 80 [.ptr b 0]] ∧ K (.int .i64 (-1))
theorem natD_ok : SpOk Try.prog gl 77 (.read natD_s) := by
  rintro args H K ⟨b, he, hk⟩
  have he : args = _ := he
  subst he
  exact ⟨_, natD_vc H b _ ⟨rfl, rfl⟩, hk⟩
def natO_s (args : List PV) (_ : Heap) (K : PV → Prop) : Prop := ∃ b : Nat, SlIs args [.nilptr, .fn 78 [.ptr b 0]] ∧ K (.int .i64 (-1))
theorem natO_ok : SpOk Try.prog gl 77 (.read natO_s) := by
  rintro args H K ⟨b, he, hk⟩
  have he : args = _ := he
  subst he
  exact ⟨_, natO_vc H b _ ⟨rfl, rfl⟩, hk⟩
def TND : Tab := [(77, .read natD_s)]
theorem TND_ok : TabOk Try.prog gl TND := .cons natD_ok (.nil _ _)
def TNO : Tab := [(77, .read natO_s)]
theorem TNO_ok : TabOk Try.prog gl TNO := .cons natO_ok (.nil _ _)
theorem ndro_vc (c : Int)  (K : PV → Prop) (h : ∃ (b : Nat), SlIs [PV.nilptr, PV.fn 80 [PV.ptr 0 0]] [PV.nilptr, PV.fn 80 [PV.ptr b 0]] ∧ K (PV.tup [PV.agg [PV.int IntKind.u32 0, PV.int IntKind.i64 0, PV.list [] Tail.exact, PV.int IntKind.i64 0, PV.int IntKind.i64 0], PV.bool false])) : ACalls Try.prog gl 50 [.nilptr, .int .u32 c] [] (fun x _ => K x) :=
  acalls_of_wpc2 (T := TND) (L := []) (fun _ => 0) Try.func50 (by kernel_rfl) (by kernel_rfl) (by kernel_rfl) (TND_ok) (LOk.nil _ _ _ _ _) (holds_of_eq (by kernel_rfl) h)
theorem nof_vc (c : Int)  (K : PV → Prop) (h : ∃ (b : Nat), SlIs [PV.nilptr, PV.fn 78 [PV.ptr 0 0]] [PV.nilptr, PV.fn 78 [PV.ptr b 0]] ∧ K (PV.int IntKind.u32 0)) : ACalls Try.prog gl 46 [.nilptr, .int .u32 c] [] (fun x _ => K x) :=
  acalls_of_wpc2 (T := TNO) (L := []) (fun _ => 0) Try.func46 (by kernel_rfl) (by kernel_rfl) (by kernel_rfl) (TNO_ok) (LOk.nil _ _ _ _ _) (holds_of_eq (by kernel_rfl) h)
theorem nmode_vc (m : Int)  (K : PV → Prop) (h : K (PV.list [] Tail.exact)) : ACalls Try.prog gl 45 [.nilptr, .int .i64 m] [] (fun x _ => K x) :=
  acalls_of_wpc2 (T := []) (L := []) (fun _ => 0) Try.func45 (by kernel_rfl) (by kernel_rfl) (by kernel_rfl) (TabOk.nil _ _) (LOk.nil _ _ _ _ _) (holds_of_eq (by kernel_rfl) h)
theorem nlen_vc   (K : PV → Prop) (h : K (PV.int IntKind.i64 0)) : ACalls Try.prog gl 47 [.nilptr] [] (fun x _ => K x) :=
  acalls_of_wpc2 (T := []) (L := []) (fun _ => 0) Try.func47 (by kernel_rfl) (by kernel_rfl) (by kernel_rfl) (TabOk.nil _ _) (LOk.nil _ _ _ _ _) (holds_of_eq (by kernel_rfl) h)
-- without a queue
def nput_s (args : List PV) (K : PV → Prop) : Prop := ∃ (t : Tk) (tl : Tail), SlIs args [.nilptr, .agg [.int .u32 t.id, .int .i64 t.md, .list (t.pl.map u1) tl, .int .i64 t.rt, .int .i64 t.si]] ∧ K (.int .i64 10)
theorem nput_ok : SpOk Try.prog gl 43 (.pure nput_s) := by
  rintro args K ⟨t, tl, he, hk⟩
  have he : args = _ := he
  subst he
  exact spure_w gl_low (.cons (.refl _) (.cons (wk_tk (t := t)) .nil)) (low_two .nilptr t.low) (.int _ _) (nput_vc t (fun x => x = .int .i64 10) rfl) hk
def ndro_s (args : List PV) (K : PV → Prop) : Prop := ∃ c : Int, SlIs args [.nilptr, .int .u32 c] ∧ K (.tup [.agg [.int .u32 0, .int .i64 0, .list [] .exact, .int .i64 0, .int .i64 0], .bool false])
theorem ndro_ok : SpOk Try.prog gl 50 (.pure ndro_s) := by
  rintro args K ⟨c, he, hk⟩
  have he : args = _ := he
  subst he
  exact spure gl_low (low_two .nilptr (.int _ _)) (.tup _ (low_two (.agg _ (by intro y hy; simp only [List.mem_cons, List.not_mem_nil, or_false] at hy; rcases hy with rfl | rfl | rfl | rfl | rfl <;> first | exact .int _ _ | exact low_list NT.exact (fun _ h => nomatch h))) (.bool _))) (ndro_vc c (fun x => x = _) ⟨0, rfl, rfl⟩) hk
def nof_s (args : List PV) (K : PV → Prop) : Prop := ∃ c : Int, SlIs args [.nilptr, .int .u32 c] ∧ K (.int .u32 0)
theorem nof_ok : SpOk Try.prog gl 46 (.pure nof_s) := by
  rintro args K ⟨c, he, hk⟩
  have he : args = _ := he
  subst he
  exact spure gl_low (low_two .nilptr (.int _ _)) (.int _ _) (nof_vc c (fun x => x = .int .u32 0) ⟨0, rfl, rfl⟩) hk
def nmode_s (args : List PV) (K : PV → Prop) : Prop := ∃ m : Int, SlIs args [.nilptr, .int .i64 m] ∧ K (.list [] .exact)
theorem nmode_ok : SpOk Try.prog gl 45 (.pure nmode_s) := by
  rintro args K ⟨m, he, hk⟩
  have he : args = _ := he
  subst he
  exact spure gl_low (low_two .nilptr (.int _ _)) (low_list NT.exact (by simp)) (nmode_vc m (fun x => x = .list [] .exact) rfl) hk
def nlen_s (args : List PV) (K : PV → Prop) : Prop := SlIs args [.nilptr] ∧ K (.int .i64 0)
theorem nlen_ok : SpOk Try.prog gl 47 (.pure nlen_s) := by
  rintro args K ⟨he, hk⟩
  have he : args = _ := he
  subst he
  exact spure gl_low (low_one .nilptr) (.int _ _) (nlen_vc (fun x => x = .int .i64 0) rfl) hk
-- what else is right of each ticket
def QP (sz : List Int) (l : List Tk) : Prop := ∀ t ∈ l, t.pl ≠ [] ∧ (t.pl.length : Int) ≤ sz.getD t.md.toNat 0 ∧ 0 ≤ t.rt ∧ t.rt ≤ 10000
theorem errQ_zero2 {sz : List Int} {l : List Tk} {t : Tk} (h : errQ sz l t = 0) : t.pl ≠ [] ∧ (t.pl.length : Int) ≤ sz.getD t.md.toNat 0 ∧ 0 ≤ t.rt ∧ t.rt ≤ 10000 := by
  unfold errQ at h
  split at h
  · split at h
    · split at h
      · split at h
        · rename_i c1 c2 c3 c4
          exact ⟨c3.1, c3.2, c4.1, c4.2⟩
        · cases h
      · cases h
    · cases h
  · cases h
theorem QP.put {sz : List Int} {l : List Tk} (p : QP sz l) (t : Tk) : QP sz (putQ sz l t) := by
  unfold putQ
  split
  · rename_i c
    intro a ha
    rcases List.mem_cons.1 ((ins_perm l _ t).mem_iff.1 ha) with rfl | ha
    · exact errQ_zero2 c
    · exact p a ha
  · exact p
theorem erase_perm {l : List Tk} {k : Nat} (h : k < l.length) : (l.getD k default :: l.eraseIdx k).Perm l := by
  rw [getD_eq' h, List.eraseIdx_eq_take_drop_succ]
  refine List.perm_middle.symm.trans ?_
  rw [← List.drop_eq_getElem_cons h, List.take_append_drop]
theorem put_again {M : Int} {sz : List Int} {l : List Tk} {c : Int} (h : QO M l) (hM : (sz.length : Int) = M) (p : QP sz l) (hh : hasQ l c = true) :
    hasQ (dropQ l c) c = false ∧ errQ sz (dropQ l c) (getQ l c) = 0 ∧ putQ sz (dropQ l c) (getQ l c) = l := by
  obtain ⟨hm, hid⟩ := getQ_mem hh
  have hk : l.findIdx (byId c) < l.length := of_decide_eq_true hh
  have hp : (getQ l c :: dropQ l c).Perm l := by
    unfold dropQ
    rw [if_pos hh]
    exact erase_perm hk
  obtain ⟨x, hx⟩ : ∃ x, x = getQ l c := ⟨_, rfl⟩
  obtain ⟨k, hkd⟩ : ∃ k, k = dropQ l c := ⟨_, rfl⟩
  have hok : QO M k := hkd ▸ h.drop c
  rw [← hx, ← hkd] at hp
  rw [← hx] at hm hid
  rw [← hx, ← hkd]
  have ids := hp.symm.pairwise h.ids fun h e => h e.symm
  have prs := hp.symm.pairwise h.prs fun h p h1 h2 => h p h2 h1
  have n1 : hasQ k c = false := hasQ_no.2 fun a ha e => (List.pairwise_cons.1 ids).1 a ha (by rw [hid, e])
  obtain ⟨p1, p2, p3, p4⟩ := p x hm
  have hd : dblQ k x.pl = false := (dblQ_no hok).2 ⟨h.nd x hm, fun q hq a ha => (List.pairwise_cons.1 prs).1 a ha q hq⟩
  have hf : (modeL k x.md).length < 16 := by
    have h1 := (modeL_perm hp x.md).length_eq
    have h2 := h.full x.md
    unfold modeL at h1 h2 ⊢
    rw [List.filter_cons_of_pos (by simp), List.length_cons] at h1
    omega
  have e0 : errQ sz k x = 0 := by
    unfold errQ
    rw [if_pos ⟨h.rt x hm, h.gd x hm⟩, if_pos (by rw [hM]; exact h.md x hm), if_pos ⟨p1, p2⟩, if_pos ⟨p3, p4⟩, if_pos ⟨by rw [hid]; exact n1, hd⟩, if_pos hf]
  refine ⟨n1, e0, ?_⟩
  unfold putQ
  rw [if_pos e0]
  refine srt_eq (ins_srtB hok.rise fun a ha e => ?_) h.rise ((ins_perm k _ x).trans hp)
  exact (List.pairwise_cons.1 ids).1 a ha e.symm
def TAT : Tab := [(55, .read get_s), (50, .pure ndro_s), (14, .pure same_s), (43, .pure nput_s), (46, .pure nof_s), (45, .pure nmode_s), (47, .pure nlen_s), (48, .pure fun args K => SlIs args [] ∧ K (.bool true))]
theorem TAT_ok : TabOk Try.prog gl TAT := .cons get_ok (.cons ndro_ok (.cons same_ok (.cons nput_ok (.cons nof_ok (.cons nmode_ok (.cons nlen_ok (.cons aw_ok (.nil _ _))))))))
def TA1 : Tab := [(44, .pure lown_s), (43, .heap put_s)]
theorem TA1_ok : TabOk Try.prog gl TA1 := .cons lown_ok (.cons putW_ok (.nil _ _))
def TA2 : Tab := [(14, .pure same_s)]
theorem TA2_ok : TabOk Try.prog gl TA2 := .cons same_ok (.nil _ _)
theorem agt_vc (l : List Tk) (sz : List Int) (c : Int) (x : Tk) (o1 o2 : Ob) (o4 : Ob) (R : Ex → List PV → Heap → Prop) (h : ∃ (q : Nat), ∃ (l_1 : List Tk), ∃ (sz_1 : List Int), ∃ (c_1 : Int), SlIs [PV.ptr 0 0, PV.int IntKind.u32 c] [PV.ptr q 0, PV.int IntKind.u32 c_1] ∧ AbIs [Ob.abs (rkT l sz), o1, o2, Ob.cells [PV.int IntKind.u32 (Tk.id x), PV.int IntKind.i64 (Tk.md x), PV.list (List.map u1 (Tk.pl x)) Tail.no, PV.int IntKind.i64 (Tk.rt x), PV.int IntKind.i64 (Tk.si x)], o4] q (rkT l_1 sz_1) ∧ Sml l_1 ∧ ∃ (c_2 : Int), SlIs [PV.nilptr, PV.int IntKind.u32 c] [PV.nilptr, PV.int IntKind.u32 c_2] ∧ ∃ (a : List Int), ∃ (b : List Int), ∃ (t : Tail), ∃ (t' : Tail), SlIs [PV.list (List.map u1 (Tk.pl (getQ l_1 c_1))) Tail.no, PV.list (List.map u1 (Tk.pl x)) Tail.no] [PV.list (en1 IntKind.u32 a) t, PV.list (en1 IntKind.u32 b) t'] ∧ List.length a ≤ 1000000 ∧ br (decide (a = b) == true) (∃ (t : Tk), ∃ (tl : Tail), SlIs [PV.nilptr, PV.agg [PV.int IntKind.u32 (Tk.id x), PV.int IntKind.i64 (Tk.md x), PV.list (List.map u1 (Tk.pl x)) Tail.no, PV.int IntKind.i64 (Tk.rt x), PV.int IntKind.i64 (Tk.si x)]] [PV.nilptr, PV.agg [PV.int IntKind.u32 (Tk.id t), PV.int IntKind.i64 (Tk.md t), PV.list (List.map u1 (Tk.pl t)) tl, PV.int IntKind.i64 (Tk.rt t), PV.int IntKind.i64 (Tk.si t)]] ∧ ∃ (c : Int), SlIs [PV.nilptr, PV.int IntKind.u32 1] [PV.nilptr, PV.int IntKind.u32 c] ∧ ∃ (m : Int), SlIs [PV.nilptr, PV.int IntKind.i64 0] [PV.nilptr, PV.int IntKind.i64 m] ∧ SlIs [PV.nilptr] [PV.nilptr] ∧ SlIs [] [] ∧ R Ex.ret [PV.bool true] [Ob.abs (rkT l sz), o1, o2, Ob.cells [PV.int IntKind.u32 (Tk.id x), PV.int IntKind.i64 (Tk.md x), PV.list (List.map u1 (Tk.pl x)) Tail.no, PV.int IntKind.i64 (Tk.rt x), PV.int IntKind.i64 (Tk.si x)], o4, Ob.cells [PV.int IntKind.u32 (Tk.id (getQ l_1 c_1)), PV.int IntKind.i64 (Tk.md (getQ l_1 c_1)), PV.list (List.map u1 (Tk.pl (getQ l_1 c_1))) Tail.no, PV.int IntKind.i64 (Tk.rt (getQ l_1 c_1)), PV.int IntKind.i64 (Tk.si (getQ l_1 c_1))], Ob.cells [PV.int IntKind.u32 0, PV.int IntKind.i64 0, PV.list [] Tail.exact, PV.int IntKind.i64 0, PV.int IntKind.i64 0]]) (R Ex.ret [PV.bool false] [Ob.abs (rkT l sz), o1, o2, Ob.cells [PV.int IntKind.u32 (Tk.id x), PV.int IntKind.i64 (Tk.md x), PV.list (List.map u1 (Tk.pl x)) Tail.no, PV.int IntKind.i64 (Tk.rt x), PV.int IntKind.i64 (Tk.si x)], o4, Ob.cells [PV.int IntKind.u32 (Tk.id (getQ l_1 c_1)), PV.int IntKind.i64 (Tk.md (getQ l_1 c_1)), PV.list (List.map u1 (Tk.pl (getQ l_1 c_1))) Tail.no, PV.int IntKind.i64 (Tk.rt (getQ l_1 c_1)), PV.int IntKind.i64 (Tk.si (getQ l_1 c_1))], Ob.cells [PV.int IntKind.u32 0, PV.int IntKind.i64 0, PV.list [] Tail.exact, PV.int IntKind.i64 0, PV.int IntKind.i64 0]])) : Holds (wpc br Try.prog gl TAT [] (fun _ => 0) (atOf [1, 1, 1, 1, 1, 1, 1, 1, 1, 1, 1, 1, 1, 1] (bodyOf Try.f10)) [] (envS [1, 5, 10] [.int .u32 c, .ptr 0 0, .ptr 3 0]) [.abs (rkT l sz), o1, o2, .cells x.cells, o4] (fun ex e H => R ex (List.map e [4]) H)) := holds_of_eq (by kernel_rfl) h
theorem ag1_vc (ts l : List Tk) (sz : List Int) (c : Int) (i : Nat) (R : Ex → List PV → Heap → Prop) (h : br (decide ((↑i : Int) < (↑(List.length (List.map csT ts)) : Int))) (InL (List.map csT ts) 5 (↑i : Int) ∧ br (true && fitX [CK.list] 0 (List.drop 2 (List.getD (List.map csT ts) (Int.toNat (↑i : Int)) []))) (br (decide ((↑(List.length (cL (List.drop 2 (List.getD (List.map csT ts) (Int.toNat (↑i : Int)) [])) 0)) : Int) > 8)) (R Ex.ret [PV.list (List.map csT ts) Tail.no, PV.int IntKind.u32 c, PV.bool true, PV.ptr 0 0, PV.int IntKind.i64 (↑i : Int)] [Ob.abs (rkT l sz)]) (InL (List.map csT ts) 5 (↑i : Int) ∧ br (true && fitX [CK.int IntKind.u32, CK.int IntKind.i64, CK.list, CK.int IntKind.i64, CK.int IntKind.i64] 0 (List.getD (List.map csT ts) (Int.toNat (↑i : Int)) [])) (∃ (t : Tk), ∃ (tl : Tail), SlIs [PV.agg [PV.int IntKind.u32 (cI (List.getD (List.map csT ts) (Int.toNat (↑i : Int)) []) 0), PV.int IntKind.i64 (cI (List.getD (List.map csT ts) (Int.toNat (↑i : Int)) []) 1), PV.list (cL (List.getD (List.map csT ts) (Int.toNat (↑i : Int)) []) 2) (cT (List.getD (List.map csT ts) (Int.toNat (↑i : Int)) []) 2), PV.int IntKind.i64 (cI (List.getD (List.map csT ts) (Int.toNat (↑i : Int)) []) 3), PV.int IntKind.i64 (cI (List.getD (List.map csT ts) (Int.toNat (↑i : Int)) []) 4)]] [PV.agg [PV.int IntKind.u32 (Tk.id t), PV.int IntKind.i64 (Tk.md t), PV.list (List.map u1 (Tk.pl t)) tl, PV.int IntKind.i64 (Tk.rt t), PV.int IntKind.i64 (Tk.si t)]] ∧ List.length (Tk.pl t) ≤ 1000000 ∧ ∃ (l_1 : List Tk), ∃ (sz_1 : List Int), ∃ (t_1 : Tk), ∃ (tl : Tail), SlIs [PV.agg [PV.int IntKind.u32 (Tk.id t), PV.int IntKind.i64 (Tk.md t), PV.list (List.map u1 (Tk.pl t)) Tail.no, PV.int IntKind.i64 (Tk.rt t), PV.int IntKind.i64 (Tk.si t)]] [PV.agg [PV.int IntKind.u32 (Tk.id t_1), PV.int IntKind.i64 (Tk.md t_1), PV.list (List.map u1 (Tk.pl t_1)) tl, PV.int IntKind.i64 (Tk.rt t_1), PV.int IntKind.i64 (Tk.si t_1)]] ∧ AbIs [Ob.abs (rkT l sz)] 0 (rkT l_1 sz_1) ∧ Sml l_1 ∧ LbT l_1 t_1 (lbT l_1 t_1) ∧ List.length (Tk.pl t_1) ≤ 1000000 ∧ R Ex.normal [PV.list (List.map csT ts) Tail.no, PV.int IntKind.u32 c, PV.bool false, PV.ptr 0 0, PV.int IntKind.i64 (wI ((↑i : Int) + 1))] [Ob.abs (rkT (putQ sz_1 l_1 t_1) sz_1)]) False)) False) (R (Ex.exit 0) [PV.list (List.map csT ts) Tail.no, PV.int IntKind.u32 c, PV.bool false, PV.ptr 0 0, PV.int IntKind.i64 (↑i : Int)] [Ob.abs (rkT l sz)])) : Holds (wpc br Try.prog gl TA1 [] (fun _ => 0) (subOf [1, 1, 1, 0, 1, 0] (bodyOf Try.f10)) [] (envS [0, 1, 4, 5, 6] [.list (ts.map csT) .no, .int .u32 c, .bool false, .ptr 0 0, .int .i64 i]) [.abs (rkT l sz)] (fun ex e H => R ex (List.map e [0, 1, 4, 5, 6]) H)) := holds_of_eq (by kernel_rfl) h
theorem ag2_vc (H : Heap) (w : List Tk) (c : Int) (i : Nat) (R : Ex → List PV → Heap → Prop) (h : br (decide ((↑i : Int) < (↑(List.length (List.map csT w)) : Int))) (InL (List.map csT w) 5 (↑i : Int) ∧ br (true && fitX [CK.int IntKind.u32] 0 (List.drop 0 (List.getD (List.map csT w) (Int.toNat (↑i : Int)) []))) (InL (List.map csT w) 5 (↑i : Int) ∧ br (true && fitX [CK.int IntKind.u32] 0 (List.drop 0 (List.getD (List.map csT w) (Int.toNat (↑i : Int)) []))) (br ((cI (List.drop 0 (List.getD (List.map csT w) (Int.toNat (↑i : Int)) [])) 0 != cI (List.drop 0 (List.getD (List.map csT w) (Int.toNat (↑i : Int)) [])) 0) == false) (InL (List.map csT w) 5 (↑i : Int) ∧ br (true && fitX [CK.list] 0 (List.drop 2 (List.getD (List.map csT w) (Int.toNat (↑i : Int)) []))) (InL (List.map csT w) 5 (↑i : Int) ∧ br (true && fitX [CK.list] 0 (List.drop 2 (List.getD (List.map csT w) (Int.toNat (↑i : Int)) []))) (∃ (a : List Int), ∃ (b : List Int), ∃ (t : Tail), ∃ (t' : Tail), SlIs [PV.list (cL (List.drop 2 (List.getD (List.map csT w) (Int.toNat (↑i : Int)) [])) 0) (cT (List.drop 2 (List.getD (List.map csT w) (Int.toNat (↑i : Int)) [])) 0), PV.list (cL (List.drop 2 (List.getD (List.map csT w) (Int.toNat (↑i : Int)) [])) 0) (cT (List.drop 2 (List.getD (List.map csT w) (Int.toNat (↑i : Int)) [])) 0)] [PV.list (en1 IntKind.u32 a) t, PV.list (en1 IntKind.u32 b) t'] ∧ List.length a ≤ 1000000 ∧ br (!decide (a = b)) (R Ex.ret [PV.int IntKind.u32 c, PV.bool false, PV.ptr 0 0, PV.ptr 2 0, PV.list (List.map csT w) Tail.no, PV.ptr 3 0, PV.list (List.map csT w) Tail.no, PV.int IntKind.i64 (↑i : Int)] H) (R Ex.normal [PV.int IntKind.u32 c, PV.bool false, PV.ptr 0 0, PV.ptr 2 0, PV.list (List.map csT w) Tail.no, PV.ptr 3 0, PV.list (List.map csT w) Tail.no, PV.int IntKind.i64 (wI ((↑i : Int) + 1))] H)) False) False) (R Ex.ret [PV.int IntKind.u32 c, PV.bool false, PV.ptr 0 0, PV.ptr 2 0, PV.list (List.map csT w) Tail.no, PV.ptr 3 0, PV.list (List.map csT w) Tail.no, PV.int IntKind.i64 (↑i : Int)] H)) False) False) (R (Ex.exit 2) [PV.int IntKind.u32 c, PV.bool false, PV.ptr 0 0, PV.ptr 2 0, PV.list (List.map csT w) Tail.no, PV.ptr 3 0, PV.list (List.map csT w) Tail.no, PV.int IntKind.i64 (↑i : Int)] H)) : Holds (wpc br Try.prog gl TA2 [] (fun _ => 0) (subOf [1, 1, 1, 1, 1, 1, 1, 1, 1, 1, 1, 1, 0, 1, 0] (bodyOf Try.f10)) [] (envS [1, 4, 5, 7, 9, 10, 15, 16] [.int .u32 c, .bool false, .ptr 0 0, .ptr 2 0, .list (w.map csT) .no, .ptr 3 0, .list (w.map csT) .no, .int .i64 i]) H (fun ex e H => R ex (List.map e [1, 4, 5, 7, 9, 10, 15, 16]) H)) := holds_of_eq (by kernel_rfl) h
theorem ag3_vc (l : List Tk) (sz : List Int) (c : Int) (p : List Int) (a b d e0 : Int) (x : Tk) (o4 : Ob) (i : Nat) (R : Ex → List PV → Heap → Prop) (h : br (decide ((↑i : Int) < (↑(List.length p) : Int))) ((0 ≤ (↑i : Int) ∧ (↑i : Int) < (↑(List.length p) : Int)) ∧ br (1 == 1 && List.all [PV.int IntKind.u32 77] PV.one && decide (0 + Int.toNat (↑i : Int) * 1 + 1 ≤ List.length (List.flatten (List.map u1 p))) && hintOk 0 1 (0 + Int.toNat (↑i : Int) * 1) 1) (R Ex.normal [PV.int IntKind.u32 c, PV.bool false, PV.ptr 0 0, PV.ptr 2 0, PV.ptr 3 0, PV.int IntKind.i64 (wI ((↑i : Int) + 1))] [Ob.abs (rkT l sz), Ob.cells (over (List.flatten (List.map u1 p)) (0 + Int.toNat (↑i : Int) * 1) [PV.int IntKind.u32 77]), Ob.cells [PV.int IntKind.u32 a, PV.int IntKind.i64 b, PV.arr 1 0 (List.length p) (List.length p), PV.int IntKind.i64 d, PV.int IntKind.i64 e0], Ob.cells [PV.int IntKind.u32 (Tk.id x), PV.int IntKind.i64 (Tk.md x), PV.list (List.map u1 (Tk.pl x)) Tail.no, PV.int IntKind.i64 (Tk.rt x), PV.int IntKind.i64 (Tk.si x)], o4]) False) (R (Ex.exit 4) [PV.int IntKind.u32 c, PV.bool false, PV.ptr 0 0, PV.ptr 2 0, PV.ptr 3 0, PV.int IntKind.i64 (↑i : Int)] [Ob.abs (rkT l sz), Ob.cells (List.flatten (List.map u1 p)), Ob.cells [PV.int IntKind.u32 a, PV.int IntKind.i64 b, PV.arr 1 0 (List.length p) (List.length p), PV.int IntKind.i64 d, PV.int IntKind.i64 e0], Ob.cells [PV.int IntKind.u32 (Tk.id x), PV.int IntKind.i64 (Tk.md x), PV.list (List.map u1 (Tk.pl x)) Tail.no, PV.int IntKind.i64 (Tk.rt x), PV.int IntKind.i64 (Tk.si x)], o4])) : Holds (wpc br Try.prog gl [] [] (fun o => match o.dst with | some 137 => 1 | some 143 => 1 | _ => 0) (subOf [1, 1, 1, 1, 1, 1, 1, 1, 1, 1, 1, 1, 1, 0, 1, 0] (bodyOf Try.f10)) [] (envS [1, 4, 5, 7, 10, 17] [.int .u32 c, .bool false, .ptr 0 0, .ptr 2 0, .ptr 3 0, .int .i64 i]) [.abs (rkT l sz), .cells (p.map u1).flatten, .cells [.int .u32 a, .int .i64 b, .arr 1 0 p.length p.length, .int .i64 d, .int .i64 e0], .cells x.cells, o4] (fun ex e H => R ex (List.map e [1, 4, 5, 7, 10, 17]) H)) := holds_of_eq (by kernel_rfl) h
def ag1_l : LSp := fun e H Q => ∃ (ts : List Tk) (sz : List Int) (c : Int), sz.length = 2 ∧ ts.length ≤ 30 ∧ SlIs (List.map e [0, 1, 4, 5, 6]) [.list (ts.map csT) .no, .int .u32 c, .bool false, .ptr 0 0, .int .i64 0] ∧ HpIs H [.abs (rkT [] sz)] ∧
  (∀ l : List Tk, QO 2 l → QP sz l → l.length ≤ 30 → Q (.exit 0) (envS [0, 1, 4, 5, 6] [.list (ts.map csT) .no, .int .u32 c, .bool false, .ptr 0 0, .int .i64 ts.length]) [.abs (rkT l sz)]) ∧ (∀ (l : List Tk) (i : Nat), Q .ret (envS [0, 1, 4, 5, 6] [.list (ts.map csT) .no, .int .u32 c, .bool true, .ptr 0 0, .int .i64 i]) [.abs (rkT l sz)])
theorem ag1_l_ok : ∀ e H Q, ag1_l e H Q → AW Try.prog gl Try.f10.ntmps (.loop (subOf [1, 1, 1, 0, 1, 0] (bodyOf Try.f10))) Q e H := by
  rintro e H Q ⟨ts, sz, c, hsz, hts, he, hH, hQ1, hQ2⟩
  refine aw_loop4 (hn := fun _ => 0) gl_low TA1_ok (.nil _ _ _ _ _) (σ := Nat × List Tk) [0, 1, 4, 5, 6] (fun s => s.1 ≤ ts.length ∧ s.2.length ≤ s.1 ∧ QO 2 s.2 ∧ QP sz s.2) (fun s => [.list (ts.map csT) .no, .int .u32 c, .bool false, .ptr 0 0, .int .i64 s.1]) (fun s => [.abs (rkT s.2 sz)]) (fun s => ts.length - s.1) (0, []) ⟨Nat.zero_le _, Nat.le_refl _, QO.nil 2, fun _ h => by simp at h⟩ he hH ?_
  rintro ⟨i, l⟩ ⟨hi, hl, ho, hp⟩
  have hi : i ≤ ts.length := hi
  have hl : l.length ≤ i := hl
  have ho : QO 2 l := ho
  refine ag1_vc ts l sz c i _ ?_
  simp only [br_if, dt, toNat_nat, List.length_map]
  by_cases h : i < ts.length
  · rw [if_pos (by omega), inL_csT, getD_map default h]
    refine ⟨h, ?_⟩
    rw [if_pos (by rfl)]
    obtain ⟨t, htd⟩ : ∃ t, t = ts.getD i default := ⟨_, rfl⟩
    rw [← htd]
    have hcl : cL (List.drop 2 (csT t)) 0 = t.pl.map u1 := rfl
    rw [hcl, List.length_map]
    by_cases c8 : t.pl.length > 8
    · rw [if_pos (by omega)]
      exact hQ2 l i
    rw [if_neg (by omega)]
    refine ⟨h, ?_⟩
    rw [if_pos (by rfl)]
    refine ⟨t, .no, rfl, by omega, l, sz, t, .no, rfl, rfl, ho.sml (by omega), lbT_ok ho.rise t, by omega, ?_⟩
    refine ⟨(i + 1, putQ sz l t), (show ts.length - (i + 1) < ts.length - i by omega), ⟨h, ?_, ho.put (by rw [hsz]; rfl) (by omega), hp.put t⟩, by dsimp only; rw [wI_succ h (by omega)], [], rfl, Nat.le_refl _, .inl rfl⟩
    show (putQ sz l t).length ≤ i + 1
    have := putQ_len sz ho.rise t; omega
  · rw [if_neg (by omega)]
    have : i = ts.length := by omega
    subst this
    exact hQ1 l ho hp (by omega)
def ag2_l : LSp := fun e H Q => ∃ (w : List Tk) (c : Int), Sml w ∧ SlIs (List.map e [1, 4, 5, 7, 9, 10, 15, 16]) [.int .u32 c, .bool false, .ptr 0 0, .ptr 2 0, .list (w.map csT) .no, .ptr 3 0, .list (w.map csT) .no, .int .i64 0] ∧ Q (.exit 2) (envS [1, 4, 5, 7, 9, 10, 15, 16] [.int .u32 c, .bool false, .ptr 0 0, .ptr 2 0, .list (w.map csT) .no, .ptr 3 0, .list (w.map csT) .no, .int .i64 w.length]) H
theorem ag2_l_ok : ∀ e H Q, ag2_l e H Q → AW Try.prog gl Try.f10.ntmps (.loop (subOf [1, 1, 1, 1, 1, 1, 1, 1, 1, 1, 1, 1, 0, 1, 0] (bodyOf Try.f10))) Q e H := by
  rintro e H Q ⟨w, c, s, he, hQ⟩
  have hwl := s.len
  refine aw_loop4 (hn := fun _ => 0) gl_low TA2_ok (.nil _ _ _ _ _) (σ := Nat) [1, 4, 5, 7, 9, 10, 15, 16] (fun i => i ≤ w.length) (fun i => [.int .u32 c, .bool false, .ptr 0 0, .ptr 2 0, .list (w.map csT) .no, .ptr 3 0, .list (w.map csT) .no, .int .i64 i]) (fun _ => H) (fun i => w.length - i) 0 (Nat.zero_le _) he rfl ?_
  intro i hi
  have hi : i ≤ w.length := hi
  refine ag2_vc H w c i _ ?_
  simp only [br_if, dt, toNat_nat, List.length_map]
  by_cases h : i < w.length
  · rw [if_pos (by omega), inL_csT, getD_map default h]
    refine ⟨h, ?_⟩
    rw [if_pos (by rfl)]
    refine ⟨h, ?_⟩
    rw [if_pos (by rfl), if_pos (by simp)]
    refine ⟨h, ?_⟩
    rw [if_pos (by rfl)]
    refine ⟨h, ?_⟩
    rw [if_pos (by rfl)]
    refine ⟨(w.getD i default).pl, (w.getD i default).pl, .no, .no, rfl, s.get i, ?_⟩
    rw [if_neg (by simp)]
    exact ⟨i + 1, (show w.length - (i + 1) < w.length - i by omega), h, by rw [wI_succ h (by omega)], [], (List.append_nil _).symm, Nat.le_refl _, .inl rfl⟩
  · rw [if_neg (by omega)]
    have : i = w.length := by omega
    subst this
    exact hQ
def ag3_l : LSp := fun e H Q => ∃ (l : List Tk) (sz : List Int) (c : Int) (p : List Int) (a b d e0 : Int) (x : Tk) (o4 : Ob), p.length ≤ 1000000 ∧ SlIs (List.map e [1, 4, 5, 7, 10, 17]) [.int .u32 c, .bool false, .ptr 0 0, .ptr 2 0, .ptr 3 0, .int .i64 0] ∧ HpIs H [.abs (rkT l sz), .cells (p.map u1).flatten, .cells [.int .u32 a, .int .i64 b, .arr 1 0 p.length p.length, .int .i64 d, .int .i64 e0], .cells x.cells, o4] ∧
  ∀ (i : Nat) (o1 o2 : Ob), Q (.exit 4) (envS [1, 4, 5, 7, 10, 17] [.int .u32 c, .bool false, .ptr 0 0, .ptr 2 0, .ptr 3 0, .int .i64 i]) [.abs (rkT l sz), o1, o2, .cells x.cells, o4]
theorem ag3_l_ok : ∀ e H Q, ag3_l e H Q → AW Try.prog gl Try.f10.ntmps (.loop (subOf [1, 1, 1, 1, 1, 1, 1, 1, 1, 1, 1, 1, 1, 0, 1, 0] (bodyOf Try.f10))) Q e H := by
  rintro e H Q ⟨l, sz, c, p, a, b, d, e0, x, o4, hp, he, hH, hQ⟩
  refine aw_loop4 (hn := fun o => match o.dst with | some 137 => 1 | some 143 => 1 | _ => 0) gl_low (.nil _ _) (.nil _ _ _ _ _) (σ := Nat × List Int) [1, 4, 5, 7, 10, 17] (fun s => s.1 ≤ p.length ∧ s.2.length = p.length) (fun s => [.int .u32 c, .bool false, .ptr 0 0, .ptr 2 0, .ptr 3 0, .int .i64 s.1]) (fun s => [.abs (rkT l sz), .cells (s.2.map u1).flatten, .cells [.int .u32 a, .int .i64 b, .arr 1 0 s.2.length s.2.length, .int .i64 d, .int .i64 e0], .cells x.cells, o4]) (fun s => p.length - s.1) (0, p) ⟨Nat.zero_le _, rfl⟩ he hH ?_
  rintro ⟨i, r⟩ ⟨hi, hr⟩
  have hi : i ≤ p.length := hi
  have hr : r.length = p.length := hr
  refine ag3_vc l sz c r a b d e0 x o4 i _ ?_
  simp only [br_if, dt]
  by_cases h : i < r.length
  · rw [if_pos (by omega)]
    simp only [toNat_nat, Nat.zero_add, Nat.mul_one]
    refine ⟨⟨by omega, by omega⟩, ?_⟩
    rw [if_pos (by rw [decide_eq_true (by rw [flat_u1]; omega)]; rfl)]
    have hov := over_row u1_len (J := []) (a := 77) (k := i) 0 h
    rw [List.append_nil, List.append_nil, Nat.mul_one] at hov
    have hov : over (r.map u1).flatten i [PV.int .u32 77] = ((r.set i 77).map u1).flatten := hov
    have hs : (r.set i 77).length = r.length := List.length_set
    refine ⟨(i + 1, r.set i 77), (show p.length - (i + 1) < p.length - i by omega), ⟨by omega, by rw [hs]; exact hr⟩, by dsimp only; rw [wI_succ h (by omega)], [], ?_, ?_, .inl rfl⟩
    · dsimp only
      rw [hov, hs]; rfl
    · simp
  · rw [if_neg (by omega)]
    exact hQ i _ _
def agt_l : LSp := fun e H Q => ∃ (l : List Tk) (sz : List Int) (c : Int) (x : Tk) (o1 o2 o4 : Ob), Sml l ∧ x = getQ l c ∧ SlIs (List.map e [1, 5, 10]) [.int .u32 c, .ptr 0 0, .ptr 3 0] ∧ HpIs H [.abs (rkT l sz), o1, o2, .cells x.cells, o4] ∧ ∀ X : Heap, Q .ret (envS [4] [.bool true]) X
theorem agt_l_ok : ∀ e H Q, agt_l e H Q → AW Try.prog gl Try.f10.ntmps (atOf [1, 1, 1, 1, 1, 1, 1, 1, 1, 1, 1, 1, 1, 1] (bodyOf Try.f10)) Q e H := by
  rintro e H Q ⟨l, sz, c, x, o1, o2, o4, s, hx, he, hH, hQ⟩
  refine aw_piece (slots := [1, 5, 10]) (outs := [4]) (hn := fun _ => 0) TAT_ok (.nil _ _ _ _ _) he hH (agt_vc l sz c x o1 o2 o4 (fun ex vs H' => Q ex (envS [4] vs) H') ?_)
  simp only [br_if]
  refine ⟨0, l, sz, c, rfl, rfl, s, c, rfl, (getQ l c).pl, x.pl, .no, .no, rfl, s.get _, ?_⟩
  rw [hx, if_pos (by simp)]
  exact ⟨getQ l c, .no, rfl, 1, rfl, 0, rfl, rfl, rfl, hQ _⟩
def TAG : Tab := [(42, .pure us_s), (41, .heap new_s), (55, .heap getA_s), (50, .heap drop_s), (43, .heap put_s), (45, .read mode_s), (48, .pure fun args K => SlIs args [] ∧ K (.bool true))]
theorem TAG_ok : TabOk Try.prog gl TAG := .cons us_ok (.cons new_ok (.cons getA_ok (.cons dropW_ok (.cons putW_ok (.cons mode_ok (.cons aw_ok (.nil _ _)))))))
theorem ag_vc (ts : List Tk) (c : Int)  (K : PV → Prop) (h : br (decide ((↑(List.length (List.map csT ts)) : Int) > 30)) (K (PV.bool true)) (∃ (ms : List Mo), ∃ (tl : Tail), SlIs [PV.list [[PV.int IntKind.i64 2, PV.int IntKind.i64 0, PV.int IntKind.i64 0, PV.int IntKind.i64 0, PV.int IntKind.i64 0], [PV.int IntKind.i64 4, PV.int IntKind.i64 0, PV.int IntKind.i64 0, PV.int IntKind.i64 0, PV.int IntKind.i64 0]] Tail.exact] [PV.list (List.map Mo.cs ms) tl] ∧ List.length ms ≤ 1000000 ∧ ∃ (key : ByteArray), ∃ (f0 : Int), ∃ (f1 : Int), ∃ (f2 : Int), ∃ (f3 : Int), ∃ (f4 : Int), ∃ (f5 : Int), ∃ (f6 : Int), ∃ (f7 : Int), ∃ (f8 : Int), ∃ (f9 : Int), ∃ (f10 : Int), ∃ (f11 : Int), ∃ (ms_1 : List Mo), SlIs [PV.agg [PV.str N_tilt, PV.int IntKind.i64 16, PV.int IntKind.i64 16, PV.int IntKind.i64 8, PV.int IntKind.i64 4, PV.int IntKind.i64 100, PV.int IntKind.i64 50, PV.int IntKind.i64 20, PV.int IntKind.i64 10, PV.int IntKind.i64 15, PV.int IntKind.i64 30, PV.int IntKind.i64 20, PV.int IntKind.i64 8192, PV.list (List.map Mo.cs ms) Tail.no]] [PV.agg [PV.str key, PV.int IntKind.i64 f0, PV.int IntKind.i64 f1, PV.int IntKind.i64 f2, PV.int IntKind.i64 f3, PV.int IntKind.i64 f4, PV.int IntKind.i64 f5, PV.int IntKind.i64 f6, PV.int IntKind.i64 f7, PV.int IntKind.i64 f8, PV.int IntKind.i64 f9, PV.int IntKind.i64 f10, PV.int IntKind.i64 f11, PV.list (List.map Mo.cs ms_1) Tail.no]] ∧ List.length ms_1 ≤ 1000000 ∧ ∃ (ts_1 : List Tk), ∃ (sz : List Int), ∃ (c_1 : Int), List.length sz = 2 ∧ List.length ts_1 ≤ 30 ∧ SlIs [PV.list (List.map csT ts) Tail.no, PV.int IntKind.u32 c, PV.bool false, PV.ptr 0 0, PV.int IntKind.i64 0] [PV.list (List.map csT ts_1) Tail.no, PV.int IntKind.u32 c_1, PV.bool false, PV.ptr 0 0, PV.int IntKind.i64 0] ∧ HpIs [Ob.abs (rkT [] (List.map kOf ms_1))] [Ob.abs (rkT [] sz)] ∧ (∀ (l : List Tk), QO 2 l → QP sz l → List.length l ≤ 30 → ∃ (q : Nat), ∃ (l_1 : List Tk), ∃ (sz_1 : List Int), ∃ (c : Int), SlIs [PV.ptr 0 0, PV.int IntKind.u32 c_1] [PV.ptr q 0, PV.int IntKind.u32 c] ∧ AbIs [Ob.abs (rkT l sz)] q (rkT l_1 sz_1) ∧ Sml l_1 ∧ (hasQ l_1 c = false → SlIs [] [] ∧ K (PV.bool true)) ∧ (hasQ l_1 c = true → ∃ (q : Nat), ∃ (l_2 : List Tk), ∃ (sz_2 : List Int), ∃ (m : Int), SlIs [PV.ptr 0 0, PV.int IntKind.i64 (Tk.md (getQ l_1 c))] [PV.ptr q 0, PV.int IntKind.i64 m] ∧ AbIs [Ob.abs (rkT l sz), Ob.cells (List.flatten (List.map u1 (Tk.pl (getQ l_1 c)))), Ob.cells [PV.int IntKind.u32 (Tk.id (getQ l_1 c)), PV.int IntKind.i64 (Tk.md (getQ l_1 c)), PV.arr 1 0 (List.length (Tk.pl (getQ l_1 c))) (List.length (Tk.pl (getQ l_1 c))), PV.int IntKind.i64 (Tk.rt (getQ l_1 c)), PV.int IntKind.i64 (Tk.si (getQ l_1 c))]] q (rkT l_2 sz_2) ∧ Sml l_2 ∧ ∃ (l_3 : List Tk), ∃ (sz_3 : List Int), ∃ (c_2 : Int), SlIs [PV.int IntKind.u32 c_1] [PV.int IntKind.u32 c_2] ∧ AbIs [Ob.abs (rkT l sz), Ob.cells (List.flatten (List.map u1 (Tk.pl (getQ l_1 c)))), Ob.cells [PV.int IntKind.u32 (Tk.id (getQ l_1 c)), PV.int IntKind.i64 (Tk.md (getQ l_1 c)), PV.arr 1 0 (List.length (Tk.pl (getQ l_1 c))) (List.length (Tk.pl (getQ l_1 c))), PV.int IntKind.i64 (Tk.rt (getQ l_1 c)), PV.int IntKind.i64 (Tk.si (getQ l_1 c))]] 0 (rkT l_3 sz_3) ∧ Sml l_3 ∧ ∃ (q : Nat), ∃ (l : List Tk), ∃ (sz : List Int), ∃ (c_3 : Int), SlIs [PV.ptr 0 0, PV.int IntKind.u32 c_1] [PV.ptr q 0, PV.int IntKind.u32 c_3] ∧ AbIs [Ob.abs (rkT (dropQ l_3 c_2) sz_3), Ob.cells (List.flatten (List.map u1 (Tk.pl (getQ l_1 c)))), Ob.cells [PV.int IntKind.u32 (Tk.id (getQ l_1 c)), PV.int IntKind.i64 (Tk.md (getQ l_1 c)), PV.arr 1 0 (List.length (Tk.pl (getQ l_1 c))) (List.length (Tk.pl (getQ l_1 c))), PV.int IntKind.i64 (Tk.rt (getQ l_1 c)), PV.int IntKind.i64 (Tk.si (getQ l_1 c))], Ob.cells [PV.int IntKind.u32 (Tk.id (getQ l_3 c_2)), PV.int IntKind.i64 (Tk.md (getQ l_3 c_2)), PV.list (List.map u1 (Tk.pl (getQ l_3 c_2))) Tail.no, PV.int IntKind.i64 (Tk.rt (getQ l_3 c_2)), PV.int IntKind.i64 (Tk.si (getQ l_3 c_2))]] q (rkT l sz) ∧ Sml l ∧ (hasQ l c_3 = false → ∃ (l : List Tk), ∃ (sz : List Int), ∃ (t : Tk), ∃ (tl : Tail), SlIs [PV.agg [PV.int IntKind.u32 (Tk.id (getQ l_3 c_2)), PV.int IntKind.i64 (Tk.md (getQ l_3 c_2)), PV.list (List.map u1 (Tk.pl (getQ l_3 c_2))) Tail.no, PV.int IntKind.i64 (Tk.rt (getQ l_3 c_2)), PV.int IntKind.i64 (Tk.si (getQ l_3 c_2))]] [PV.agg [PV.int IntKind.u32 (Tk.id t), PV.int IntKind.i64 (Tk.md t), PV.list (List.map u1 (Tk.pl t)) tl, PV.int IntKind.i64 (Tk.rt t), PV.int IntKind.i64 (Tk.si t)]] ∧ AbIs [Ob.abs (rkT (dropQ l_3 c_2) sz_3), Ob.cells (List.flatten (List.map u1 (Tk.pl (getQ l_1 c)))), Ob.cells [PV.int IntKind.u32 (Tk.id (getQ l_1 c)), PV.int IntKind.i64 (Tk.md (getQ l_1 c)), PV.arr 1 0 (List.length (Tk.pl (getQ l_1 c))) (List.length (Tk.pl (getQ l_1 c))), PV.int IntKind.i64 (Tk.rt (getQ l_1 c)), PV.int IntKind.i64 (Tk.si (getQ l_1 c))], Ob.cells [PV.int IntKind.u32 (Tk.id (getQ l_3 c_2)), PV.int IntKind.i64 (Tk.md (getQ l_3 c_2)), PV.list (List.map u1 (Tk.pl (getQ l_3 c_2))) Tail.no, PV.int IntKind.i64 (Tk.rt (getQ l_3 c_2)), PV.int IntKind.i64 (Tk.si (getQ l_3 c_2))], Ob.cells [PV.int IntKind.u32 0, PV.int IntKind.i64 0, PV.list [] Tail.no, PV.int IntKind.i64 0, PV.int IntKind.i64 0]] 0 (rkT l sz) ∧ Sml l ∧ LbT l t (lbT l t) ∧ List.length (Tk.pl t) ≤ 1000000 ∧ ∃ (q : Nat), ∃ (l_4 : List Tk), ∃ (sz_4 : List Int), ∃ (m_1 : Int), SlIs [PV.ptr 0 0, PV.int IntKind.i64 (Tk.md (getQ l_1 c))] [PV.ptr q 0, PV.int IntKind.i64 m_1] ∧ AbIs [Ob.abs (rkT (putQ sz l t) sz), Ob.cells (List.flatten (List.map u1 (Tk.pl (getQ l_1 c)))), Ob.cells [PV.int IntKind.u32 (Tk.id (getQ l_1 c)), PV.int IntKind.i64 (Tk.md (getQ l_1 c)), PV.arr 1 0 (List.length (Tk.pl (getQ l_1 c))) (List.length (Tk.pl (getQ l_1 c))), PV.int IntKind.i64 (Tk.rt (getQ l_1 c)), PV.int IntKind.i64 (Tk.si (getQ l_1 c))], Ob.cells [PV.int IntKind.u32 (Tk.id (getQ l_3 c_2)), PV.int IntKind.i64 (Tk.md (getQ l_3 c_2)), PV.list (List.map u1 (Tk.pl (getQ l_3 c_2))) Tail.no, PV.int IntKind.i64 (Tk.rt (getQ l_3 c_2)), PV.int IntKind.i64 (Tk.si (getQ l_3 c_2))], Ob.cells [PV.int IntKind.u32 0, PV.int IntKind.i64 0, PV.list [] Tail.no, PV.int IntKind.i64 0, PV.int IntKind.i64 0]] q (rkT l_4 sz_4) ∧ Sml l_4 ∧ br ((!hasQ l_3 c_2) == false) (br ((errQ sz l t != 0) == false) (br ((↑(List.length (List.map csT (modeL l_2 m))) : Int) != (↑(List.length (List.map csT (modeL l_4 m_1))) : Int)) (K (PV.bool false)) (∃ (w : List Tk), ∃ (c_4 : Int), Sml w ∧ SlIs [PV.int IntKind.u32 c_1, PV.bool false, PV.ptr 0 0, PV.ptr 2 0, PV.list (List.map csT (modeL l_2 m)) Tail.no, PV.ptr 3 0, PV.list (List.map csT (modeL l_4 m_1)) Tail.no, PV.int IntKind.i64 0] [PV.int IntKind.u32 c_4, PV.bool false, PV.ptr 0 0, PV.ptr 2 0, PV.list (List.map csT w) Tail.no, PV.ptr 3 0, PV.list (List.map csT w) Tail.no, PV.int IntKind.i64 0] ∧ ∃ (l_5 : List Tk), ∃ (sz_5 : List Int), ∃ (c_5 : Int), ∃ (p : List Int), ∃ (a : Int), ∃ (b : Int), ∃ (d : Int), ∃ (e0 : Int), ∃ (x : Tk), ∃ (o4 : Ob), List.length p ≤ 1000000 ∧ SlIs [PV.int IntKind.u32 c_4, PV.bool false, PV.ptr 0 0, PV.ptr 2 0, PV.ptr 3 0, PV.int IntKind.i64 0] [PV.int IntKind.u32 c_5, PV.bool false, PV.ptr 0 0, PV.ptr 2 0, PV.ptr 3 0, PV.int IntKind.i64 0] ∧ HpIs [Ob.abs (rkT (putQ sz l t) sz), Ob.cells (List.flatten (List.map u1 (Tk.pl (getQ l_1 c)))), Ob.cells [PV.int IntKind.u32 (Tk.id (getQ l_1 c)), PV.int IntKind.i64 (Tk.md (getQ l_1 c)), PV.arr 1 0 (List.length (Tk.pl (getQ l_1 c))) (List.length (Tk.pl (getQ l_1 c))), PV.int IntKind.i64 (Tk.rt (getQ l_1 c)), PV.int IntKind.i64 (Tk.si (getQ l_1 c))], Ob.cells [PV.int IntKind.u32 (Tk.id (getQ l_3 c_2)), PV.int IntKind.i64 (Tk.md (getQ l_3 c_2)), PV.list (List.map u1 (Tk.pl (getQ l_3 c_2))) Tail.no, PV.int IntKind.i64 (Tk.rt (getQ l_3 c_2)), PV.int IntKind.i64 (Tk.si (getQ l_3 c_2))], Ob.cells [PV.int IntKind.u32 0, PV.int IntKind.i64 0, PV.list [] Tail.no, PV.int IntKind.i64 0, PV.int IntKind.i64 0]] [Ob.abs (rkT l_5 sz_5), Ob.cells (List.flatten (List.map u1 p)), Ob.cells [PV.int IntKind.u32 a, PV.int IntKind.i64 b, PV.arr 1 0 (List.length p) (List.length p), PV.int IntKind.i64 d, PV.int IntKind.i64 e0], Ob.cells [PV.int IntKind.u32 (Tk.id x), PV.int IntKind.i64 (Tk.md x), PV.list (List.map u1 (Tk.pl x)) Tail.no, PV.int IntKind.i64 (Tk.rt x), PV.int IntKind.i64 (Tk.si x)], o4] ∧ ∀ (_ : Nat), ∀ (o1 o2 : Ob), ∃ (l : List Tk), ∃ (sz : List Int), ∃ (c : Int), ∃ (x_1 : Tk), ∃ (o1_1 : Ob), ∃ (o2_1 : Ob), ∃ (o4_1 : Ob), Sml l ∧ x_1 = getQ l c ∧ SlIs [PV.int IntKind.u32 c_5, PV.ptr 0 0, PV.ptr 3 0] [PV.int IntKind.u32 c, PV.ptr 0 0, PV.ptr 3 0] ∧ HpIs [Ob.abs (rkT l_5 sz_5), o1, o2, Ob.cells [PV.int IntKind.u32 (Tk.id x), PV.int IntKind.i64 (Tk.md x), PV.list (List.map u1 (Tk.pl x)) Tail.no, PV.int IntKind.i64 (Tk.rt x), PV.int IntKind.i64 (Tk.si x)], o4] [Ob.abs (rkT l sz), o1_1, o2_1, Ob.cells [PV.int IntKind.u32 (Tk.id x_1), PV.int IntKind.i64 (Tk.md x_1), PV.list (List.map u1 (Tk.pl x_1)) Tail.no, PV.int IntKind.i64 (Tk.rt x_1), PV.int IntKind.i64 (Tk.si x_1)], o4_1] ∧ ∀ (_ : Heap), K (PV.bool true))) (K (PV.bool false))) (K (PV.bool false))) ∧ (hasQ l c_3 = true → ∃ (l_4 : List Tk), ∃ (sz : List Int), ∃ (t : Tk), ∃ (tl : Tail), SlIs [PV.agg [PV.int IntKind.u32 (Tk.id (getQ l_3 c_2)), PV.int IntKind.i64 (Tk.md (getQ l_3 c_2)), PV.list (List.map u1 (Tk.pl (getQ l_3 c_2))) Tail.no, PV.int IntKind.i64 (Tk.rt (getQ l_3 c_2)), PV.int IntKind.i64 (Tk.si (getQ l_3 c_2))]] [PV.agg [PV.int IntKind.u32 (Tk.id t), PV.int IntKind.i64 (Tk.md t), PV.list (List.map u1 (Tk.pl t)) tl, PV.int IntKind.i64 (Tk.rt t), PV.int IntKind.i64 (Tk.si t)]] ∧ AbIs [Ob.abs (rkT (dropQ l_3 c_2) sz_3), Ob.cells (List.flatten (List.map u1 (Tk.pl (getQ l_1 c)))), Ob.cells [PV.int IntKind.u32 (Tk.id (getQ l_1 c)), PV.int IntKind.i64 (Tk.md (getQ l_1 c)), PV.arr 1 0 (List.length (Tk.pl (getQ l_1 c))) (List.length (Tk.pl (getQ l_1 c))), PV.int IntKind.i64 (Tk.rt (getQ l_1 c)), PV.int IntKind.i64 (Tk.si (getQ l_1 c))], Ob.cells [PV.int IntKind.u32 (Tk.id (getQ l_3 c_2)), PV.int IntKind.i64 (Tk.md (getQ l_3 c_2)), PV.list (List.map u1 (Tk.pl (getQ l_3 c_2))) Tail.no, PV.int IntKind.i64 (Tk.rt (getQ l_3 c_2)), PV.int IntKind.i64 (Tk.si (getQ l_3 c_2))], Ob.cells (List.flatten (List.map u1 (Tk.pl (getQ l c_3)))), Ob.cells [PV.int IntKind.u32 (Tk.id (getQ l c_3)), PV.int IntKind.i64 (Tk.md (getQ l c_3)), PV.arr 4 0 (List.length (Tk.pl (getQ l c_3))) (List.length (Tk.pl (getQ l c_3))), PV.int IntKind.i64 (Tk.rt (getQ l c_3)), PV.int IntKind.i64 (Tk.si (getQ l c_3))]] 0 (rkT l_4 sz) ∧ Sml l_4 ∧ LbT l_4 t (lbT l_4 t) ∧ List.length (Tk.pl t) ≤ 1000000 ∧ ∃ (q : Nat), ∃ (l_5 : List Tk), ∃ (sz_4 : List Int), ∃ (m : Int), SlIs [PV.ptr 0 0, PV.int IntKind.i64 (Tk.md (getQ l_1 c))] [PV.ptr q 0, PV.int IntKind.i64 m] ∧ AbIs [Ob.abs (rkT (putQ sz l_4 t) sz), Ob.cells (List.flatten (List.map u1 (Tk.pl (getQ l_1 c)))), Ob.cells [PV.int IntKind.u32 (Tk.id (getQ l_1 c)), PV.int IntKind.i64 (Tk.md (getQ l_1 c)), PV.arr 1 0 (List.length (Tk.pl (getQ l_1 c))) (List.length (Tk.pl (getQ l_1 c))), PV.int IntKind.i64 (Tk.rt (getQ l_1 c)), PV.int IntKind.i64 (Tk.si (getQ l_1 c))], Ob.cells [PV.int IntKind.u32 (Tk.id (getQ l_3 c_2)), PV.int IntKind.i64 (Tk.md (getQ l_3 c_2)), PV.list (List.map u1 (Tk.pl (getQ l_3 c_2))) Tail.no, PV.int IntKind.i64 (Tk.rt (getQ l_3 c_2)), PV.int IntKind.i64 (Tk.si (getQ l_3 c_2))], Ob.cells (List.flatten (List.map u1 (Tk.pl (getQ l c_3)))), Ob.cells [PV.int IntKind.u32 (Tk.id (getQ l c_3)), PV.int IntKind.i64 (Tk.md (getQ l c_3)), PV.arr 4 0 (List.length (Tk.pl (getQ l c_3))) (List.length (Tk.pl (getQ l c_3))), PV.int IntKind.i64 (Tk.rt (getQ l c_3)), PV.int IntKind.i64 (Tk.si (getQ l c_3))]] q (rkT l_5 sz_4) ∧ Sml l_5 ∧ br ((!hasQ l_3 c_2) == false) (K (PV.bool false)) (K (PV.bool false))))) ∧ ∀ (_ : List Tk), ∀ (_ : Nat), K (PV.bool true))) : ACalls Try.prog gl 10 [.list (ts.map csT) .no, .int .u32 c] [] (fun x _ => K x) :=
  acalls_of_wpc2 (T := TAG) (L := [([1, 1, 1, 0, 1, 0], ag1_l), ([1, 1, 1, 1, 1, 1, 1, 1, 1, 1, 1, 1, 0, 1, 0], ag2_l), ([1, 1, 1, 1, 1, 1, 1, 1, 1, 1, 1, 1, 1, 0, 1, 0], ag3_l), ([1, 1, 1, 1, 1, 1, 1, 1, 1, 1, 1, 1, 1, 1], agt_l)]) (fun _ => 0) Try.func10 (by kernel_rfl) (by kernel_rfl) (by kernel_rfl) (TAG_ok) (.cons (sub_of (by kernel_rfl)) ag1_l_ok (.cons (sub_of (by kernel_rfl)) ag2_l_ok (.cons (sub_of (by kernel_rfl)) ag3_l_ok (.cons (show sub [1, 1, 1, 1, 1, 1, 1, 1, 1, 1, 1, 1, 1, 1] (bodyOf Try.f10) = some (atOf [1, 1, 1, 1, 1, 1, 1, 1, 1, 1, 1, 1, 1, 1] (bodyOf Try.f10)) from by kernel_rfl) agt_l_ok (.nil _ _ _ _ _))))) (holds_of_eq (by kernel_rfl) h)
theorem again_law (ts : List Tk) (c : Int) : ACalls Try.prog gl 10 [.list (ts.map csT) .no, .int .u32 c] [] (fun x _ => x = .bool true) := by
  refine ag_vc ts c (fun x => x = .bool true) ?_
  simp only [br_if, List.length_map, dt]
  by_cases c1 : ts.length > 30
  · rw [if_pos (by omega)]; trivial
  rw [if_neg (by omega)]
  refine ⟨[⟨2, 0, 0, 0, 0⟩, ⟨4, 0, 0, 0, 0⟩], .exact, rfl, by simp, N_tilt, _, _, _, _, _, _, _, _, _, _, _, _, [⟨2, 0, 0, 0, 0⟩, ⟨4, 0, 0, 0, 0⟩], rfl, by simp, ts, [2, 4], c, rfl, by omega, rfl, rfl, fun l ho hp hl => ?_, fun _ _ => by trivial⟩
  have hM : (([2, 4] : List Int).length : Int) = 2 := rfl
  have s := ho.sml (show l.length ≤ 1000000 by omega)
  refine ⟨0, l, [2, 4], c, rfl, rfl, s, fun _ => ⟨rfl, by trivial⟩, fun hh => ?_⟩
  obtain ⟨n1, n2, n3⟩ := put_again ho hM hp hh
  have ho1 := ho.drop c
  have s1 : Sml (dropQ l c) := ho1.sml (by have := dropQ_len ho c; omega)
  have sm : Sml (modeL l (getQ l c).md) := ⟨by have := ho.full (getQ l c).md; omega, fun t ht => s.pl t (List.mem_filter.1 ht).1⟩
  refine ⟨0, l, [2, 4], (getQ l c).md, rfl, rfl, s, l, [2, 4], c, rfl, rfl, s, 0, dropQ l c, [2, 4], c, rfl, rfl, s1, fun _ => ?_, fun hn => by rw [n1] at hn; cases hn⟩
  refine ⟨dropQ l c, [2, 4], getQ l c, .no, rfl, rfl, s1, lbT_ok ho1.rise _, s.get _, ?_⟩
  rw [n3, n2, hh]
  refine ⟨0, l, [2, 4], (getQ l c).md, rfl, rfl, s, ?_⟩
  rw [if_pos (by decide), if_pos (by decide), if_neg (by simp)]
  exact ⟨modeL l (getQ l c).md, c, sm, rfl, l, [2, 4], c, (getQ l c).pl, _, _, _, _, getQ l c, _, s.get _, rfl, rfl, fun _ o1 o2 => ⟨l, [2, 4], c, getQ l c, o1, o2, _, s, rfl, rfl, rfl, fun _ => by trivial⟩⟩
#print axioms again_law
end Go.Proofs.Ytcmknbanojcbaaa
