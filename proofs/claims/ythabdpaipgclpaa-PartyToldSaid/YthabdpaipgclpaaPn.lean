/-
  PartyRuns' law.
-/
import Derived.Test.YthabdpaipgclpaaPm
import Derived.Test.YthabdpaipgclpaaProg
namespace Go.Proofs.Ythabdpaipgclpaa
open Go Go.AM Go.Proofs
theorem like_ok : SpOk Try.prog gl 29 (.read like_s) := by
  rintro args H K ⟨q, r, w, m, tl, he, hb, ro, hk⟩
  have he : args = _ := he
  subst he
  refine ⟨_, acalls_args (.cons (.refl _) (.cons (.list _ _) .nil)) (book_read gl_low hb (low_one (low_ptl w)) (.bool _) (like1_vc w m _ ⟨0, 1, w, m, rfl, ⟨rfl, rfl⟩, ro, w, .no, rfl, ro.len, w.map Pt.id, w.map Pt.id, .no, .no, rfl, by rw [List.length_map]; exact ro.len, ?_⟩)), hk⟩
  rw [br_if, if_neg (by simp)]
  exact ⟨w, m, ro, rfl, rfl, rfl, [], rfl⟩
def pw1 : List Pt := (invS [] 3 1 2).1
def pw2 : List Pt := (joinS pw1 1 2).1
def pw3 : List Pt := (leaveS pw2 1).1
theorem pw_ro0 : PO [] 3 := .nil (by decide) (by decide)
theorem pw_ro1 : PO pw1 3 := pw_ro0.inv _ _
theorem pw_ro2 : PO pw2 3 := pw_ro1.join _ _
theorem pw_ro3 : PO pw3 3 := pw_ro2.leave _
theorem pawake_law : ACalls Try.prog gl 33 [] [] (fun x _ => x = .bool true) := by
  refine pawk1_vc _ ⟨3, rfl, [], 3, 1, 2, rfl, rfl, pw_ro0, pw1, 3, 1, 2, rfl, rfl, pw_ro1, pw2, 3, 1, rfl, rfl, pw_ro2, ?_⟩
  rw [br_if, if_pos (by decide), br_if, if_pos (by decide), br_if, if_pos (by decide), br_if, if_pos (by decide), br_if, if_pos (by decide), br_if, if_pos (by decide)]
  refine ⟨1, 0, pw3, 3, 2, rfl, ⟨rfl, rfl⟩, pw_ro3, ?_⟩
  show PV.bool _ = _
  congr 1
def pawk_s (args : List PV) (K : PV → Prop) : Prop := SlIs args [] ∧ K (.bool true)
theorem pawk_ok : SpOk Try.prog gl 33 (.pure pawk_s) := by
  rintro args K ⟨he, hk⟩
  have he : args = _ := he
  subst he
  exact spure gl_low (fun x h => nomatch h) (.bool _) pawake_law hk
def TPX : Tab := (28, .heap pdo_s) :: (29, .read like_s) :: (30, .read pof_s) :: (31, .pure qof_s) :: (27, .heap newB_s) :: (32, .read ptyR_s) :: (33, .pure pawk_s) :: (34, .read pids_s) :: TY0
theorem TPX_ok : TabOk Try.prog gl TPX := .cons pdo_ok (.cons like_ok (.cons pof_ok (.cons qof_ok (.cons newB_ok (.cons ptyR_ok (.cons pawk_ok (.cons pids_ok TY0_ok)))))))
theorem inL_pa (l : List Pa) (i : Nat) : InL (l.map Pa.cs) 3 (i : Int) = (i < l.length) := inL_map Pa.cs_len (by decide) l i
theorem pruns_vc (w : List Pt) (m n : Int) (acs : List Pa) (i : Nat) (R : Ex → List PV → Heap → Prop) (h : br (decide ((↑i : Int) < (↑(List.length (List.map Pa.cs acs)) : Int))) (InL (List.map Pa.cs acs) 3 (↑i : Int) ∧ br (true && fitX [CK.int IntKind.u8, CK.int IntKind.u32, CK.int IntKind.u32] 0 (List.getD (List.map Pa.cs acs) (Int.toNat (↑i : Int)) [])) (∃ (w_1 : List Pt), ∃ (l : List Pt), ∃ (m_1 : Int), ∃ (a : Pa), ∃ (tl : Tail), SlIs [PV.list (List.map ptc w) Tail.no, PV.int IntKind.i64 (mxI 0 n), PV.agg [PV.int IntKind.u8 (cI (List.getD (List.map Pa.cs acs) (Int.toNat (↑i : Int)) []) 0), PV.int IntKind.u32 (cI (List.getD (List.map Pa.cs acs) (Int.toNat (↑i : Int)) []) 1), PV.int IntKind.u32 (cI (List.getD (List.map Pa.cs acs) (Int.toNat (↑i : Int)) []) 2)]] [PV.list (List.map ptc l) tl, PV.int IntKind.i64 m_1, PV.agg [PV.int IntKind.u8 (Pa.d a), PV.int IntKind.u32 (Pa.a a), PV.int IntKind.u32 (Pa.b a)]] ∧ AbIs [Ob.abs (rkP (rowsP w) m), Ob.cells [PV.ptr 0 0], Ob.cells [PV.int IntKind.u8 (cI (List.getD (List.map Pa.cs acs) (Int.toNat (↑i : Int)) []) 0), PV.int IntKind.u32 (cI (List.getD (List.map Pa.cs acs) (Int.toNat (↑i : Int)) []) 1), PV.int IntKind.u32 (cI (List.getD (List.map Pa.cs acs) (Int.toNat (↑i : Int)) []) 2)]] 0 (rkP (rowsP w_1) m_1) ∧ PO w_1 m_1 ∧ PO l m_1 ∧ m_1 ≤ 100000 ∧ Pa.ok a ∧ br ((!eqA (Prod.snd (actS w_1 m_1 a)) (Prod.snd (actS l m_1 a))) == false) (∃ (q : Nat), ∃ (r : Nat), ∃ (w_2 : List Pt), ∃ (m : Int), ∃ (tl : Tail), SlIs [PV.ptr 1 0, PV.list (List.map ptc (Prod.fst (actS l m_1 a))) Tail.no] [PV.ptr q 0, PV.list (List.map ptc w_2) tl] ∧ BkIs [Ob.abs (rkP (rowsP (Prod.fst (actS w_1 m_1 a))) m_1), Ob.cells [PV.ptr 0 0], Ob.cells [PV.int IntKind.u8 (cI (List.getD (List.map Pa.cs acs) (Int.toNat (↑i : Int)) []) 0), PV.int IntKind.u32 (cI (List.getD (List.map Pa.cs acs) (Int.toNat (↑i : Int)) []) 1), PV.int IntKind.u32 (cI (List.getD (List.map Pa.cs acs) (Int.toNat (↑i : Int)) []) 2)]] q r (rkP (rowsP w_2) m) ∧ PO w_2 m ∧ ∃ (q : Nat), ∃ (r : Nat), ∃ (w_3 : List Pt), ∃ (m : Int), ∃ (p : Int), SlIs [PV.ptr 1 0, PV.int IntKind.u32 (cI (List.getD (List.map Pa.cs acs) (Int.toNat (↑i : Int)) []) 1)] [PV.ptr q 0, PV.int IntKind.u32 p] ∧ BkIs [Ob.abs (rkP (rowsP (Prod.fst (actS w_1 m_1 a))) m_1), Ob.cells [PV.ptr 0 0], Ob.cells [PV.int IntKind.u8 (cI (List.getD (List.map Pa.cs acs) (Int.toNat (↑i : Int)) []) 0), PV.int IntKind.u32 (cI (List.getD (List.map Pa.cs acs) (Int.toNat (↑i : Int)) []) 1), PV.int IntKind.u32 (cI (List.getD (List.map Pa.cs acs) (Int.toNat (↑i : Int)) []) 2)]] q r (rkP (rowsP w_3) m) ∧ PO w_3 m ∧ ∃ (w_4 : List Pt), ∃ (tl : Tail), ∃ (t : Int), SlIs [PV.list (List.map ptc (Prod.fst (actS l m_1 a))) Tail.no, PV.int IntKind.u32 (cI (List.getD (List.map Pa.cs acs) (Int.toNat (↑i : Int)) []) 1)] [PV.list (List.map ptc w_4) tl, PV.int IntKind.u32 t] ∧ SmP w_4 ∧ br (ofP w_3 p != ofP w_4 t) (R Ex.ret [PV.int IntKind.i64 n, PV.list (List.map Pa.cs acs) Tail.no, PV.bool false, PV.ptr 1 0, PV.list (List.map ptc w) Tail.no, PV.int IntKind.i64 (↑i : Int)] [Ob.abs (rkP (rowsP (Prod.fst (actS w_1 m_1 a))) m_1), Ob.cells [PV.ptr 0 0], Ob.cells [PV.int IntKind.u8 (cI (List.getD (List.map Pa.cs acs) (Int.toNat (↑i : Int)) []) 0), PV.int IntKind.u32 (cI (List.getD (List.map Pa.cs acs) (Int.toNat (↑i : Int)) []) 1), PV.int IntKind.u32 (cI (List.getD (List.map Pa.cs acs) (Int.toNat (↑i : Int)) []) 2)]]) (R Ex.normal [PV.int IntKind.i64 n, PV.list (List.map Pa.cs acs) Tail.no, PV.bool false, PV.ptr 1 0, PV.list (List.map ptc (Prod.fst (actS l m_1 a))) Tail.no, PV.int IntKind.i64 (wI ((↑i : Int) + 1))] [Ob.abs (rkP (rowsP (Prod.fst (actS w_1 m_1 a))) m_1), Ob.cells [PV.ptr 0 0], Ob.cells [PV.int IntKind.u8 (cI (List.getD (List.map Pa.cs acs) (Int.toNat (↑i : Int)) []) 0), PV.int IntKind.u32 (cI (List.getD (List.map Pa.cs acs) (Int.toNat (↑i : Int)) []) 1), PV.int IntKind.u32 (cI (List.getD (List.map Pa.cs acs) (Int.toNat (↑i : Int)) []) 2)]])) (R Ex.ret [PV.int IntKind.i64 n, PV.list (List.map Pa.cs acs) Tail.no, PV.bool false, PV.ptr 1 0, PV.list (List.map ptc w) Tail.no, PV.int IntKind.i64 (↑i : Int)] [Ob.abs (rkP (rowsP (Prod.fst (actS w_1 m_1 a))) m_1), Ob.cells [PV.ptr 0 0], Ob.cells [PV.int IntKind.u8 (cI (List.getD (List.map Pa.cs acs) (Int.toNat (↑i : Int)) []) 0), PV.int IntKind.u32 (cI (List.getD (List.map Pa.cs acs) (Int.toNat (↑i : Int)) []) 1), PV.int IntKind.u32 (cI (List.getD (List.map Pa.cs acs) (Int.toNat (↑i : Int)) []) 2)]])) False) (R (Ex.exit 0) [PV.int IntKind.i64 n, PV.list (List.map Pa.cs acs) Tail.no, PV.bool false, PV.ptr 1 0, PV.list (List.map ptc w) Tail.no, PV.int IntKind.i64 (↑i : Int)] [Ob.abs (rkP (rowsP w) m), Ob.cells [PV.ptr 0 0]])) : Holds (wpc br Try.prog gl TPX [] (fun o => match o.dst with | some 48 => 5 | some 55 => 5 | _ => 0) (subOf [1, 1, 1, 1, 1, 0, 1, 0] (bodyOf Try.f7)) [] (envS [0, 1, 4, 5, 6, 7] [.int .i64 n, .list (acs.map Pa.cs) .no, .bool false, .ptr 1 0, .list (w.map ptc) .no, .int .i64 i]) [.abs (rkP (rowsP w) m), .cells [.ptr 0 0]] (fun ex e H => R ex (List.map e [0, 1, 4, 5, 6, 7]) H)) := holds_of_eq (by kernel_rfl) h
theorem low_pal {k : Nat} (l : List Pa) : Low k (.list (l.map Pa.cs) .no) := low_rows (fun a => low_pa a) l
theorem pruns_low (n : Int) (acs : List Pa) (w : List Pt) (i : Int) : ∀ v ∈ [PV.int .i64 n, .list (acs.map Pa.cs) .no, .bool false, .ptr 1 0, .list (w.map ptc) .no, .int .i64 i], Low 2 v := by
  intro v hv
  simp only [List.mem_cons, List.not_mem_nil, or_false] at hv
  rcases hv with rfl | rfl | rfl | rfl | rfl | rfl
  · exact .int _ _
  · exact low_pal acs
  · exact .bool _
  · exact .ptr _ _ (by decide)
  · exact low_ptl w
  · exact .int _ _
def pruns_l : LSp := fun e H Q => ∃ (n : Int) (acs : List Pa), n ≤ 20 ∧ acs.length ≤ 80 ∧ (∀ a ∈ acs, a.ok) ∧ SlIs (List.map e [0, 1, 4, 5, 6, 7]) [.int .i64 n, .list (acs.map Pa.cs) .no, .bool false, .ptr 1 0, .list [] .exact, .int .i64 0] ∧ HpIs H [.abs (rkP (rowsP []) (mxI 0 n)), .cells [.ptr 0 0]] ∧
  ∀ (w : List Pt), PO w (mxI 0 n) → Q (.exit 0) (envS [0, 1, 4, 5, 6, 7] [.int .i64 n, .list (acs.map Pa.cs) .no, .bool false, .ptr 1 0, .list (w.map ptc) .no, .int .i64 acs.length]) [.abs (rkP (rowsP w) (mxI 0 n)), .cells [.ptr 0 0]]
theorem pruns_l_ok : ∀ e H Q, pruns_l e H Q → AW Try.prog gl Try.f7.ntmps (.loop (subOf [1, 1, 1, 1, 1, 0, 1, 0] (bodyOf Try.f7))) Q e H := by
  rintro e H Q ⟨n, acs, hn, hl, hok, he, hH, hQ⟩
  have he : List.map e [0, 1, 4, 5, 6, 7] = _ := he
  have hm0 : 0 ≤ mxI 0 n ∧ mxI 0 n ≤ 20 := by unfold mxI; split <;> omega
  refine AW.wkin (slots := [0, 1, 4, 5, 6, 7]) (vs := [.int .i64 n, .list (acs.map Pa.cs) .no, .bool false, .ptr 1 0, .list [] .no, .int .i64 0]) (by rw [he]; exact .cons (.refl _) (.cons (.refl _) (.cons (.refl _) (.cons (.refl _) (.cons (.list _ _) (.cons (.refl _) .nil)))))) ?_
  refine aw_loop4 (hn := fun o => match o.dst with | some 48 => 5 | some 55 => 5 | _ => 0) gl_low TPX_ok (.nil _ _ _ _ _) (σ := Nat × List Pt) [0, 1, 4, 5, 6, 7] (fun s => s.1 ≤ acs.length ∧ PO s.2 (mxI 0 n))
    (fun s => [.int .i64 n, .list (acs.map Pa.cs) .no, .bool false, .ptr 1 0, .list (s.2.map ptc) .no, .int .i64 s.1]) (fun s => [.abs (rkP (rowsP s.2) (mxI 0 n)), .cells [.ptr 0 0]]) (fun s => acs.length - s.1) (0, []) ⟨Nat.zero_le _, .nil hm0.1 (by omega)⟩ rfl hH ?_
  rintro ⟨i, w⟩ ⟨hi, ro⟩
  have hi : i ≤ acs.length := hi
  have ro : PO w (mxI 0 n) := ro
  refine pruns_vc w (mxI 0 n) n acs i _ ?_
  simp only [br_if, dt, List.length_map, inL_pa, toNat_nat]
  by_cases h : i < acs.length
  · rw [if_pos (by omega)]
    simp only [getD_map default h]
    refine ⟨h, ?_⟩
    rw [if_pos (by rfl)]
    obtain ⟨a, ha⟩ : ∃ a, a = acs.getD i default := ⟨_, rfl⟩
    have haok : a.ok := hok a (by rw [ha]; exact getD_mem h)
    have c0 : cI a.cs 0 = a.d := rfl
    have c1 : cI a.cs 1 = a.a := rfl
    have c2 : cI a.cs 2 = a.b := rfl
    simp only [← ha, c0, c1, c2]
    have ro2 := ro.act a
    refine ⟨w, w, mxI 0 n, a, .no, rfl, rfl, ro, ro, by omega, haok, ?_⟩
    rw [eqA_self, if_pos (by rfl)]
    refine ⟨1, 0, (actS w (mxI 0 n) a).1, mxI 0 n, .no, rfl, ⟨rfl, rfl⟩, ro2, 1, 0, (actS w (mxI 0 n) a).1, mxI 0 n, a.a, rfl, ⟨rfl, rfl⟩, ro2, (actS w (mxI 0 n) a).1, .no, a.a, rfl, ro2.smp (by omega), ?_⟩
    rw [if_neg (by simp)]
    exact ⟨(i + 1, (actS w (mxI 0 n) a).1), (show acs.length - (i + 1) < acs.length - i by omega), ⟨h, ro2⟩, by rw [wI_succ h (by omega)], [_], rfl, Nat.le_refl _, .inr ⟨pruns_low n acs _ _, runs_hlow _⟩⟩
  · rw [if_neg (by omega)]
    have : i = acs.length := by omega
    subst this
    exact hQ w ro
theorem pruns1_vc (n : Int) (acs : List Pa)  (K : PV → Prop) (h : br (decide (n > 20) == false) (br (decide ((↑(List.length (List.map Pa.cs acs)) : Int) > 80)) (K (PV.bool true)) (∃ (n_1 : Int), SlIs [PV.int IntKind.i64 n] [PV.int IntKind.i64 n_1] ∧ ∃ (n_2 : Int), ∃ (acs_1 : List Pa), n_2 ≤ 20 ∧ List.length acs_1 ≤ 80 ∧ (∀ (a : Pa), a ∈ acs_1 → Pa.ok a) ∧ SlIs [PV.int IntKind.i64 n, PV.list (List.map Pa.cs acs) Tail.no, PV.bool false, PV.ptr 1 0, PV.list [] Tail.exact, PV.int IntKind.i64 0] [PV.int IntKind.i64 n_2, PV.list (List.map Pa.cs acs_1) Tail.no, PV.bool false, PV.ptr 1 0, PV.list [] Tail.exact, PV.int IntKind.i64 0] ∧ HpIs [Ob.abs (rkP [] (mxI 0 n_1)), Ob.cells [PV.ptr 0 0]] [Ob.abs (rkP [] (mxI 0 n_2)), Ob.cells [PV.ptr 0 0]] ∧ ∀ (w : List Pt), PO w (mxI 0 n_2) → ∃ (q : Nat), ∃ (r : Nat), ∃ (w_1 : List Pt), ∃ (m : Int), ∃ (t : Int), SlIs [PV.ptr 1 0, PV.int IntKind.u32 0] [PV.ptr q 0, PV.int IntKind.u32 t] ∧ BkIs [Ob.abs (rkP (rowsP w) (mxI 0 n_2)), Ob.cells [PV.ptr 0 0]] q r (rkP (rowsP w_1) m) ∧ PO w_1 m ∧ br ((!hasG Pt.id w_1 t) == true) (SlIs [] [] ∧ K (PV.bool true)) (K (PV.bool false)))) (K (PV.bool true))) : ACalls Try.prog gl 7 [.int .i64 n, .list (acs.map Pa.cs) .no] [] (fun x _ => K x) :=
  acalls_of_wpc2 (T := TPX) (L := [([1, 1, 1, 1, 1, 0, 1, 0], pruns_l)]) (fun _ => 0) Try.func7 (by kernel_rfl) (by kernel_rfl) (by kernel_rfl) (TPX_ok) (.cons (sub_of (by kernel_rfl)) pruns_l_ok (.nil _ _ _ _ _)) (holds_of_eq (by kernel_rfl) h)
theorem no_zero {w : List Pt} {m : Int} (ro : PO w m) : hasG Pt.id w 0 = false := eq_false_of_ne_true fun h => by
  obtain ⟨x, hx, e⟩ := hasG_iff.1 h
  have r := (ro.cs x hx).rt
  rw [e] at r
  exact absurd r (by decide)
theorem pruns_law (n : Int) (acs : List Pa) (hok : ∀ a ∈ acs, a.ok) : ACalls Try.prog gl 7 [.int .i64 n, .list (acs.map Pa.cs) .no] [] (fun x _ => x = .bool true) := by
  refine pruns1_vc n acs _ ?_
  simp only [br_if, bf, List.length_map]
  by_cases c : n ≤ 20
  · rw [if_pos (by simp; omega)]
    by_cases c2 : acs.length ≤ 80
    · rw [if_neg (by simp; omega)]
      refine ⟨n, rfl, n, acs, c, c2, hok, rfl, rfl, fun w ro => ⟨1, 0, w, mxI 0 n, 0, rfl, ⟨rfl, rfl⟩, ro, ?_⟩⟩
      rw [no_zero ro, if_pos (by rfl)]
      exact ⟨rfl, trivial⟩
    · rw [if_pos (by simp; omega)]; trivial
  · rw [if_neg (by simp; omega)]; trivial
#print axioms pruns_law
set_option maxRecDepth 10000
theorem u58 : Try.prog.underlying 58 = some (.slice 63) := by kernel_rfl
theorem s63 : ∃ fs, Try.prog.underlying 63 = some (.struct fs) ∧ fs.toList.map (·.type) = [5, 24, 24] := ⟨_, Try.underlying63, rfl⟩
theorem paf_of {k : Nat} {cs : List PV} (g : WFs (WTp Try.prog (k + 1)) [5, 24, 24] cs) : ∃ a : Pa, cs = a.cs ∧ a.ok := by
  obtain ⟨x1, r1, rfl, h1, g⟩ := wfs_cons g
  obtain ⟨x2, r2, rfl, h2, g⟩ := wfs_cons g
  obtain ⟨x3, r3, rfl, h3, g⟩ := wfs_cons g
  obtain rfl := wfs_nil g
  obtain ⟨a, rfl, _⟩ := wtp_int u5 h1
  obtain ⟨b, rfl, h7, _⟩ := wtp_int u24 h2
  obtain ⟨c, rfl, h8, _⟩ := wtp_int u24 h3
  exact ⟨⟨a, b, c⟩, rfl, h7, h8⟩
theorem pa_of {k : Nat} {cs : List PV} (h : WTp Try.prog (k + 1 + 1) 63 cs) : ∃ a : Pa, cs = a.cs ∧ a.ok := by
  obtain ⟨fs, hs, hf⟩ := s63
  have g := wtp_struct hs h
  rw [hf] at g
  exact paf_of g
theorem pruns_args (xs : List PV) (h : WTargs Try.prog 6 Try.f7.params.toList xs) : ACalls Try.prog gl 7 xs [] (fun x _ => x = .bool true) := by
  rw [Try.params7] at h
  obtain ⟨x, r, rfl, h1, y, r2, rfl, h2, h3⟩ := h
  obtain rfl := wtargs_nil h3
  obtain ⟨n, rfl, _⟩ := wta_int u3 h1
  obtain ⟨es, rfl, _, g⟩ := wta_list u58 h2
  obtain ⟨l, rfl, hl⟩ := list_of (f := Pa.cs) fun r hr => pa_of (g r hr)
  exact pruns_law n l hl
end Go.Proofs.Ythabdpaipgclpaa
