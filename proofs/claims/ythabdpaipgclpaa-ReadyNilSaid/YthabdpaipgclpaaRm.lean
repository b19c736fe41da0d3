/-
  ReadyRuns' law.
-/
import Derived.Test.YthabdpaipgclpaaRl
import Derived.Test.YthabdpaipgclpaaProg
namespace Go.Proofs.Ythabdpaipgclpaa
open Go Go.AM Go.Proofs
theorem RO.def (w : List Ck) (m : Int) : RO w m = RO w m := rfl
def aw1 : List Ck := (openS [] 4 3 9 [5, 6]).1
def aw2 : List Ck := (accS aw1 5).1
def aw3 : List Ck := (accS aw2 6).1
theorem aw_ro0 : RO [] 4 := .nil (by decide) (by decide)
theorem aw_ro1 : RO aw1 4 := aw_ro0.open _ _ _
theorem aw_ro2 : RO aw2 4 := aw_ro1.acc _
theorem aw_ro3 : RO aw3 4 := aw_ro2.acc _
theorem awake_law : ACalls Try.prog gl 15 [] [] (fun x _ => x = .bool true) := by
  refine awk1_vc _ ⟨4, rfl, [], 4, 3, 9, [5, 6], .exact, rfl, rfl, aw_ro0, by decide, aw1, 4, 5, rfl, rfl, aw_ro1, aw2, 4, 6, rfl, rfl, aw_ro2, ?_⟩
  rw [br_if, if_pos (by decide), br_if, if_pos (by decide), br_if, if_pos (by decide), br_if, if_pos (by decide), br_if, if_pos (by decide)]
  refine ⟨1, 0, aw3, 4, 5, rfl, ⟨rfl, rfl⟩, aw_ro3, ?_⟩
  show PV.bool _ = _
  congr 1
def awk_s (args : List PV) (K : PV → Prop) : Prop := SlIs args [] ∧ K (.bool true)
theorem awk_ok : SpOk Try.prog gl 15 (.pure awk_s) := by
  rintro args K ⟨he, hk⟩
  have he : args = _ := he
  subst he
  exact spure gl_low (fun x h => nomatch h) (.bool _) awake_law hk
theorem low_acl {k : Nat} (l : List Ac) : Low k (.list (l.map Ac.cs) .no) := low_rows (fun a => low_ac a) l
theorem runs_low (n : Int) (acs : List Ac) (w : List Ck) (i : Int) : ∀ v ∈ [PV.int .i64 n, .list (acs.map Ac.cs) .no, .bool false, .ptr 1 0, .list (w.map ckc) .no, .int .i64 i], Low 2 v := by
  intro v hv
  simp only [List.mem_cons, List.not_mem_nil, or_false] at hv
  rcases hv with rfl | rfl | rfl | rfl | rfl | rfl
  · exact .int _ _
  · exact low_acl acs
  · exact .bool _
  · exact .ptr _ _ (by decide)
  · exact low_ckl w
  · exact .int _ _
theorem runs_hlow (R : Rep) : LowH [.abs R, .cells [.ptr 0 0]] := by
  refine lowH_of fun ob ho => ?_
  simp only [List.mem_cons, List.not_mem_nil, or_false] at ho
  rcases ho with rfl | rfl
  · trivial
  · exact low_one (.ptr _ _ (by simp))
def runs_l : LSp := fun e H Q => ∃ (n : Int) (acs : List Ac), n ≤ 20 ∧ acs.length ≤ 60 ∧ (∀ a ∈ acs, a.ok) ∧ SlIs (List.map e [0, 1, 4, 5, 6, 7]) [.int .i64 n, .list (acs.map Ac.cs) .no, .bool false, .ptr 1 0, .list [] .exact, .int .i64 0] ∧ HpIs H [.abs (rkC (rowsC []) (mxI 0 n)), .cells [.ptr 0 0]] ∧
  (∀ (w : List Ck) (i : Nat) G, Q .ret (envS [0, 1, 4, 5, 6, 7] [.int .i64 n, .list (acs.map Ac.cs) .no, .bool true, .ptr 1 0, .list (w.map ckc) .no, .int .i64 i]) ([.abs (rkC (rowsC w) (mxI 0 n)), .cells [.ptr 0 0]] ++ G)) ∧
  ∀ (w : List Ck), Q (.exit 0) (envS [0, 1, 4, 5, 6, 7] [.int .i64 n, .list (acs.map Ac.cs) .no, .bool false, .ptr 1 0, .list (w.map ckc) .no, .int .i64 acs.length]) [.abs (rkC (rowsC w) (mxI 0 n)), .cells [.ptr 0 0]]
theorem runs_l_ok : ∀ e H Q, runs_l e H Q → AW Try.prog gl Try.f5.ntmps (.loop (subOf [1, 1, 1, 1, 1, 0, 1, 0] (bodyOf Try.f5))) Q e H := by
  rintro e H Q ⟨n, acs, hn, hl, hok, he, hH, hQ1, hQ⟩
  have he : List.map e [0, 1, 4, 5, 6, 7] = _ := he
  have hm0 : 0 ≤ mxI 0 n ∧ mxI 0 n ≤ 20 := by unfold mxI; split <;> omega
  refine AW.wkin (slots := [0, 1, 4, 5, 6, 7]) (vs := [.int .i64 n, .list (acs.map Ac.cs) .no, .bool false, .ptr 1 0, .list [] .no, .int .i64 0]) (by rw [he]; exact .cons (.refl _) (.cons (.refl _) (.cons (.refl _) (.cons (.refl _) (.cons (.list _ _) (.cons (.refl _) .nil)))))) ?_
  refine aw_loop4 (hn := fun o => match o.dst with | some 80 => 5 | some 89 => 5 | _ => 0) gl_low TL0_ok (.nil _ _ _ _ _) (σ := Nat × List Ck) [0, 1, 4, 5, 6, 7] (fun s => s.1 ≤ acs.length ∧ RO s.2 (mxI 0 n))
    (fun s => [.int .i64 n, .list (acs.map Ac.cs) .no, .bool false, .ptr 1 0, .list (s.2.map ckc) .no, .int .i64 s.1]) (fun s => [.abs (rkC (rowsC s.2) (mxI 0 n)), .cells [.ptr 0 0]]) (fun s => acs.length - s.1) (0, []) ⟨Nat.zero_le _, .nil hm0.1 (by omega)⟩ rfl hH ?_
  rintro ⟨i, w⟩ ⟨hi, ro⟩
  have hi : i ≤ acs.length := hi
  have ro : RO w (mxI 0 n) := ro
  refine runs_vc w (mxI 0 n) n acs i _ ?_
  simp only [br_if, dt, List.length_map, inL_ac, toNat_nat]
  by_cases h : i < acs.length
  · rw [if_pos (by omega)]
    simp only [getD_map default h]
    refine ⟨h, ?_⟩
    rw [if_pos (by rfl)]
    obtain ⟨a, ha⟩ : ∃ a, a = acs.getD i default := ⟨_, rfl⟩
    have haok : a.ok := hok a (by rw [ha]; exact getD_mem h)
    have c0 : cI a.cs 0 = a.d := rfl
    have c1 : cI a.cs 1 = a.id := rfl
    have c2 : cI a.cs 2 = a.p := rfl
    have c3 : cL a.cs 3 = a.pl.map u1 := rfl
    have c4 : cI a.cs 4 = a.un := rfl
    have c5 : cT a.cs 3 = .no := rfl
    simp only [← ha, c0, c1, c2, c3, c4, c5, List.length_map]
    by_cases hp : a.pl.length > 12
    · rw [if_pos (by omega)]
      exact hQ1 w i [_]
    · rw [if_neg (by omega)]
      have ro2 := ro.do a
      have hsm := ro2.getsm
      have hlen := ro2.len
      refine ⟨w, mxI 0 n, a, .no, rfl, rfl, ro, by omega, haok, by omega, 1, 0, doS w (mxI 0 n) a, mxI 0 n, a.id, rfl, ⟨rfl, rfl⟩, ro2, doS w (mxI 0 n) a, .no, a.id, rfl, hlen, ?_⟩
      rw [if_pos (by simp)]
      refine ⟨getG Ck.id (doS w (mxI 0 n) a) a.id, .no, .no, .no, .no, rfl, hsm _, 1, 0, doS w (mxI 0 n) a, mxI 0 n, a.p, rfl, ⟨rfl, rfl⟩, ro2, doS w (mxI 0 n) a, .no, a.p, rfl, ro2.sml (by omega), ?_⟩
      rw [if_pos (by simp)]
      refine ⟨1, 0, doS w (mxI 0 n) a, mxI 0 n, rfl, ⟨rfl, rfl⟩, ro2, doS w (mxI 0 n) a, .no, rfl, hlen, (doS w (mxI 0 n) a).map Ck.id, (doS w (mxI 0 n) a).map Ck.id, .no, .no, rfl, by simpa using hlen, ?_⟩
      rw [if_neg (by simp)]
      exact ⟨(i + 1, doS w (mxI 0 n) a), (show acs.length - (i + 1) < acs.length - i by omega), ⟨h, ro2⟩, by rw [wI_succ h (by omega)], [_, _, _], rfl, Nat.le_refl _, .inr ⟨runs_low n acs _ _, runs_hlow _⟩⟩
  · rw [if_neg (by omega)]
    have : i = acs.length := by omega
    subst this
    exact hQ w
def TKr : Tab := (15, .pure awk_s) :: TL0
theorem TKr_ok : TabOk Try.prog gl TKr := .cons awk_ok TL0_ok
theorem runs1_red (n : Int) (acs : List Ac) (K : PV → Prop) : (br (decide (n > 20) == false) (br (decide ((↑(List.length (List.map Ac.cs acs)) : Int) > 60)) (K (PV.bool true)) (∃ (n_1 : Int), SlIs [PV.int IntKind.i64 n] [PV.int IntKind.i64 n_1] ∧ ∃ (n_2 : Int), ∃ (acs_1 : List Ac), n_2 ≤ 20 ∧ List.length acs_1 ≤ 60 ∧ (∀ (a : Ac), a ∈ acs_1 → Ac.ok a) ∧ SlIs [PV.int IntKind.i64 n, PV.list (List.map Ac.cs acs) Tail.no, PV.bool false, PV.ptr 1 0, PV.list [] Tail.exact, PV.int IntKind.i64 0] [PV.int IntKind.i64 n_2, PV.list (List.map Ac.cs acs_1) Tail.no, PV.bool false, PV.ptr 1 0, PV.list [] Tail.exact, PV.int IntKind.i64 0] ∧ HpIs [Ob.abs (rkC [] (mxI 0 n_1)), Ob.cells [PV.ptr 0 0]] [Ob.abs (rkC [] (mxI 0 n_2)), Ob.cells [PV.ptr 0 0]] ∧ (∀ (_ : List Ck), ∀ (_ : Nat), ∀ (_ : List Ob), K (PV.bool true)) ∧ ∀ (_ : List Ck), SlIs [] [] ∧ K (PV.bool true))) (K (PV.bool true))) = wpc br Try.prog gl TKr [([1, 1, 1, 1, 1, 0, 1, 0], runs_l)] (fun _ => 0) (bodyOf Try.f5) [] (env0 [.int .i64 n, .list (acs.map Ac.cs) .no]) [] (resQ Try.prog Try.f5.results.toList (fun x _ => K x)) := by kernel_rfl
theorem runs1_vc (n : Int) (acs : List Ac)  (K : PV → Prop) (h : br (decide (n > 20) == false) (br (decide ((↑(List.length (List.map Ac.cs acs)) : Int) > 60)) (K (PV.bool true)) (∃ (n_1 : Int), SlIs [PV.int IntKind.i64 n] [PV.int IntKind.i64 n_1] ∧ ∃ (n_2 : Int), ∃ (acs_1 : List Ac), n_2 ≤ 20 ∧ List.length acs_1 ≤ 60 ∧ (∀ (a : Ac), a ∈ acs_1 → Ac.ok a) ∧ SlIs [PV.int IntKind.i64 n, PV.list (List.map Ac.cs acs) Tail.no, PV.bool false, PV.ptr 1 0, PV.list [] Tail.exact, PV.int IntKind.i64 0] [PV.int IntKind.i64 n_2, PV.list (List.map Ac.cs acs_1) Tail.no, PV.bool false, PV.ptr 1 0, PV.list [] Tail.exact, PV.int IntKind.i64 0] ∧ HpIs [Ob.abs (rkC [] (mxI 0 n_1)), Ob.cells [PV.ptr 0 0]] [Ob.abs (rkC [] (mxI 0 n_2)), Ob.cells [PV.ptr 0 0]] ∧ (∀ (_ : List Ck), ∀ (_ : Nat), ∀ (_ : List Ob), K (PV.bool true)) ∧ ∀ (_ : List Ck), SlIs [] [] ∧ K (PV.bool true))) (K (PV.bool true))) : ACalls Try.prog gl 5 [.int .i64 n, .list (acs.map Ac.cs) .no] [] (fun x _ => K x) :=
  acalls_of_wpc2 (T := TKr) (L := [([1, 1, 1, 1, 1, 0, 1, 0], runs_l)]) (fun _ => 0) Try.func5 (by kernel_rfl) (by kernel_rfl) (by kernel_rfl) (TKr_ok) (.cons (sub_of (by kernel_rfl)) runs_l_ok (.nil _ _ _ _ _)) (holds_of_eq (runs1_red n acs K) h)
theorem runs_law (n : Int) (acs : List Ac) (hok : ∀ a ∈ acs, a.ok) : ACalls Try.prog gl 5 [.int .i64 n, .list (acs.map Ac.cs) .no] [] (fun x _ => x = .bool true) := by
  refine runs1_vc n acs _ ?_
  simp only [br_if, bf, List.length_map]
  by_cases c : n ≤ 20
  · rw [if_pos (by simp; omega)]
    by_cases c2 : acs.length ≤ 60
    · rw [if_neg (by simp; omega)]
      exact ⟨n, rfl, n, acs, c, c2, hok, rfl, rfl, fun _ _ _ => trivial, fun _ => ⟨rfl, trivial⟩⟩
    · rw [if_pos (by simp; omega)]; trivial
  · rw [if_neg (by simp; omega)]; trivial
#print axioms runs_law
set_option maxRecDepth 10000
theorem u2 : Try.prog.underlying 2 = some (.int .i64) := by kernel_rfl
theorem u3 : Try.prog.underlying 3 = some (.int .i64) := by kernel_rfl
theorem u5 : Try.prog.underlying 5 = some (.int .u8) := by kernel_rfl
theorem u24 : Try.prog.underlying 24 = some (.int .u32) := by kernel_rfl
theorem u23 : Try.prog.underlying 23 = some (.slice 24) := by kernel_rfl
theorem u22 : Try.prog.underlying 22 = some (.slice 5) := by kernel_rfl
theorem u45 : Try.prog.underlying 45 = some (.slice 39) := by kernel_rfl
theorem s39 : ∃ fs, Try.prog.underlying 39 = some (.struct fs) ∧ fs.toList.map (·.type) = [5, 24, 24, 23, 2] := ⟨_, Try.underlying39, rfl⟩
theorem acf_of {k : Nat} {cs : List PV} (g : WFs (WTp Try.prog (k + 1 + 1)) [5, 24, 24, 23, 2] cs) : ∃ a : Ac, cs = a.cs ∧ a.ok := by
  obtain ⟨x1, r1, rfl, h1, g⟩ := wfs_cons g
  obtain ⟨x2, r2, rfl, h2, g⟩ := wfs_cons g
  obtain ⟨x3, r3, rfl, h3, g⟩ := wfs_cons g
  obtain ⟨x4, r4, rfl, h4, g⟩ := wfs_cons g
  obtain ⟨x5, r5, rfl, h5, g⟩ := wfs_cons g
  obtain rfl := wfs_nil g
  obtain ⟨a, rfl, _⟩ := wtp_int u5 h1
  obtain ⟨b, rfl, h7, _⟩ := wtp_int u24 h2
  obtain ⟨c, rfl, h8, _⟩ := wtp_int u24 h3
  obtain ⟨es, rfl, _, g4⟩ := wtp_list u23 h4
  obtain ⟨ns, rfl, hns⟩ := wtp_ints u24 g4
  obtain ⟨e, rfl, _⟩ := wtp_int u2 h5
  exact ⟨⟨a, b, c, ns, e⟩, rfl, h7, h8, fun x hx => (hns x hx).1⟩
theorem ac_of {k : Nat} {cs : List PV} (h : WTp Try.prog (k + 1 + 1 + 1) 39 cs) : ∃ a : Ac, cs = a.cs ∧ a.ok := by
  obtain ⟨fs, hs, hf⟩ := s39
  have g := wtp_struct hs h
  rw [hf] at g
  exact acf_of g
theorem runs_args (xs : List PV) (h : WTargs Try.prog 6 Try.f5.params.toList xs) : ACalls Try.prog gl 5 xs [] (fun x _ => x = .bool true) := by
  rw [Try.params5] at h
  obtain ⟨x, r, rfl, h1, y, r2, rfl, h2, h3⟩ := h
  obtain rfl := wtargs_nil h3
  obtain ⟨n, rfl, _⟩ := wta_int u3 h1
  obtain ⟨es, rfl, _, g⟩ := wta_list u45 h2
  obtain ⟨l, rfl, hl⟩ := list_of (f := Ac.cs) fun r hr => ac_of (g r hr)
  exact runs_law n l hl
end Go.Proofs.Ythabdpaipgclpaa
