/-
  Party, with lists of the caller's own.
-/
import Derived.Test.YthabdpaipgclpaaPn
import Derived.Test.YthabdpaipgclpaaA9
import Derived.Test.YthabdpaipgclpaaProg
namespace Go.Proofs.Ythabdpaipgclpaa
open Go Go.AM Go.Proofs
theorem ptA_vc (t : Int) (b : Bool) (c : Pt) (R : List PV → Heap → Prop) (h : ∃ (l : List Int), ∃ (tl : Tail), SlIs [PV.list (en1 IntKind.u32 (Pt.ms c)) Tail.no] [PV.list (List.map u1 l) tl] ∧ List.length l ≤ 1000000 ∧ (List.map u1 l = [] → ∃ (l : List Int), ∃ (tl : Tail), SlIs [PV.list (en1 IntKind.u32 (Pt.iv c)) Tail.no] [PV.list (List.map u1 l) tl] ∧ List.length l ≤ 1000000 ∧ (List.map u1 l = [] → R [PV.int IntKind.u32 t, PV.ptr 0 0, PV.bool false, PV.ptr 1 0, PV.bool b] [Ob.cells [PV.int IntKind.u32 0, PV.int IntKind.u32 0, PV.list [] Tail.exact, PV.list [] Tail.exact], Ob.cells [PV.int IntKind.u32 (Pt.id c), PV.int IntKind.u32 (Pt.ld c), PV.list [] Tail.exact, PV.list [] Tail.exact]]) ∧ (List.map u1 l ≠ [] → R [PV.int IntKind.u32 t, PV.ptr 0 0, PV.bool false, PV.ptr 1 0, PV.bool b] [Ob.cells [PV.int IntKind.u32 0, PV.int IntKind.u32 0, PV.list [] Tail.exact, PV.list [] Tail.exact], Ob.cells [PV.int IntKind.u32 (Pt.id c), PV.int IntKind.u32 (Pt.ld c), PV.list [] Tail.exact, PV.list (List.map u1 l) (Tail.tok 2)], Ob.tok])) ∧ (List.map u1 l ≠ [] → ∃ (l_1 : List Int), ∃ (tl : Tail), SlIs [PV.list (en1 IntKind.u32 (Pt.iv c)) Tail.no] [PV.list (List.map u1 l_1) tl] ∧ List.length l_1 ≤ 1000000 ∧ (List.map u1 l_1 = [] → R [PV.int IntKind.u32 t, PV.ptr 0 0, PV.bool false, PV.ptr 1 0, PV.bool b] [Ob.cells [PV.int IntKind.u32 0, PV.int IntKind.u32 0, PV.list [] Tail.exact, PV.list [] Tail.exact], Ob.cells [PV.int IntKind.u32 (Pt.id c), PV.int IntKind.u32 (Pt.ld c), PV.list (List.map u1 l) (Tail.tok 2), PV.list [] Tail.exact], Ob.tok]) ∧ (List.map u1 l_1 ≠ [] → R [PV.int IntKind.u32 t, PV.ptr 0 0, PV.bool false, PV.ptr 1 0, PV.bool b] [Ob.cells [PV.int IntKind.u32 0, PV.int IntKind.u32 0, PV.list [] Tail.exact, PV.list [] Tail.exact], Ob.cells [PV.int IntKind.u32 (Pt.id c), PV.int IntKind.u32 (Pt.ld c), PV.list (List.map u1 l) (Tail.tok 2), PV.list (List.map u1 l_1) (Tail.tok 3)], Ob.tok, Ob.tok]))) : Holds (regc br Try.prog gl TOP (fun o => match o.dst with | some 23 => 6 | some 26 => 6 | some 22 => 101201 | some 25 => 101301 | some _ => 0 | none => match o.op with | .store _ (.tmp 27) _ => 101201 | .store _ (.tmp 28) _ => 101301 | _ => 0) true (opsOf (atOf [1, 1, 1, 0] (bodyOf Try.f32))) (inOrder (opsOf (atOf [1, 1, 1, 0] (bodyOf Try.f32))) [0, 3, 6, 8, 1, 4, 2, 5, 7, 9]) (envS [1, 4, 5, 6, 7] [.int .u32 t, .ptr 0 0, .bool false, .ptr 1 0, .bool b]) [.cells [.int .u32 0, .int .u32 0, .list [] .exact, .list [] .exact], .cells c.cells] (fun e H => R (List.map e [1, 4, 5, 6, 7]) H)) := holds_of_eq (by kernel_rfl) h
theorem ptB_vc (t : Int) (b : Bool) (c : Pt) (R : List PV → Heap → Prop) (h : ∃ (l : List Int), ∃ (tl : Tail), SlIs [PV.list (en1 IntKind.u32 (Pt.ms c)) Tail.no] [PV.list (List.map u1 l) tl] ∧ List.length l ≤ 1000000 ∧ (List.map u1 l = [] → ∃ (l : List Int), ∃ (tl : Tail), SlIs [PV.list (en1 IntKind.u32 (Pt.iv c)) Tail.no] [PV.list (List.map u1 l) tl] ∧ List.length l ≤ 1000000 ∧ (List.map u1 l = [] → R [PV.int IntKind.u32 t, PV.ptr 0 0, PV.bool false, PV.ptr 1 0, PV.bool b] [Ob.cells [PV.int IntKind.u32 0, PV.int IntKind.u32 0, PV.list [] Tail.exact, PV.list [] Tail.exact], Ob.cells [PV.int IntKind.u32 (Pt.id c), PV.int IntKind.u32 (Pt.ld c), PV.list [] Tail.exact, PV.list [] Tail.exact]]) ∧ (List.map u1 l ≠ [] → R [PV.int IntKind.u32 t, PV.ptr 0 0, PV.bool false, PV.ptr 1 0, PV.bool b] [Ob.cells [PV.int IntKind.u32 0, PV.int IntKind.u32 0, PV.list [] Tail.exact, PV.list [] Tail.exact], Ob.cells [PV.int IntKind.u32 (Pt.id c), PV.int IntKind.u32 (Pt.ld c), PV.list [] Tail.exact, PV.list (List.map u1 l) (Tail.tok 2)], Ob.tok])) ∧ (List.map u1 l ≠ [] → ∃ (l_1 : List Int), ∃ (tl : Tail), SlIs [PV.list (en1 IntKind.u32 (Pt.iv c)) Tail.no] [PV.list (List.map u1 l_1) tl] ∧ List.length l_1 ≤ 1000000 ∧ (List.map u1 l_1 = [] → R [PV.int IntKind.u32 t, PV.ptr 0 0, PV.bool false, PV.ptr 1 0, PV.bool b] [Ob.cells [PV.int IntKind.u32 0, PV.int IntKind.u32 0, PV.list [] Tail.exact, PV.list [] Tail.exact], Ob.cells [PV.int IntKind.u32 (Pt.id c), PV.int IntKind.u32 (Pt.ld c), PV.list (List.map u1 l) (Tail.tok 2), PV.list [] Tail.exact], Ob.tok]) ∧ (List.map u1 l_1 ≠ [] → R [PV.int IntKind.u32 t, PV.ptr 0 0, PV.bool false, PV.ptr 1 0, PV.bool b] [Ob.cells [PV.int IntKind.u32 0, PV.int IntKind.u32 0, PV.list [] Tail.exact, PV.list [] Tail.exact], Ob.cells [PV.int IntKind.u32 (Pt.id c), PV.int IntKind.u32 (Pt.ld c), PV.list (List.map u1 l) (Tail.tok 2), PV.list (List.map u1 l_1) (Tail.tok 3)], Ob.tok, Ob.tok]))) : Holds (regc br Try.prog gl TOP (fun o => match o.dst with | some 23 => 6 | some 26 => 6 | some 22 => 101201 | some 25 => 101301 | some _ => 0 | none => match o.op with | .store _ (.tmp 27) _ => 101201 | .store _ (.tmp 28) _ => 101301 | _ => 0) true (opsOf (atOf [1, 1, 1, 0] (bodyOf Try.f32))) (inOrder (opsOf (atOf [1, 1, 1, 0] (bodyOf Try.f32))) [0, 3, 6, 8, 1, 4, 2, 7, 5, 9]) (envS [1, 4, 5, 6, 7] [.int .u32 t, .ptr 0 0, .bool false, .ptr 1 0, .bool b]) [.cells [.int .u32 0, .int .u32 0, .list [] .exact, .list [] .exact], .cells c.cells] (fun e H => R (List.map e [1, 4, 5, 6, 7]) H)) := holds_of_eq (by kernel_rfl) h
def RowC (cs : List PV) (off : Nat) (ns : List Int) : Prop := ∃ A B : List PV, (∀ x ∈ A, x = .any) ∧ (∀ x ∈ B, x = .any) ∧ A.length = off ∧ cs = A ++ (ns.map (PV.int .u32) ++ B)
theorem RowC.low {cs : List PV} {off : Nat} {ns : List Int} (h : RowC cs off ns) : ∀ x ∈ cs, Low 0 x := by
  obtain ⟨A, B, h1, h2, _, rfl⟩ := h
  intro x hx
  rcases List.mem_append.1 hx with hx | hx
  · rw [h1 x hx]; exact .any
  · rcases List.mem_append.1 hx with hx | hx
    · exact low_ints .u32 ns x hx
    · rw [h2 x hx]; exact .any
theorem RowC.sf {cs : List PV} {off : Nat} {ns : List Int} (h : RowC cs off ns) (o : Nat) (H : Heap) : SfL o H cs cs := by
  obtain ⟨A, B, h1, h2, _, rfl⟩ := h
  have key : ∀ l : List PV, (∀ x ∈ l, x = .any ∨ ∃ n, x = .int .u32 n) → SfL o H l l := by
    intro l
    induction l with
    | nil => intro _; exact .nil
    | cons a l ih =>
      intro hl
      refine .cons ?_ (ih fun x hx => hl x (by simp [hx]))
      rcases hl a (by simp) with rfl | ⟨n, rfl⟩
      · exact .any _
      · exact .int _ _
  refine key _ fun x hx => ?_
  rcases List.mem_append.1 hx with hx | hx
  · exact .inl (h1 x hx)
  · rcases List.mem_append.1 hx with hx | hx
    · obtain ⟨n, _, rfl⟩ := List.mem_map.1 hx
      exact .inr ⟨n, rfl⟩
    · exact .inl (h2 x hx)
def ptT_l : LSp := fun e H Q => ∃ (R0 : Rep) (t : Int) (b : Bool) (c : Pt), c.Sm ∧ (c.ms = [] → c.iv = []) ∧ SlIs (List.map e [1, 4, 5, 6, 7]) [.int .u32 t, .ptr 2 0, .bool false, .ptr 3 0, .bool b] ∧ HpIs H [.cells [.ptr 1 0], .abs R0, .cells [.int .u32 0, .int .u32 0, .list [] .exact, .list [] .exact], .cells c.cells] ∧
  (c.ms = [] → Q .normal (envS [1, 4, 5, 6, 7] [.int .u32 t, .ptr 2 0, .bool false, .ptr 3 0, .bool b]) [.cells [.ptr 1 0], .abs R0, .cells [.int .u32 0, .int .u32 0, .list [] .exact, .list [] .exact], .cells [.int .u32 c.id, .int .u32 c.ld, .list [] .exact, .list [] .exact]]) ∧
  (c.ms ≠ [] → c.iv = [] → ∀ (off cap : Nat) (cs : List PV), RowC cs off c.ms → c.ms.length ≤ cap → Q .normal (envS [1, 4, 5, 6, 7] [.int .u32 t, .ptr 2 0, .bool false, .ptr 3 0, .bool b]) [.cells [.ptr 1 0], .abs R0, .cells [.int .u32 0, .int .u32 0, .list [] .exact, .list [] .exact], .cells [.int .u32 c.id, .int .u32 c.ld, .arr 4 off c.ms.length cap, .list [] .exact], .cells cs]) ∧
  (c.ms ≠ [] → c.iv ≠ [] → ∀ (off cap off2 cap2 : Nat) (cs cs2 : List PV), RowC cs off c.ms → c.ms.length ≤ cap → RowC cs2 off2 c.iv → c.iv.length ≤ cap2 → Q .normal (envS [1, 4, 5, 6, 7] [.int .u32 t, .ptr 2 0, .bool false, .ptr 3 0, .bool b]) [.cells [.ptr 1 0], .abs R0, .cells [.int .u32 0, .int .u32 0, .list [] .exact, .list [] .exact], .cells [.int .u32 c.id, .int .u32 c.ld, .arr 4 off c.ms.length cap, .arr 5 off2 c.iv.length cap2], .cells cs, .cells cs2])
theorem zc_low {n : Nat} : ∀ x ∈ [PV.int .u32 0, .int .u32 0, .list [] .exact, .list [] .exact], Low n x := low_four (.int _ _) (.int _ _) (low_list NT.exact (by simp)) (low_list NT.exact (by simp))
theorem zc_sf (o : Nat) (H : Heap) : SfL o H [PV.int .u32 0, .int .u32 0, .list [] .exact, .list [] .exact] [.int .u32 0, .int .u32 0, .list [] .exact, .list [] .exact] :=
  .cons (.int _ _) (.cons (.int _ _) (.cons (.nil _ NT.exact) (.cons (.nil _ NT.exact) .nil)))
theorem vl_sf (o : Nat) (H : Heap) (t : Int) (b : Bool) : SfL o H [.int .u32 t, .ptr 0 0, .bool false, .ptr 1 0, .bool b] [.int .u32 t, .ptr 0 0, .bool false, .ptr 1 0, .bool b] := .cons (.int _ _) (.cons (.ptr _ _) (.cons (.bool _) (.cons (.ptr _ _) (.cons (.bool _) .nil))))
theorem en1_ne {l : List Int} (h : l ≠ []) : ¬ l.map u1 = [] := fun e => h (map_u1_nil.1 e)
theorem ptAB (t : Int) (b : Bool) (c : Pt) (h : c.Sm) (hmi : c.ms = [] → c.iv = []) (Q : Ex → Env → Heap → Prop)
    (h0 : c.ms = [] → Q .normal (envS [1, 4, 5, 6, 7] [.int .u32 t, .ptr 0 0, .bool false, .ptr 1 0, .bool b]) [.cells [.int .u32 0, .int .u32 0, .list [] .exact, .list [] .exact], .cells [.int .u32 c.id, .int .u32 c.ld, .list [] .exact, .list [] .exact]])
    (h1 : c.ms ≠ [] → c.iv = [] → Q .normal (envS [1, 4, 5, 6, 7] [.int .u32 t, .ptr 0 0, .bool false, .ptr 1 0, .bool b]) [.cells [.int .u32 0, .int .u32 0, .list [] .exact, .list [] .exact], .cells [.int .u32 c.id, .int .u32 c.ld, .list (c.ms.map u1) (.tok 2), .list [] .exact], .tok])
    (h2 : c.ms ≠ [] → c.iv ≠ [] → Q .normal (envS [1, 4, 5, 6, 7] [.int .u32 t, .ptr 0 0, .bool false, .ptr 1 0, .bool b]) [.cells [.int .u32 0, .int .u32 0, .list [] .exact, .list [] .exact], .cells [.int .u32 c.id, .int .u32 c.ld, .list (c.ms.map u1) (.tok 2), .list (c.iv.map u1) (.tok 3)], .tok, .tok]) : AW Try.prog gl Try.f32.ntmps (atOf [1, 1, 1, 0] (bodyOf Try.f32)) Q (envS [1, 4, 5, 6, 7] [.int .u32 t, .ptr 0 0, .bool false, .ptr 1 0, .bool b]) [.cells [.int .u32 0, .int .u32 0, .list [] .exact, .list [] .exact], .cells c.cells] := by
  refine aw_orders (slots := [1, 4, 5, 6, 7]) (vals := [.int .u32 t, .ptr 0 0, .bool false, .ptr 1 0, .bool b]) (outs := [1, 4, 5, 6, 7]) (hn := fun o => match o.dst with | some 23 => 6 | some 26 => 6 | some 22 => 101201 | some 25 => 101301 | some _ => 0 | none => match o.op with | .store _ (.tmp 27) _ => 101201 | .store _ (.tmp 28) _ => 101301 | _ => 0) TOP_ok 5 7 [0, 3, 6, 8, 1, 4, 2, 5, 7, 9] [0, 3, 6, 8, 1, 4, 2, 7, 5, 9] (by kernel_rfl) (by kernel_rfl) rfl rfl ?_ ?_
  · refine ptA_vc t b c (fun vs H' => Q .normal (envS [1, 4, 5, 6, 7] vs) H') ?_
    exact ⟨c.ms, .no, rfl, h.ms, fun e1 => ⟨c.iv, .no, rfl, h.iv, fun e2 => h0 (map_u1_nil.1 e1), fun e2 => absurd (by rw [hmi (map_u1_nil.1 e1)]; rfl) e2⟩, fun e1 => ⟨c.iv, .no, rfl, h.iv, fun e2 => h1 (fun e => e1 (by rw [e]; rfl)) (map_u1_nil.1 e2), fun e2 => h2 (fun e => e1 (by rw [e]; rfl)) (fun e => e2 (by rw [e]; rfl))⟩⟩
  · refine ptB_vc t b c (fun vs H' => Q .normal (envS [1, 4, 5, 6, 7] vs) H') ?_
    exact ⟨c.ms, .no, rfl, h.ms, fun e1 => ⟨c.iv, .no, rfl, h.iv, fun e2 => h0 (map_u1_nil.1 e1), fun e2 => absurd (by rw [hmi (map_u1_nil.1 e1)]; rfl) e2⟩, fun e1 => ⟨c.iv, .no, rfl, h.iv, fun e2 => h1 (fun e => e1 (by rw [e]; rfl)) (map_u1_nil.1 e2), fun e2 => h2 (fun e => e1 (by rw [e]; rfl)) (fun e => e2 (by rw [e]; rfl))⟩⟩
theorem ptT_l_ok : ∀ e H Q, ptT_l e H Q → AW Try.prog gl Try.f32.ntmps (atOf [1, 1, 1, 0] (bodyOf Try.f32)) Q e H := by
  rintro e H Q ⟨R0, t, b, c, h, hmi, he, hH, hQ0, hQ1, hQ2⟩
  have hH : H = [.cells [.ptr 1 0], .abs R0] ++ [.cells [.int .u32 0, .int .u32 0, .list [] .exact, .list [] .exact], .cells c.cells] := hH
  have he : List.map e [1, 4, 5, 6, 7] = [.int .u32 t, .ptr 2 0, .bool false, .ptr 3 0, .bool b] := he
  subst hH
  have hlow : ∀ (o : Nat) cs, ([.cells [.int .u32 0, .int .u32 0, .list [] .exact, .list [] .exact], .cells c.cells] : Heap)[o]? = some (.cells cs) → ∀ x ∈ cs, Low 0 x := by
    intro o cs ho
    have k1 := (List.getElem?_eq_some_iff.1 ho).1
    simp at k1
    have : o = 0 ∨ o = 1 := by omega
    rcases this with rfl | rfl
    · cases ho; exact zc_low
    · cases ho; exact low_pt c
  refine AW.frame gl_low (ρ := fun o => o + ([.cells [.ptr 1 0], .abs R0] : Heap).length) (X := [.cells [.int .u32 0, .int .u32 0, .list [] .exact, .list [] .exact], .cells c.cells]) (slots := [1, 4, 5, 6, 7]) (outs := [1, 4, 5, 6, 7]) (vals0 := [.int .u32 t, .ptr 0 0, .bool false, .ptr 1 0, .bool b]) (vals := [.int .u32 t, .ptr 2 0, .bool false, .ptr 3 0, .bool b]) (sub_shift hlow) he (.cons (.low (.int _ _)) (.cons (.ptr 0 0 (by simp)) (.cons (.low (.bool _)) (.cons (.ptr 1 0 (by simp)) (.cons (.low (.bool _)) .nil))))) ?_
  have noabs : ∀ (o : Nat) (r : Rep), ([.cells [.int .u32 0, .int .u32 0, .list [] .exact, .list [] .exact], .cells c.cells] : Heap)[o]? ≠ some (.abs r) := by
    intro o r ho
    have k1 := (List.getElem?_eq_some_iff.1 ho).1
    simp at k1
    have : o = 0 ∨ o = 1 := by omega
    rcases this with rfl | rfl <;> cases ho
  have back : ∀ {X' Y' : Heap}, 2 ≤ X'.length → Y'.length = X'.length → (∀ (o : Nat) (a : Ob), X'[o]? = some a → ∃ b, Y'[o]? = some b ∧ RenOb (fun o => o + 2) X'.length a b ∧ (b.alive = true → a.alive = true)) → Q .normal (envS [1, 4, 5, 6, 7] [.int .u32 t, .ptr 2 0, .bool false, .ptr 3 0, .bool b]) ([.cells [.ptr 1 0], .abs R0] ++ Y') →
      ∃ vs H', Behind (fun o => o + ([.cells [.ptr 1 0], .abs R0] : Heap).length) [.cells [.int .u32 0, .int .u32 0, .list [] .exact, .list [] .exact], .cells c.cells] ([.cells [.ptr 1 0], .abs R0] ++ [.cells [.int .u32 0, .int .u32 0, .list [] .exact, .list [] .exact], .cells c.cells] : Heap) X' H' ∧ RenL (ρext (fun o => o + ([.cells [.ptr 1 0], .abs R0] : Heap).length) ([.cells [.int .u32 0, .int .u32 0, .list [] .exact, .list [] .exact], .cells c.cells] : Heap).length ([.cells [.ptr 1 0], .abs R0] ++ [.cells [.int .u32 0, .int .u32 0, .list [] .exact, .list [] .exact], .cells c.cells] : Heap).length) X'.length (List.map (envS [1, 4, 5, 6, 7] [.int .u32 t, .ptr 0 0, .bool false, .ptr 1 0, .bool b]) [1, 4, 5, 6, 7]) vs ∧ Q .normal (envS [1, 4, 5, 6, 7] vs) H' := by
    intro X' Y' hl hy hr hq
    refine ⟨[.int .u32 t, .ptr 2 0, .bool false, .ptr 3 0, .bool b], _, behind_shift (pre := [.cells [.ptr 1 0], .abs R0]) hl hy hr, ?_, hq⟩
    rw [ρext_shift]
    exact .cons (.low (.int _ _)) (.cons (.ptr (ρ := fun o => o + 2) 0 0 (by omega)) (.cons (.low (.bool _)) (.cons (.ptr (ρ := fun o => o + 2) 1 0 (by omega)) (.cons (.low (.bool _)) .nil))))
  by_cases e1 : c.ms = []
  · have e2 := hmi e1
    have hb := back (X' := [.cells [.int .u32 0, .int .u32 0, .list [] .exact, .list [] .exact], .cells [.int .u32 c.id, .int .u32 c.ld, .list [] .exact, .list [] .exact]]) (Y' := [.cells [.int .u32 0, .int .u32 0, .list [] .exact, .list [] .exact], .cells [.int .u32 c.id, .int .u32 c.ld, .list [] .exact, .list [] .exact]]) (by simp) rfl (by
      intro o a ho
      have k1 := (List.getElem?_eq_some_iff.1 ho).1
      simp at k1
      have : o = 0 ∨ o = 1 := by omega
      rcases this with rfl | rfl
      · cases ho; exact ⟨_, rfl, ren_low zc_low, fun _ => rfl⟩
      · cases ho; exact ⟨_, rfl, ren_low (low_four (.int _ _) (.int _ _) (low_list NT.exact (by simp)) (low_list NT.exact (by simp))), fun _ => rfl⟩) (hQ0 e1)
    exact ptAB t b c h hmi _ (fun _ => hb) (fun h1 => absurd e1 h1) (fun h1 => absurd e1 h1)

  by_cases e2 : c.iv = []
  · refine AW.thaw [1, 4, 5, 6, 7] noabs ?_
    have th : Thaw 2 1 .u32 c.ms [.int .u32 c.id, .int .u32 c.ld] [.list [] .exact] [.int .u32 c.id, .int .u32 c.ld] [.list [] .exact] [.cells [.int .u32 0, .int .u32 0, .list [] .exact, .list [] .exact], .cells [.int .u32 c.id, .int .u32 c.ld, .list (c.ms.map u1) (.tok 2), .list [] .exact], .tok] :=
      ⟨e1, rfl, rfl, .cons (.int _ _) (.cons (.int _ _) .nil), .cons (.nil _ NT.exact) .nil⟩
    have fin : ∀ (off cap : Nat) (A B : List PV), (∀ x ∈ A, x = .any) → (∀ x ∈ B, x = .any) → A.length = off → c.ms.length ≤ cap → ∃ vs H2, SfL 2 [.cells [.int .u32 0, .int .u32 0, .list [] .exact, .list [] .exact], .cells [.int .u32 c.id, .int .u32 c.ld, .list (c.ms.map u1) (.tok 2), .list [] .exact], .tok] (List.map (envS [1, 4, 5, 6, 7] [.int .u32 t, .ptr 0 0, .bool false, .ptr 1 0, .bool b]) [1, 4, 5, 6, 7]) vs ∧ Thawed 2 1 [.cells [.int .u32 0, .int .u32 0, .list [] .exact, .list [] .exact], .cells [.int .u32 c.id, .int .u32 c.ld, .list (c.ms.map u1) (.tok 2), .list [] .exact], .tok] H2 ([.int .u32 c.id, .int .u32 c.ld] ++ .arr 2 off c.ms.length cap :: [.list [] .exact]) (A ++ (c.ms.map (PV.int .u32) ++ B)) ∧
        ∃ vs1 H', Behind (fun o => o + ([.cells [.ptr 1 0], .abs R0] : Heap).length) [.cells [.int .u32 0, .int .u32 0, .list [] .exact, .list [] .exact], .cells c.cells] ([.cells [.ptr 1 0], .abs R0] ++ [.cells [.int .u32 0, .int .u32 0, .list [] .exact, .list [] .exact], .cells c.cells] : Heap) H2 H' ∧ RenL (ρext (fun o => o + ([.cells [.ptr 1 0], .abs R0] : Heap).length) ([.cells [.int .u32 0, .int .u32 0, .list [] .exact, .list [] .exact], .cells c.cells] : Heap).length ([.cells [.ptr 1 0], .abs R0] ++ [.cells [.int .u32 0, .int .u32 0, .list [] .exact, .list [] .exact], .cells c.cells] : Heap).length) H2.length (List.map (envS [1, 4, 5, 6, 7] vs) [1, 4, 5, 6, 7]) vs1 ∧ Q .normal (envS [1, 4, 5, 6, 7] vs1) H' := by
      intro off cap A B hA hB hoff hcap
      have hrow : RowC (A ++ (c.ms.map (PV.int .u32) ++ B)) off c.ms := ⟨A, B, hA, hB, hoff, rfl⟩
      refine ⟨[.int .u32 t, .ptr 0 0, .bool false, .ptr 1 0, .bool b], [.cells [.int .u32 0, .int .u32 0, .list [] .exact, .list [] .exact], .cells [.int .u32 c.id, .int .u32 c.ld, .arr 2 off c.ms.length cap, .list [] .exact], .cells (A ++ (c.ms.map (PV.int .u32) ++ B))], vl_sf _ _ t b, ⟨rfl, rfl, rfl, fun i ob h1 h2 hb => ?_⟩, back (Y' := [.cells [.int .u32 0, .int .u32 0, .list [] .exact, .list [] .exact], .cells [.int .u32 c.id, .int .u32 c.ld, .arr 4 off c.ms.length cap, .list [] .exact], .cells (A ++ (c.ms.map (PV.int .u32) ++ B))]) (by simp) rfl (by
        intro o a ho
        have k1 := (List.getElem?_eq_some_iff.1 ho).1
        simp at k1
        have : o = 0 ∨ o = 1 ∨ o = 2 := by omega
        rcases this with rfl | rfl | rfl
        · cases ho; exact ⟨_, rfl, ren_low zc_low, fun _ => rfl⟩
        · cases ho
          exact ⟨_, rfl, .cells (.cons (.low (.int _ _)) (.cons (.low (.int _ _)) (.cons (.arr (ρ := fun o => o + 2) 2 off c.ms.length cap (by simp)) (.cons (.low (low_list NT.exact (by simp))) .nil)))), fun _ => rfl⟩
        · cases ho; exact ⟨_, rfl, ren_low hrow.low, fun _ => rfl⟩) (hQ1 e1 e2 off cap _ hrow hcap)⟩
      have k1 := (List.getElem?_eq_some_iff.1 hb).1
      simp at k1
      have : i = 0 := by omega
      subst this
      cases hb
      exact .inr (.inr ⟨_, _, rfl, rfl, zc_sf _ _⟩)
    have keep : ∀ q, q < ([.cells [.int .u32 0, .int .u32 0, .list [] .exact, .list [] .exact], .cells c.cells] : Heap).length → ∃ cs, ([.cells [.int .u32 0, .int .u32 0, .list [] .exact, .list [] .exact], .cells [.int .u32 c.id, .int .u32 c.ld, .list (c.ms.map u1) (.tok 2), .list [] .exact], .tok] : Heap)[q]? = some (.cells cs) := by
      intro q hq
      simp at hq
      have : q = 0 ∨ q = 1 := by omega
      rcases this with rfl | rfl <;> exact ⟨_, rfl⟩
    exact ptAB t b c h hmi _ (fun h1 => absurd h1 e1) (fun _ _ => ⟨2, 1, .u32, c.ms, _, _, _, _, th, Nat.le_refl _, keep, fin⟩) (fun _ h2 => absurd e2 h2)

  refine AW.thaw [1, 4, 5, 6, 7] noabs (AW.thaw [1, 4, 5, 6, 7] noabs ?_)
  have th : Thaw 3 1 .u32 c.iv [.int .u32 c.id, .int .u32 c.ld, .list (c.ms.map u1) (.tok 2)] [] [.int .u32 c.id, .int .u32 c.ld, .list (c.ms.map u1) (.tok 2)] [] [.cells [.int .u32 0, .int .u32 0, .list [] .exact, .list [] .exact], .cells [.int .u32 c.id, .int .u32 c.ld, .list (c.ms.map u1) (.tok 2), .list (c.iv.map u1) (.tok 3)], .tok, .tok] :=
    ⟨e2, rfl, rfl, .cons (.int _ _) (.cons (.int _ _) (.cons (.tok .u32 c.ms 2 rfl (by decide)) .nil)), .nil⟩
  have th2 : ∀ (off2 cap2 : Nat) (C2 : List PV), Thaw 2 1 .u32 c.ms [.int .u32 c.id, .int .u32 c.ld] [.arr 3 off2 c.iv.length cap2] [.int .u32 c.id, .int .u32 c.ld] [.arr 3 off2 c.iv.length cap2] [.cells [.int .u32 0, .int .u32 0, .list [] .exact, .list [] .exact], .cells [.int .u32 c.id, .int .u32 c.ld, .list (c.ms.map u1) (.tok 2), .arr 3 off2 c.iv.length cap2], .tok, .cells C2] := fun off2 cap2 C2 =>
    ⟨e1, rfl, rfl, .cons (.int _ _) (.cons (.int _ _) .nil), .cons (.arr _ _ _ _) .nil⟩
  have fin : ∀ (off2 cap2 : Nat) (A2 B2 : List PV), (∀ x ∈ A2, x = .any) → (∀ x ∈ B2, x = .any) → A2.length = off2 → c.iv.length ≤ cap2 → ∃ vs H2, SfL 3 [.cells [.int .u32 0, .int .u32 0, .list [] .exact, .list [] .exact], .cells [.int .u32 c.id, .int .u32 c.ld, .list (c.ms.map u1) (.tok 2), .list (c.iv.map u1) (.tok 3)], .tok, .tok] (List.map (envS [1, 4, 5, 6, 7] [.int .u32 t, .ptr 0 0, .bool false, .ptr 1 0, .bool b]) [1, 4, 5, 6, 7]) vs ∧ Thawed 3 1 [.cells [.int .u32 0, .int .u32 0, .list [] .exact, .list [] .exact], .cells [.int .u32 c.id, .int .u32 c.ld, .list (c.ms.map u1) (.tok 2), .list (c.iv.map u1) (.tok 3)], .tok, .tok] H2 ([.int .u32 c.id, .int .u32 c.ld, .list (c.ms.map u1) (.tok 2)] ++ .arr 3 off2 c.iv.length cap2 :: []) (A2 ++ (c.iv.map (PV.int .u32) ++ B2)) ∧
      (fun (ex : Ex) (e' : Env) (H' : Heap) => ∃ (o p : Nat) (k : IntKind) (ns : List Int) (pre post pre2 post2 : List PV), Thaw o p k ns pre post pre2 post2 H' ∧ ([.cells [.int .u32 0, .int .u32 0, .list [] .exact, .list [] .exact], .cells c.cells] : Heap).length ≤ o ∧ (∀ q, q < ([.cells [.int .u32 0, .int .u32 0, .list [] .exact, .list [] .exact], .cells c.cells] : Heap).length → ∃ cs, H'[q]? = some (.cells cs)) ∧
      ∀ (off cap : Nat) (A B : List PV), (∀ x ∈ A, x = .any) → (∀ x ∈ B, x = .any) → A.length = off → ns.length ≤ cap → ∃ vs H2, SfL o H' (List.map e' [1, 4, 5, 6, 7]) vs ∧ Thawed o p H' H2 (pre2 ++ .arr o off ns.length cap :: post2) (A ++ (ns.map (PV.int k) ++ B)) ∧ (fun (ex : Ex) (e' : Env) (X' : Heap) => ∃ vs H', Behind (fun o => o + ([.cells [.ptr 1 0], .abs R0] : Heap).length) [.cells [.int .u32 0, .int .u32 0, .list [] .exact, .list [] .exact], .cells c.cells] ([.cells [.ptr 1 0], .abs R0] ++ [.cells [.int .u32 0, .int .u32 0, .list [] .exact, .list [] .exact], .cells c.cells] : Heap) X' H' ∧ RenL (ρext (fun o => o + ([.cells [.ptr 1 0], .abs R0] : Heap).length) ([.cells [.int .u32 0, .int .u32 0, .list [] .exact, .list [] .exact], .cells c.cells] : Heap).length ([.cells [.ptr 1 0], .abs R0] ++ [.cells [.int .u32 0, .int .u32 0, .list [] .exact, .list [] .exact], .cells c.cells] : Heap).length) X'.length (List.map e' [1, 4, 5, 6, 7]) vs ∧ Q ex (envS [1, 4, 5, 6, 7] vs) H') ex (envS [1, 4, 5, 6, 7] vs) H2) .normal (envS [1, 4, 5, 6, 7] vs) H2 := by
    intro off2 cap2 A2 B2 hA2 hB2 hoff2 hcap2
    have hrow2 : RowC (A2 ++ (c.iv.map (PV.int .u32) ++ B2)) off2 c.iv := ⟨A2, B2, hA2, hB2, hoff2, rfl⟩
    refine ⟨[.int .u32 t, .ptr 0 0, .bool false, .ptr 1 0, .bool b], [.cells [.int .u32 0, .int .u32 0, .list [] .exact, .list [] .exact], .cells [.int .u32 c.id, .int .u32 c.ld, .list (c.ms.map u1) (.tok 2), .arr 3 off2 c.iv.length cap2], .tok, .cells (A2 ++ (c.iv.map (PV.int .u32) ++ B2))], vl_sf _ _ t b, ⟨rfl, rfl, rfl, fun i ob h1 h2 hb => ?_⟩, 2, 1, .u32, c.ms, _, _, _, _, th2 _ _ _, Nat.le_refl _, fun q hq => ?_, fun off cap A B hA hB hoff hcap => ?_⟩
    · have k1 := (List.getElem?_eq_some_iff.1 hb).1
      simp at k1
      have : i = 0 ∨ i = 2 := by omega
      rcases this with rfl | rfl
      · cases hb
        exact .inr (.inr ⟨_, _, rfl, rfl, zc_sf _ _⟩)
      · cases hb
        exact .inr (.inl ⟨rfl, rfl⟩)
    · simp at hq
      have : q = 0 ∨ q = 1 := by omega
      rcases this with rfl | rfl <;> exact ⟨_, rfl⟩
    · have hrow : RowC (A ++ (c.ms.map (PV.int .u32) ++ B)) off c.ms := ⟨A, B, hA, hB, hoff, rfl⟩
      refine ⟨[.int .u32 t, .ptr 0 0, .bool false, .ptr 1 0, .bool b], [.cells [.int .u32 0, .int .u32 0, .list [] .exact, .list [] .exact], .cells [.int .u32 c.id, .int .u32 c.ld, .arr 2 off c.ms.length cap, .arr 3 off2 c.iv.length cap2], .cells (A ++ (c.ms.map (PV.int .u32) ++ B)), .cells (A2 ++ (c.iv.map (PV.int .u32) ++ B2))], vl_sf _ _ t b, ⟨rfl, rfl, rfl, fun i ob h1 h2 hb => ?_⟩, back (Y' := [.cells [.int .u32 0, .int .u32 0, .list [] .exact, .list [] .exact], .cells [.int .u32 c.id, .int .u32 c.ld, .arr 4 off c.ms.length cap, .arr 5 off2 c.iv.length cap2], .cells (A ++ (c.ms.map (PV.int .u32) ++ B)), .cells (A2 ++ (c.iv.map (PV.int .u32) ++ B2))]) (by simp) rfl (by
        intro o a ho
        have k1 := (List.getElem?_eq_some_iff.1 ho).1
        simp at k1
        have : o = 0 ∨ o = 1 ∨ o = 2 ∨ o = 3 := by omega
        rcases this with rfl | rfl | rfl | rfl
        · cases ho; exact ⟨_, rfl, ren_low zc_low, fun _ => rfl⟩
        · cases ho
          exact ⟨_, rfl, .cells (.cons (.low (.int _ _)) (.cons (.low (.int _ _)) (.cons (.arr (ρ := fun o => o + 2) 2 off c.ms.length cap (by simp)) (.cons (.arr (ρ := fun o => o + 2) 3 off2 c.iv.length cap2 (by simp)) .nil)))), fun _ => rfl⟩
        · cases ho; exact ⟨_, rfl, ren_low hrow.low, fun _ => rfl⟩
        · cases ho; exact ⟨_, rfl, ren_low hrow2.low, fun _ => rfl⟩) (hQ2 e1 e2 off cap off2 cap2 _ _ hrow hcap hrow2 hcap2)⟩
      have k1 := (List.getElem?_eq_some_iff.1 hb).1
      simp at k1
      have : i = 0 ∨ i = 3 := by omega
      rcases this with rfl | rfl
      · cases hb
        exact .inr (.inr ⟨_, _, rfl, rfl, zc_sf _ _⟩)
      · cases hb
        exact .inr (.inr ⟨_, _, rfl, rfl, hrow2.sf _ _⟩)
  have keep : ∀ q, q < ([.cells [.int .u32 0, .int .u32 0, .list [] .exact, .list [] .exact], .cells c.cells] : Heap).length → ∃ cs, ([.cells [.int .u32 0, .int .u32 0, .list [] .exact, .list [] .exact], .cells [.int .u32 c.id, .int .u32 c.ld, .list (c.ms.map u1) (.tok 2), .list (c.iv.map u1) (.tok 3)], .tok, .tok] : Heap)[q]? = some (.cells cs) := by
    intro q hq
    simp at hq
    have : q = 0 ∨ q = 1 := by omega
    rcases this with rfl | rfl <;> exact ⟨_, rfl⟩
  exact ptAB t b c h hmi _ (fun h1 => absurd h1 e1) (fun _ h2 => absurd h2 e2) (fun _ _ => ⟨3, 1, .u32, c.iv, _, _, _, _, th, by simp, keep, fin⟩)
end Go.Proofs.Ythabdpaipgclpaa
