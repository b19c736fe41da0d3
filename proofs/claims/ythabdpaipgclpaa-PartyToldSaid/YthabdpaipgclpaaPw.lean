/-
  Party, amid other objects.
-/
import Derived.Test.YthabdpaipgclpaaPv
import Derived.Test.YthabdpaipgclpaaA9
import Derived.Test.YthabdpaipgclpaaProg
namespace Go.Proofs.Ythabdpaipgclpaa
open Go Go.AM Go.Proofs
theorem ptyT1_vc (w : List Pt) (m t : Int)  (K : PV → Heap → Prop) (h : ∃ (q : Nat), ∃ (l : List RwP), ∃ (most : Int), ∃ (t_1 : Int), SlIs [PV.ptr 1 0, PV.int IntKind.u32 t] [PV.ptr q 0, PV.int IntKind.u32 t_1] ∧ AbIs [Ob.cells [PV.ptr 1 0], Ob.abs (rkP (rowsP w) m), Ob.cells [PV.int IntKind.u32 0, PV.int IntKind.u32 0, PV.list [] Tail.exact, PV.list [] Tail.exact]] q (rkP l most) ∧ Ok l most ∧ ∃ (R0 : Rep), ∃ (t_2 : Int), ∃ (b : Bool), ∃ (c : Pt), Pt.Sm c ∧ (Pt.ms c = [] → Pt.iv c = []) ∧ SlIs [PV.int IntKind.u32 t, PV.ptr 2 0, PV.bool false, PV.ptr 3 0, PV.bool (has l t_1)] [PV.int IntKind.u32 t_2, PV.ptr 2 0, PV.bool false, PV.ptr 3 0, PV.bool b] ∧ HpIs [Ob.cells [PV.ptr 1 0], Ob.abs (rkP (rowsP w) m), Ob.cells [PV.int IntKind.u32 0, PV.int IntKind.u32 0, PV.list [] Tail.exact, PV.list [] Tail.exact], Ob.cells [PV.int IntKind.u32 (Pt.id (getR l t_1)), PV.int IntKind.u32 (Pt.ld (getR l t_1)), PV.list (en1 IntKind.u32 (Pt.ms (getR l t_1))) Tail.no, PV.list (en1 IntKind.u32 (Pt.iv (getR l t_1))) Tail.no]] [Ob.cells [PV.ptr 1 0], Ob.abs R0, Ob.cells [PV.int IntKind.u32 0, PV.int IntKind.u32 0, PV.list [] Tail.exact, PV.list [] Tail.exact], Ob.cells [PV.int IntKind.u32 (Pt.id c), PV.int IntKind.u32 (Pt.ld c), PV.list (en1 IntKind.u32 (Pt.ms c)) Tail.no, PV.list (en1 IntKind.u32 (Pt.iv c)) Tail.no]] ∧ (Pt.ms c = [] → K (PV.tup [PV.agg [PV.int IntKind.u32 (Pt.id c), PV.int IntKind.u32 (Pt.ld c), PV.list [] Tail.exact, PV.list [] Tail.exact], PV.bool b]) [Ob.cells [PV.ptr 1 0], Ob.abs R0, Ob.cells [PV.int IntKind.u32 (Pt.id c), PV.int IntKind.u32 (Pt.ld c), PV.list [] Tail.exact, PV.list [] Tail.exact], Ob.cells [PV.int IntKind.u32 (Pt.id c), PV.int IntKind.u32 (Pt.ld c), PV.list [] Tail.exact, PV.list [] Tail.exact]]) ∧ (Pt.ms c ≠ [] → Pt.iv c = [] → ∀ (off cap : Nat), ∀ (cs : List PV), RowC cs off (Pt.ms c) → List.length (Pt.ms c) ≤ cap → K (PV.tup [PV.agg [PV.int IntKind.u32 (Pt.id c), PV.int IntKind.u32 (Pt.ld c), PV.arr 4 off (List.length (Pt.ms c)) cap, PV.list [] Tail.exact], PV.bool b]) [Ob.cells [PV.ptr 1 0], Ob.abs R0, Ob.cells [PV.int IntKind.u32 (Pt.id c), PV.int IntKind.u32 (Pt.ld c), PV.arr 4 off (List.length (Pt.ms c)) cap, PV.list [] Tail.exact], Ob.cells [PV.int IntKind.u32 (Pt.id c), PV.int IntKind.u32 (Pt.ld c), PV.arr 4 off (List.length (Pt.ms c)) cap, PV.list [] Tail.exact], Ob.cells cs]) ∧ (Pt.ms c ≠ [] → Pt.iv c ≠ [] → ∀ (off cap off2 cap2 : Nat), ∀ (cs cs2 : List PV), RowC cs off (Pt.ms c) → List.length (Pt.ms c) ≤ cap → RowC cs2 off2 (Pt.iv c) → List.length (Pt.iv c) ≤ cap2 → K (PV.tup [PV.agg [PV.int IntKind.u32 (Pt.id c), PV.int IntKind.u32 (Pt.ld c), PV.arr 4 off (List.length (Pt.ms c)) cap, PV.arr 5 off2 (List.length (Pt.iv c)) cap2], PV.bool b]) [Ob.cells [PV.ptr 1 0], Ob.abs R0, Ob.cells [PV.int IntKind.u32 (Pt.id c), PV.int IntKind.u32 (Pt.ld c), PV.arr 4 off (List.length (Pt.ms c)) cap, PV.arr 5 off2 (List.length (Pt.iv c)) cap2], Ob.cells [PV.int IntKind.u32 (Pt.id c), PV.int IntKind.u32 (Pt.ld c), PV.arr 4 off (List.length (Pt.ms c)) cap, PV.arr 5 off2 (List.length (Pt.iv c)) cap2], Ob.cells cs, Ob.cells cs2])) : ACalls Try.prog gl 32 [.ptr 0 0, .int .u32 t] [.cells [.ptr 1 0], .abs (rkP (rowsP w) m)] K :=
  acalls_of_wpc2 (T := TP0) (L := [([1, 1, 1, 0], ptT_l)]) (fun o => match o.dst with | some 29 => 1 | _ => 0) Try.func32 (by kernel_rfl) (by kernel_rfl) (by kernel_rfl) (TP0_ok) (.cons (show sub [1, 1, 1, 0] (bodyOf Try.f32) = some (atOf [1, 1, 1, 0] (bodyOf Try.f32)) from by kernel_rfl) ptT_l_ok (.nil _ _ _ _ _)) (holds_of_eq (by kernel_rfl) h)
def RowX (o : Nat) (x : PV) (g : Ob) (ns : List Int) : Prop := (ns = [] ∧ x = .list [] .exact ∧ g = .dead) ∨ (ns ≠ [] ∧ ∃ (off cap : Nat) (cs : List PV), x = .arr o off ns.length cap ∧ g = .cells cs ∧ RowC cs off ns ∧ ns.length ≤ cap)
def ptZ (c : Pt) (b : Bool) (x y : PV) : PV := .tup [.agg [.int .u32 c.id, .int .u32 c.ld, x, y], .bool b]
def ptyT_s (args : List PV) (H : Heap) (K : PV → Heap → Prop) : Prop := ∃ (q r : Nat) (w : List Pt) (m t : Int), SlIs args [.ptr q 0, .int .u32 t] ∧ BkIs H q r (rkP (rowsP w) m) ∧ PO w m ∧
  ∀ (x y : PV) (g1 g2 : Ob), RowX H.length x g1 (gP w t).ms → RowX (H.length + 1) y g2 (gP w t).iv → K (.tup [.agg [.int .u32 (gP w t).id, .int .u32 (gP w t).ld, x, y], .bool (hP w t)]) (H ++ [g1, g2])
theorem ptZ_ren (c : Pt) (b : Bool) (ρ : Nat → Nat) (n k k2 off len cap off2 len2 cap2 : Nat) (h1 : k < n) (h2 : k2 < n) : Ren ρ n (ptZ c b (.arr k off len cap) (.arr k2 off2 len2 cap2)) (ptZ c b (.arr (ρ k) off len cap) (.arr (ρ k2) off2 len2 cap2)) := by
  exact Ren.tupL (.cons (Ren.aggL (.cons (.low (.int _ _)) (.cons (.low (.int _ _)) (.cons (.arr _ _ _ _ h1) (.cons (.arr _ _ _ _ h2) .nil))))) (.cons (.low (.bool _)) .nil))
theorem ptZ_ra (c : Pt) (b : Bool) (k k' off len cap : Nat) : RA k k' (ptZ c b (.arr k off len cap) (.list [] .exact)) (ptZ c b (.arr k' off len cap) (.list [] .exact)) := by
  refine .tup _ _ rfl fun q x y h1 h2 => ?_
  have k1 := (List.getElem?_eq_some_iff.1 h1).1
  simp at k1
  have : q = 0 ∨ q = 1 := by omega
  rcases this with rfl | rfl
  · cases h1; cases h2
    refine .agg _ _ rfl fun q x y h1 h2 => ?_
    have k1 := (List.getElem?_eq_some_iff.1 h1).1
    simp at k1
    have : q = 0 ∨ q = 1 ∨ q = 2 ∨ q = 3 := by omega
    rcases this with rfl | rfl | rfl | rfl
    · cases h1; cases h2; exact .low (.int _ _)
    · cases h1; cases h2; exact .low (.int _ _)
    · cases h1; cases h2; exact .arr _ _ _
    · cases h1; cases h2; exact .low (low_list NT.exact (by simp))
  · cases h1; cases h2; exact .low (.bool _)
theorem gP_none {w : List Pt} {t : Int} (h : hP w t = false) : gP w t = default := by
  unfold gP getG
  cases e : w.find? (fun x => Pt.id x == t) with
  | none => rfl
  | some x =>
    have h1 := List.mem_of_find?_eq_some e
    have h2 : (Pt.id x == t) = true := List.find?_some (p := fun x => Pt.id x == t) e
    exact absurd (hasG_iff.2 ⟨x, h1, by simpa using h2⟩) (by rw [show hasG Pt.id w t = false from h]; decide)
theorem PO.msiv {w : List Pt} {m : Int} (ro : PO w m) (t : Int) (h : (gP w t).ms = []) : (gP w t).iv = [] := by
  cases e : hP w t with
  | true =>
    have := (ro.into e).ok.n1
    rw [h] at this
    simp at this
  | false => rw [gP_none e]; rfl
theorem ptyT_ok : SpOk Try.prog gl 32 (.heap ptyT_s) := by
  rintro args H K ⟨q, r, w, m, t, he, hb, ro, hk⟩
  have he : args = _ := he
  subst he
  have hset : H.set r (.abs (rkP (rowsP w) m)) = H := set_same hb.2
  have hmi := ro.msiv t
  have hsm := ro.getsm t
  have hsm : (gP w t).Sm := hsm
  unfold gP at hk hmi hsm
  unfold hP at hk
  rw [← rowsOf_has ro.ok] at hk
  rw [← rowsOf_get ro.ok] at hk hmi hsm
  obtain ⟨c, hc⟩ : ∃ c, c = getR (rowsP w) t := ⟨_, rfl⟩
  obtain ⟨b, hbv⟩ : ∃ b, b = has (rowsP w) t := ⟨_, rfl⟩
  have V := fun (K : PV → Heap → Prop) (h : _) => ptyT1_vc w m t K ⟨1, rowsP w, m, t, rfl, rfl, ro.ok, rkP (rowsP w) m, t, has (rowsP w) t, getR (rowsP w) t, hsm, hmi, rfl, rfl, h⟩
  simp only [← hc, ← hbv] at hk hmi hsm V
  by_cases e1 : c.ms = []
  · have e2 := hmi e1
    refine acalls_pad2 (acalls_to (book_read (x0 := ptZ c b (.list [] .exact) (.list [] .exact)) gl_low hb low0_int (.tup _ (low_two (.agg _ (low_four (.int _ _) (.int _ _) (low_list NT.exact (by simp)) (low_list NT.exact (by simp)))) (.bool _))) (V _ ⟨fun _ => ⟨rfl, _, rfl⟩, fun h => absurd e1 h, fun h => absurd e1 h⟩)) fun x H' e => ?_)
    obtain ⟨rfl, rfl⟩ := e
    exact hk _ _ _ _ (.inl ⟨e1, rfl, rfl⟩) (.inl ⟨e2, rfl, rfl⟩)
  · by_cases e2 : c.iv = []
    · refine acalls_pad1 (book_new gl_low (fun x => ptZ c b x (.list [] .exact)) hb low0_int (ptZ_ra c b) (V _ ⟨fun h => absurd h e1, fun _ _ off cap cs hr hcap => ⟨4, off, _, cap, cs, _, _, rfl, rfl, by decide, rfl, hr.low, ?_⟩, fun _ h => absurd e2 h⟩))
      rw [hset, List.append_assoc]
      exact hk _ _ _ _ (.inr ⟨e1, off, cap, cs, rfl, rfl, hr, hcap⟩) (.inl ⟨e2, rfl, rfl⟩)
    · refine book_new2 gl_low (ptZ c b) hb low0_int (ptZ_ren c b) (V _ ⟨fun h => absurd h e1, fun _ h => absurd h e2, fun _ _ off cap off2 cap2 cs cs2 hr hcap hr2 hcap2 => ⟨4, 5, off, _, cap, off2, _, cap2, cs, cs2, _, _, rfl, rfl, by decide, by decide, by decide, rfl, rfl, hr.low, hr2.low, ?_⟩⟩)
      rw [hset]
      exact hk _ _ _ _ (.inr ⟨e1, off, cap, cs, rfl, rfl, hr, hcap⟩) (.inr ⟨e2, off2, cap2, cs2, rfl, rfl, hr2, hcap2⟩)
#print axioms ptyT_ok
end Go.Proofs.Ythabdpaipgclpaa
