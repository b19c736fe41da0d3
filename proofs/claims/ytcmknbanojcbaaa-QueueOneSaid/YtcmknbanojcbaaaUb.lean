/-
  Queues: Get, Of, Mode, doubled, at their objects.
-/
import Derived.Test.YtcmknbanojcbaaaUa
import Derived.Test.YtcmknbanojcbaaaProg
namespace Go.Proofs.Ytcmknbanojcbaaa
open Go Go.AM Go.Proofs
structure Sml (l : List Tk) : Prop where
  len : l.length ≤ 1000000
  pl : ∀ t ∈ l, t.pl.length ≤ 1000000
theorem Sml.nil : Sml [] := ⟨(show (0 : Nat) ≤ 1000000 by decide), fun _ h => nomatch h⟩
def hasQ (l : List Tk) (c : Int) : Bool := decide (l.findIdx (byId c) < l.length)
def getQ (l : List Tk) (c : Int) : Tk := l.getD (l.findIdx (byId c)) default
def ofQ (l : List Tk) (c : Int) : Int := if l.findIdx (byPl c) < l.length then (l.getD (l.findIdx (byPl c)) default).id else 0
def modeL (l : List Tk) (m : Int) : List Tk := l.filter fun t => t.md == m
def dblB (l : List Tk) (pl : List Int) (k : Nat) : Bool := memB (pl.take k) (pl.getD k 0) || ofQ l (pl.getD k 0) != 0
def dblQ (l : List Tk) (pl : List Int) : Bool := decide (∃ k, k < pl.length ∧ dblB l pl k = true)
theorem Sml.get {l : List Tk} (h : Sml l) (k : Nat) : (l.getD k default).pl.length ≤ 1000000 := by
  rcases Nat.lt_or_ge k l.length with c | c
  · exact h.pl _ (getD_mem c)
  · rw [List.getD_eq_getElem?_getD, List.getElem?_eq_none c]; exact (show (0 : Nat) ≤ 1000000 by decide)
theorem hpQ_lid {l : List Tk} {J : List PV} {cap : Nat} {sz : List Int} {n : Nat} (hn : 2 ≤ n) (h : ∀ y ∈ J, Low 0 y) : LidH n (hpQ l J cap sz) :=
  lidH_two (fun y hy => by simp only [List.mem_cons, List.not_mem_nil, or_false] at hy; rcases hy with rfl | rfl; exact .arr _ _ _ _ (by omega); exact .low (low_rows low_i1 sz)) (fun y hy => .low (flT_low l h y hy))
theorem hpE_lid {sz : List Int} {n : Nat} : LidH n (hpE sz) :=
  lidH_one (fun y hy => by simp only [List.mem_cons, List.not_mem_nil, or_false] at hy; rcases hy with rfl | rfl; exact .low (low_list NT.exact (fun _ h => nomatch h)); exact .low (low_rows low_i1 sz))
theorem exq_lid {l : List Tk} {sz : List Int} {X : Heap} (h : EXQ l sz X) : LidH X.length X := by
  rcases h with ⟨J, cap, rfl, hc, hJ⟩ | ⟨rfl, rfl⟩
  · exact hpQ_lid (by simp [hpQ]) hJ.low
  · exact hpE_lid
theorem exq_pos {l : List Tk} {sz : List Int} {X : Heap} (h : EXQ l sz X) : 0 < X.length := by
  rcases h with ⟨J, cap, rfl, hc, hJ⟩ | ⟨rfl, rfl⟩ <;> simp [hpQ, hpE]
theorem hpQ_low {l : List Tk} {J : List PV} {cap : Nat} {sz : List Int} (h : ∀ y ∈ J, Low 0 y) : LowH (hpQ l J cap sz) := lowH_of (by
  intro ob ho
  simp only [hpQ, List.mem_cons, List.not_mem_nil, or_false] at ho
  rcases ho with rfl | rfl
  · exact low_two (.arr _ _ _ _ (by simp [hpQ])) (low_rows low_i1 sz)
  · exact flT_low l (fun y hy => (h y hy).up))
theorem lift_read {fn : FuncId} {rest : List PV} {l : List Tk} {sz : List Int} {X Z : Heap} {r : PV} (h : EXQ l sz X) (hrest : ∀ x ∈ rest, Low 0 x) (hr : Low 0 r) (hc : ACalls Try.prog gl fn (.ptr 0 0 :: rest) X (fun x H' => x = r ∧ H' = X)) :
    ACalls Try.prog gl fn (.ptr 0 0 :: rest) (X ++ Z) (fun x H' => x = r ∧ H' = X ++ Z) :=
  read_tail gl_low (by intro y hy; rcases List.mem_cons.1 hy with rfl | hy; exact .ptr _ _ (exq_pos h); exact .low (hrest y hy)) (exq_lid h) hr hc
theorem low_gq (l : List Tk) (c : Int) : Low 0 (.tup [(getQ l c).pv, .bool (hasQ l c)]) := low_tupT _ _
theorem wk_zero : Wk (.tup [.agg [.int .u32 0, .int .i64 0, .list [] .exact, .int .i64 0, .int .i64 0], .bool false]) (.tup [(default : Tk).pv, .bool false]) :=
  .tup (.cons (.agg (.cons (.refl _) (.cons (.refl _) (.cons (.list _ _) (.cons (.refl _) (.cons (.refl _) .nil)))))) (.cons (.refl _) .nil))
theorem getQ_none {l : List Tk} {c : Int} (h : ¬ l.findIdx (byId c) < l.length) : getQ l c = default := by
  unfold getQ; rw [List.getD_eq_getElem?_getD, List.getElem?_eq_none (by omega)]; rfl
def TGE : Tab := [(77, .read atG_s), (76, .pure own_s)]
theorem TGE_ok : TabOk Try.prog gl TGE := .cons atG_ok (.cons own_ok (.nil _ _))
def TGA : Tab := [(77, .read atG_s), (76, .heap ownA_s)]
theorem TGA_ok : TabOk Try.prog gl TGA := .cons atG_ok (.cons ownA_ok (.nil _ _))
def TOE : Tab := [(77, .read atO_s)]
theorem TOE_ok : TabOk Try.prog gl TOE := .cons atO_ok (.nil _ _)
def TME : Tab := [(76, .pure own_s)]
theorem TME_ok : TabOk Try.prog gl TME := .cons own_ok (.nil _ _)
theorem geEA_vc (l : List Tk) (J : List PV) (cap : Nat) (sz : List Int) (c : Int)  (K : PV → Heap → Prop) (h : ∃ (l_1 : List Tk), ∃ (sz_1 : List Int), ∃ (X : Heap), ∃ (Z : Heap), ∃ (b : Nat), ∃ (c_1 : Int), SlIs [PV.ptr 0 0, PV.fn 85 [PV.ptr 2 0]] [PV.ptr 0 0, PV.fn 85 [PV.ptr b 0]] ∧ EXQ l_1 sz_1 X ∧ HpIs [Ob.cells [PV.arr 1 0 (List.length l) cap, PV.list (List.map i1 sz) Tail.no], Ob.cells (flT l ++ J), Ob.cells [PV.int IntKind.u32 c], Ob.cells [PV.int IntKind.u32 0, PV.int IntKind.i64 0, PV.list [] Tail.exact, PV.int IntKind.i64 0, PV.int IntKind.i64 0]] (X ++ Z) ∧ CeIs [Ob.cells [PV.arr 1 0 (List.length l) cap, PV.list (List.map i1 sz) Tail.no], Ob.cells (flT l ++ J), Ob.cells [PV.int IntKind.u32 c], Ob.cells [PV.int IntKind.u32 0, PV.int IntKind.i64 0, PV.list [] Tail.exact, PV.int IntKind.i64 0, PV.int IntKind.i64 0]] b [PV.int IntKind.u32 c_1] ∧ List.length l_1 ≤ 1000000 ∧ (∀ (t : Tk), t ∈ l_1 → List.length (Tk.pl t) ≤ 1000000) ∧ br (decide (ixQ l_1 (byId c_1) < 0)) (K (PV.tup [PV.agg [PV.int IntKind.u32 0, PV.int IntKind.i64 0, PV.list [] Tail.exact, PV.int IntKind.i64 0, PV.int IntKind.i64 0], PV.bool false]) [Ob.cells [PV.arr 1 0 (List.length l) cap, PV.list (List.map i1 sz) Tail.no], Ob.cells (flT l ++ J), Ob.cells [PV.int IntKind.u32 c], Ob.cells [PV.int IntKind.u32 0, PV.int IntKind.i64 0, PV.list [] Tail.exact, PV.int IntKind.i64 0, PV.int IntKind.i64 0]]) ((0 ≤ ixQ l_1 (byId c_1) ∧ ixQ l_1 (byId c_1) < (↑(List.length l) : Int)) ∧ br (true && fitX [CK.int IntKind.u32, CK.int IntKind.i64, CK.list, CK.int IntKind.i64, CK.int IntKind.i64] 0 (List.drop (0 + Int.toNat (ixQ l_1 (byId c_1)) * 5) (flT l ++ J))) (∃ (t : Tk), ∃ (tl : Tail), SlIs [PV.agg [PV.int IntKind.u32 (cI (List.drop (0 + Int.toNat (ixQ l_1 (byId c_1)) * 5) (flT l ++ J)) 0), PV.int IntKind.i64 (cI (List.drop (0 + Int.toNat (ixQ l_1 (byId c_1)) * 5) (flT l ++ J)) 1), PV.list (cL (List.drop (0 + Int.toNat (ixQ l_1 (byId c_1)) * 5) (flT l ++ J)) 2) (cT (List.drop (0 + Int.toNat (ixQ l_1 (byId c_1)) * 5) (flT l ++ J)) 2), PV.int IntKind.i64 (cI (List.drop (0 + Int.toNat (ixQ l_1 (byId c_1)) * 5) (flT l ++ J)) 3), PV.int IntKind.i64 (cI (List.drop (0 + Int.toNat (ixQ l_1 (byId c_1)) * 5) (flT l ++ J)) 4)]] [PV.agg [PV.int IntKind.u32 (Tk.id t), PV.int IntKind.i64 (Tk.md t), PV.list (List.map u1 (Tk.pl t)) tl, PV.int IntKind.i64 (Tk.rt t), PV.int IntKind.i64 (Tk.si t)]] ∧ List.length (Tk.pl t) ≤ 1000000 ∧ K (PV.tup [PV.agg [PV.int IntKind.u32 (Tk.id t), PV.int IntKind.i64 (Tk.md t), PV.list (List.map u1 (Tk.pl t)) Tail.no, PV.int IntKind.i64 (Tk.rt t), PV.int IntKind.i64 (Tk.si t)], PV.bool true]) [Ob.cells [PV.arr 1 0 (List.length l) cap, PV.list (List.map i1 sz) Tail.no], Ob.cells (flT l ++ J), Ob.cells [PV.int IntKind.u32 c], Ob.cells [PV.int IntKind.u32 (Tk.id t), PV.int IntKind.i64 (Tk.md t), PV.list (List.map u1 (Tk.pl t)) Tail.no, PV.int IntKind.i64 (Tk.rt t), PV.int IntKind.i64 (Tk.si t)]]) False)) : ACalls Try.prog gl 55 [.ptr 0 0, .int .u32 c] [.cells [.arr 1 0 l.length cap, .list (sz.map i1) .no], .cells (flT l ++ J)] K :=
  acalls_of_wpc2 (T := TGE) (L := []) (fun o => match o.op with | .load t _ => (match t with | 82 => 1 | _ => 0) | _ => 0) Try.func55 (by kernel_rfl) (by kernel_rfl) (by kernel_rfl) (TGE_ok) (LOk.nil _ _ _ _ _) (holds_of_eq (by kernel_rfl) h)
theorem geAA_vc (l : List Tk) (J : List PV) (cap : Nat) (sz : List Int) (c : Int)  (K : PV → Heap → Prop) (h : ∃ (l_1 : List Tk), ∃ (sz_1 : List Int), ∃ (X : Heap), ∃ (Z : Heap), ∃ (b : Nat), ∃ (c_1 : Int), SlIs [PV.ptr 0 0, PV.fn 85 [PV.ptr 2 0]] [PV.ptr 0 0, PV.fn 85 [PV.ptr b 0]] ∧ EXQ l_1 sz_1 X ∧ HpIs [Ob.cells [PV.arr 1 0 (List.length l) cap, PV.list (List.map i1 sz) Tail.no], Ob.cells (flT l ++ J), Ob.cells [PV.int IntKind.u32 c], Ob.cells [PV.int IntKind.u32 0, PV.int IntKind.i64 0, PV.list [] Tail.exact, PV.int IntKind.i64 0, PV.int IntKind.i64 0]] (X ++ Z) ∧ CeIs [Ob.cells [PV.arr 1 0 (List.length l) cap, PV.list (List.map i1 sz) Tail.no], Ob.cells (flT l ++ J), Ob.cells [PV.int IntKind.u32 c], Ob.cells [PV.int IntKind.u32 0, PV.int IntKind.i64 0, PV.list [] Tail.exact, PV.int IntKind.i64 0, PV.int IntKind.i64 0]] b [PV.int IntKind.u32 c_1] ∧ List.length l_1 ≤ 1000000 ∧ (∀ (t : Tk), t ∈ l_1 → List.length (Tk.pl t) ≤ 1000000) ∧ br (decide (ixQ l_1 (byId c_1) < 0)) (K (PV.tup [PV.agg [PV.int IntKind.u32 0, PV.int IntKind.i64 0, PV.list [] Tail.exact, PV.int IntKind.i64 0, PV.int IntKind.i64 0], PV.bool false]) [Ob.cells [PV.arr 1 0 (List.length l) cap, PV.list (List.map i1 sz) Tail.no], Ob.cells (flT l ++ J), Ob.cells [PV.int IntKind.u32 c], Ob.cells [PV.int IntKind.u32 0, PV.int IntKind.i64 0, PV.list [] Tail.exact, PV.int IntKind.i64 0, PV.int IntKind.i64 0]]) ((0 ≤ ixQ l_1 (byId c_1) ∧ ixQ l_1 (byId c_1) < (↑(List.length l) : Int)) ∧ br (true && fitX [CK.int IntKind.u32, CK.int IntKind.i64, CK.list, CK.int IntKind.i64, CK.int IntKind.i64] 0 (List.drop (0 + Int.toNat (ixQ l_1 (byId c_1)) * 5) (flT l ++ J))) (∃ (t : Tk), ∃ (tl : Tail), SlIs [PV.agg [PV.int IntKind.u32 (cI (List.drop (0 + Int.toNat (ixQ l_1 (byId c_1)) * 5) (flT l ++ J)) 0), PV.int IntKind.i64 (cI (List.drop (0 + Int.toNat (ixQ l_1 (byId c_1)) * 5) (flT l ++ J)) 1), PV.list (cL (List.drop (0 + Int.toNat (ixQ l_1 (byId c_1)) * 5) (flT l ++ J)) 2) (cT (List.drop (0 + Int.toNat (ixQ l_1 (byId c_1)) * 5) (flT l ++ J)) 2), PV.int IntKind.i64 (cI (List.drop (0 + Int.toNat (ixQ l_1 (byId c_1)) * 5) (flT l ++ J)) 3), PV.int IntKind.i64 (cI (List.drop (0 + Int.toNat (ixQ l_1 (byId c_1)) * 5) (flT l ++ J)) 4)]] [PV.agg [PV.int IntKind.u32 (Tk.id t), PV.int IntKind.i64 (Tk.md t), PV.list (List.map u1 (Tk.pl t)) tl, PV.int IntKind.i64 (Tk.rt t), PV.int IntKind.i64 (Tk.si t)]] ∧ List.length (Tk.pl t) ≤ 1000000 ∧ K (PV.tup [PV.agg [PV.int IntKind.u32 (Tk.id t), PV.int IntKind.i64 (Tk.md t), PV.arr 4 0 (List.length (Tk.pl t)) (List.length (Tk.pl t)), PV.int IntKind.i64 (Tk.rt t), PV.int IntKind.i64 (Tk.si t)], PV.bool true]) [Ob.cells [PV.arr 1 0 (List.length l) cap, PV.list (List.map i1 sz) Tail.no], Ob.cells (flT l ++ J), Ob.cells [PV.int IntKind.u32 c], Ob.cells [PV.int IntKind.u32 (Tk.id t), PV.int IntKind.i64 (Tk.md t), PV.arr 4 0 (List.length (Tk.pl t)) (List.length (Tk.pl t)), PV.int IntKind.i64 (Tk.rt t), PV.int IntKind.i64 (Tk.si t)], Ob.cells (List.flatten (List.map u1 (Tk.pl t)))]) False)) : ACalls Try.prog gl 55 [.ptr 0 0, .int .u32 c] [.cells [.arr 1 0 l.length cap, .list (sz.map i1) .no], .cells (flT l ++ J)] K :=
  acalls_of_wpc2 (T := TGA) (L := []) (fun o => match o.op with | .load t _ => (match t with | 82 => 1 | _ => 0) | _ => 0) Try.func55 (by kernel_rfl) (by kernel_rfl) (by kernel_rfl) (TGA_ok) (LOk.nil _ _ _ _ _) (holds_of_eq (by kernel_rfl) h)
theorem geEN_vc (sz : List Int) (c : Int)  (K : PV → Heap → Prop) (h : ∃ (l : List Tk), ∃ (sz_1 : List Int), ∃ (X : Heap), ∃ (Z : Heap), ∃ (b : Nat), ∃ (c_1 : Int), SlIs [PV.ptr 0 0, PV.fn 85 [PV.ptr 1 0]] [PV.ptr 0 0, PV.fn 85 [PV.ptr b 0]] ∧ EXQ l sz_1 X ∧ HpIs [Ob.cells [PV.list [] Tail.exact, PV.list (List.map i1 sz) Tail.no], Ob.cells [PV.int IntKind.u32 c], Ob.cells [PV.int IntKind.u32 0, PV.int IntKind.i64 0, PV.list [] Tail.exact, PV.int IntKind.i64 0, PV.int IntKind.i64 0]] (X ++ Z) ∧ CeIs [Ob.cells [PV.list [] Tail.exact, PV.list (List.map i1 sz) Tail.no], Ob.cells [PV.int IntKind.u32 c], Ob.cells [PV.int IntKind.u32 0, PV.int IntKind.i64 0, PV.list [] Tail.exact, PV.int IntKind.i64 0, PV.int IntKind.i64 0]] b [PV.int IntKind.u32 c_1] ∧ List.length l ≤ 1000000 ∧ (∀ (t : Tk), t ∈ l → List.length (Tk.pl t) ≤ 1000000) ∧ br (decide (ixQ l (byId c_1) < 0)) (K (PV.tup [PV.agg [PV.int IntKind.u32 0, PV.int IntKind.i64 0, PV.list [] Tail.exact, PV.int IntKind.i64 0, PV.int IntKind.i64 0], PV.bool false]) [Ob.cells [PV.list [] Tail.exact, PV.list (List.map i1 sz) Tail.no], Ob.cells [PV.int IntKind.u32 c], Ob.cells [PV.int IntKind.u32 0, PV.int IntKind.i64 0, PV.list [] Tail.exact, PV.int IntKind.i64 0, PV.int IntKind.i64 0]]) (InL [] 5 (ixQ l (byId c_1)) ∧ False)) : ACalls Try.prog gl 55 [.ptr 0 0, .int .u32 c] [.cells [.list [] .exact, .list (sz.map i1) .no]] K :=
  acalls_of_wpc2 (T := TGE) (L := []) (fun o => match o.op with | .load t _ => (match t with | 82 => 1 | _ => 0) | _ => 0) Try.func55 (by kernel_rfl) (by kernel_rfl) (by kernel_rfl) (TGE_ok) (LOk.nil _ _ _ _ _) (holds_of_eq (by kernel_rfl) h)
theorem ofA_vc (l : List Tk) (J : List PV) (cap : Nat) (sz : List Int) (c : Int)  (K : PV → Heap → Prop) (h : ∃ (l_1 : List Tk), ∃ (sz_1 : List Int), ∃ (X : Heap), ∃ (Z : Heap), ∃ (b : Nat), ∃ (c_1 : Int), SlIs [PV.ptr 0 0, PV.fn 78 [PV.ptr 2 0]] [PV.ptr 0 0, PV.fn 78 [PV.ptr b 0]] ∧ EXQ l_1 sz_1 X ∧ HpIs [Ob.cells [PV.arr 1 0 (List.length l) cap, PV.list (List.map i1 sz) Tail.no], Ob.cells (flT l ++ J), Ob.cells [PV.int IntKind.u32 c]] (X ++ Z) ∧ CeIs [Ob.cells [PV.arr 1 0 (List.length l) cap, PV.list (List.map i1 sz) Tail.no], Ob.cells (flT l ++ J), Ob.cells [PV.int IntKind.u32 c]] b [PV.int IntKind.u32 c_1] ∧ List.length l_1 ≤ 1000000 ∧ (∀ (t : Tk), t ∈ l_1 → List.length (Tk.pl t) ≤ 1000000) ∧ br (decide (ixQ l_1 (byPl c_1) < 0)) (K (PV.int IntKind.u32 0) [Ob.cells [PV.arr 1 0 (List.length l) cap, PV.list (List.map i1 sz) Tail.no], Ob.cells (flT l ++ J), Ob.cells [PV.int IntKind.u32 c]]) ((0 ≤ ixQ l_1 (byPl c_1) ∧ ixQ l_1 (byPl c_1) < (↑(List.length l) : Int)) ∧ br (true && fitX [CK.int IntKind.u32] 0 (List.drop (0 + Int.toNat (ixQ l_1 (byPl c_1)) * 5 + 0) (flT l ++ J))) (K (PV.int IntKind.u32 (cI (List.drop (0 + Int.toNat (ixQ l_1 (byPl c_1)) * 5 + 0) (flT l ++ J)) 0)) [Ob.cells [PV.arr 1 0 (List.length l) cap, PV.list (List.map i1 sz) Tail.no], Ob.cells (flT l ++ J), Ob.cells [PV.int IntKind.u32 c]]) False)) : ACalls Try.prog gl 46 [.ptr 0 0, .int .u32 c] [.cells [.arr 1 0 l.length cap, .list (sz.map i1) .no], .cells (flT l ++ J)] K :=
  acalls_of_wpc2 (T := TOE) (L := []) (fun o => match o.op with | .load t _ => (match t with | 82 => 1 | _ => 0) | _ => 0) Try.func46 (by kernel_rfl) (by kernel_rfl) (by kernel_rfl) (TOE_ok) (LOk.nil _ _ _ _ _) (holds_of_eq (by kernel_rfl) h)
theorem ofN_vc (sz : List Int) (c : Int)  (K : PV → Heap → Prop) (h : ∃ (l : List Tk), ∃ (sz_1 : List Int), ∃ (X : Heap), ∃ (Z : Heap), ∃ (b : Nat), ∃ (c_1 : Int), SlIs [PV.ptr 0 0, PV.fn 78 [PV.ptr 1 0]] [PV.ptr 0 0, PV.fn 78 [PV.ptr b 0]] ∧ EXQ l sz_1 X ∧ HpIs [Ob.cells [PV.list [] Tail.exact, PV.list (List.map i1 sz) Tail.no], Ob.cells [PV.int IntKind.u32 c]] (X ++ Z) ∧ CeIs [Ob.cells [PV.list [] Tail.exact, PV.list (List.map i1 sz) Tail.no], Ob.cells [PV.int IntKind.u32 c]] b [PV.int IntKind.u32 c_1] ∧ List.length l ≤ 1000000 ∧ (∀ (t : Tk), t ∈ l → List.length (Tk.pl t) ≤ 1000000) ∧ br (decide (ixQ l (byPl c_1) < 0)) (K (PV.int IntKind.u32 0) [Ob.cells [PV.list [] Tail.exact, PV.list (List.map i1 sz) Tail.no], Ob.cells [PV.int IntKind.u32 c]]) (InL [] 5 (ixQ l (byPl c_1)) ∧ False)) : ACalls Try.prog gl 46 [.ptr 0 0, .int .u32 c] [.cells [.list [] .exact, .list (sz.map i1) .no]] K :=
  acalls_of_wpc2 (T := TOE) (L := []) (fun o => match o.op with | .load t _ => (match t with | 82 => 1 | _ => 0) | _ => 0) Try.func46 (by kernel_rfl) (by kernel_rfl) (by kernel_rfl) (TOE_ok) (LOk.nil _ _ _ _ _) (holds_of_eq (by kernel_rfl) h)
theorem lenA_vc (l : List Tk) (J : List PV) (cap : Nat) (sz : List Int)  (K : PV → Heap → Prop) (h : K (PV.int IntKind.i64 (↑(List.length l) : Int)) [Ob.cells [PV.arr 1 0 (List.length l) cap, PV.list (List.map i1 sz) Tail.no], Ob.cells (flT l ++ J)]) : ACalls Try.prog gl 47 [.ptr 0 0] [.cells [.arr 1 0 l.length cap, .list (sz.map i1) .no], .cells (flT l ++ J)] K :=
  acalls_of_wpc2 (T := []) (L := []) (fun o => match o.op with | .load t _ => (match t with | 82 => 1 | _ => 0) | _ => 0) Try.func47 (by kernel_rfl) (by kernel_rfl) (by kernel_rfl) (TabOk.nil _ _) (LOk.nil _ _ _ _ _) (holds_of_eq (by kernel_rfl) h)
theorem lenN_vc (sz : List Int)  (K : PV → Heap → Prop) (h : K (PV.int IntKind.i64 0) [Ob.cells [PV.list [] Tail.exact, PV.list (List.map i1 sz) Tail.no]]) : ACalls Try.prog gl 47 [.ptr 0 0] [.cells [.list [] .exact, .list (sz.map i1) .no]] K :=
  acalls_of_wpc2 (T := []) (L := []) (fun o => match o.op with | .load t _ => (match t with | 82 => 1 | _ => 0) | _ => 0) Try.func47 (by kernel_rfl) (by kernel_rfl) (by kernel_rfl) (TabOk.nil _ _) (LOk.nil _ _ _ _ _) (holds_of_eq (by kernel_rfl) h)
theorem mdA_vc (l : List Tk) (J : List PV) (cap : Nat) (sz : List Int) (m : Int) (i : Nat) (R : Ex → List PV → Heap → Prop) (h : br (decide ((↑i : Int) < (↑(List.length l) : Int))) ((0 ≤ (↑i : Int) ∧ (↑i : Int) < (↑(List.length l) : Int)) ∧ br (true && fitX [CK.int IntKind.u32, CK.int IntKind.i64, CK.list, CK.int IntKind.i64, CK.int IntKind.i64] 0 (List.drop (0 + Int.toNat (↑i : Int) * 5) (flT l ++ J))) (br (cI (List.drop (0 + Int.toNat (↑i : Int) * 5) (flT l ++ J)) 1 == m) (∃ (t : Tk), ∃ (tl : Tail), SlIs [PV.agg [PV.int IntKind.u32 (cI (List.drop (0 + Int.toNat (↑i : Int) * 5) (flT l ++ J)) 0), PV.int IntKind.i64 (cI (List.drop (0 + Int.toNat (↑i : Int) * 5) (flT l ++ J)) 1), PV.list (cL (List.drop (0 + Int.toNat (↑i : Int) * 5) (flT l ++ J)) 2) (cT (List.drop (0 + Int.toNat (↑i : Int) * 5) (flT l ++ J)) 2), PV.int IntKind.i64 (cI (List.drop (0 + Int.toNat (↑i : Int) * 5) (flT l ++ J)) 3), PV.int IntKind.i64 (cI (List.drop (0 + Int.toNat (↑i : Int) * 5) (flT l ++ J)) 4)]] [PV.agg [PV.int IntKind.u32 (Tk.id t), PV.int IntKind.i64 (Tk.md t), PV.list (List.map u1 (Tk.pl t)) tl, PV.int IntKind.i64 (Tk.rt t), PV.int IntKind.i64 (Tk.si t)]] ∧ List.length (Tk.pl t) ≤ 1000000 ∧ AppL [] [[PV.int IntKind.u32 (Tk.id t), PV.int IntKind.i64 (Tk.md t), PV.list (List.map u1 (Tk.pl t)) Tail.no, PV.int IntKind.i64 (Tk.rt t), PV.int IntKind.i64 (Tk.si t)]] 5 56 ∧ (List.all [PV.int IntKind.u32 (Tk.id t), PV.int IntKind.i64 (Tk.md t), PV.list (List.map u1 (Tk.pl t)) Tail.no, PV.int IntKind.i64 (Tk.rt t), PV.int IntKind.i64 (Tk.si t)] PV.one = true ∧ [[PV.int IntKind.u32 (Tk.id t), PV.int IntKind.i64 (Tk.md t), PV.list (List.map u1 (Tk.pl t)) Tail.no, PV.int IntKind.i64 (Tk.rt t), PV.int IntKind.i64 (Tk.si t)]] ≠ []) ∧ R Ex.normal [PV.int IntKind.i64 m, PV.list [[PV.int IntKind.u32 (Tk.id t), PV.int IntKind.i64 (Tk.md t), PV.list (List.map u1 (Tk.pl t)) Tail.no, PV.int IntKind.i64 (Tk.rt t), PV.int IntKind.i64 (Tk.si t)]] (Tail.tok 3), PV.arr 1 0 (List.length l) cap, PV.int IntKind.i64 (↑(List.length l) : Int), PV.int IntKind.i64 (wI ((↑i : Int) + 1))] [Ob.cells [PV.arr 1 0 (List.length l) cap, PV.list (List.map i1 sz) Tail.no], Ob.cells (flT l ++ J), Ob.cells [PV.int IntKind.u32 (cI (List.drop (0 + Int.toNat (↑i : Int) * 5) (flT l ++ J)) 0), PV.int IntKind.i64 (cI (List.drop (0 + Int.toNat (↑i : Int) * 5) (flT l ++ J)) 1), PV.list (cL (List.drop (0 + Int.toNat (↑i : Int) * 5) (flT l ++ J)) 2) (cT (List.drop (0 + Int.toNat (↑i : Int) * 5) (flT l ++ J)) 2), PV.int IntKind.i64 (cI (List.drop (0 + Int.toNat (↑i : Int) * 5) (flT l ++ J)) 3), PV.int IntKind.i64 (cI (List.drop (0 + Int.toNat (↑i : Int) * 5) (flT l ++ J)) 4)], Ob.tok]) (R Ex.normal [PV.int IntKind.i64 m, PV.list [] Tail.exact, PV.arr 1 0 (List.length l) cap, PV.int IntKind.i64 (↑(List.length l) : Int), PV.int IntKind.i64 (wI ((↑i : Int) + 1))] [Ob.cells [PV.arr 1 0 (List.length l) cap, PV.list (List.map i1 sz) Tail.no], Ob.cells (flT l ++ J), Ob.cells [PV.int IntKind.u32 (cI (List.drop (0 + Int.toNat (↑i : Int) * 5) (flT l ++ J)) 0), PV.int IntKind.i64 (cI (List.drop (0 + Int.toNat (↑i : Int) * 5) (flT l ++ J)) 1), PV.list (cL (List.drop (0 + Int.toNat (↑i : Int) * 5) (flT l ++ J)) 2) (cT (List.drop (0 + Int.toNat (↑i : Int) * 5) (flT l ++ J)) 2), PV.int IntKind.i64 (cI (List.drop (0 + Int.toNat (↑i : Int) * 5) (flT l ++ J)) 3), PV.int IntKind.i64 (cI (List.drop (0 + Int.toNat (↑i : Int) * 5) (flT l ++ J)) 4)]])) False) (R (Ex.exit 0) [PV.int IntKind.i64 m, PV.list [] Tail.exact, PV.arr 1 0 (List.length l) cap, PV.int IntKind.i64 (↑(List.length l) : Int), PV.int IntKind.i64 (↑i : Int)] [Ob.cells [PV.arr 1 0 (List.length l) cap, PV.list (List.map i1 sz) Tail.no], Ob.cells (flT l ++ J)])) : Holds (wpc br Try.prog gl TME [] (fun o => match o.op with | .load t _ => (match t with | 82 => 1 | _ => 0) | _ => match o.dst with | some 27 => 1 | _ => 0) (subOf [1, 1, 0, 1, 0, 1, 0] (bodyOf Try.f45)) [] (envS [1, 5, 13, 14, 15] [.int .i64 m, .list [] .exact, .arr 1 0 l.length cap, .int .i64 l.length, .int .i64 i]) [.cells [.arr 1 0 l.length cap, .list (sz.map i1) .no], .cells (flT l ++ J)] (fun ex e H => R ex (List.map e [1, 5, 13, 14, 15]) H)) := holds_of_eq (by kernel_rfl) h
theorem mdB_vc (l : List Tk) (J : List PV) (cap : Nat) (sz : List Int) (m : Int) (es : List (List PV)) (i : Nat) (R : Ex → List PV → Heap → Prop) (h : br (decide ((↑i : Int) < (↑(List.length l) : Int))) ((0 ≤ (↑i : Int) ∧ (↑i : Int) < (↑(List.length l) : Int)) ∧ br (true && fitX [CK.int IntKind.u32, CK.int IntKind.i64, CK.list, CK.int IntKind.i64, CK.int IntKind.i64] 0 (List.drop (0 + Int.toNat (↑i : Int) * 5) (flT l ++ J))) (br (cI (List.drop (0 + Int.toNat (↑i : Int) * 5) (flT l ++ J)) 1 == m) (∃ (t : Tk), ∃ (tl : Tail), SlIs [PV.agg [PV.int IntKind.u32 (cI (List.drop (0 + Int.toNat (↑i : Int) * 5) (flT l ++ J)) 0), PV.int IntKind.i64 (cI (List.drop (0 + Int.toNat (↑i : Int) * 5) (flT l ++ J)) 1), PV.list (cL (List.drop (0 + Int.toNat (↑i : Int) * 5) (flT l ++ J)) 2) (cT (List.drop (0 + Int.toNat (↑i : Int) * 5) (flT l ++ J)) 2), PV.int IntKind.i64 (cI (List.drop (0 + Int.toNat (↑i : Int) * 5) (flT l ++ J)) 3), PV.int IntKind.i64 (cI (List.drop (0 + Int.toNat (↑i : Int) * 5) (flT l ++ J)) 4)]] [PV.agg [PV.int IntKind.u32 (Tk.id t), PV.int IntKind.i64 (Tk.md t), PV.list (List.map u1 (Tk.pl t)) tl, PV.int IntKind.i64 (Tk.rt t), PV.int IntKind.i64 (Tk.si t)]] ∧ List.length (Tk.pl t) ≤ 1000000 ∧ AppL es [[PV.int IntKind.u32 (Tk.id t), PV.int IntKind.i64 (Tk.md t), PV.list (List.map u1 (Tk.pl t)) Tail.no, PV.int IntKind.i64 (Tk.rt t), PV.int IntKind.i64 (Tk.si t)]] 5 56 ∧ (List.all [PV.int IntKind.u32 (Tk.id t), PV.int IntKind.i64 (Tk.md t), PV.list (List.map u1 (Tk.pl t)) Tail.no, PV.int IntKind.i64 (Tk.rt t), PV.int IntKind.i64 (Tk.si t)] PV.one = true ∧ [[PV.int IntKind.u32 (Tk.id t), PV.int IntKind.i64 (Tk.md t), PV.list (List.map u1 (Tk.pl t)) Tail.no, PV.int IntKind.i64 (Tk.rt t), PV.int IntKind.i64 (Tk.si t)]] ≠ []) ∧ R Ex.normal [PV.int IntKind.i64 m, PV.list (es ++ [[PV.int IntKind.u32 (Tk.id t), PV.int IntKind.i64 (Tk.md t), PV.list (List.map u1 (Tk.pl t)) Tail.no, PV.int IntKind.i64 (Tk.rt t), PV.int IntKind.i64 (Tk.si t)]]) (Tail.tok 4), PV.arr 1 0 (List.length l) cap, PV.int IntKind.i64 (↑(List.length l) : Int), PV.int IntKind.i64 (wI ((↑i : Int) + 1))] [Ob.cells [PV.arr 1 0 (List.length l) cap, PV.list (List.map i1 sz) Tail.no], Ob.cells (flT l ++ J), Ob.dead, Ob.cells [PV.int IntKind.u32 (cI (List.drop (0 + Int.toNat (↑i : Int) * 5) (flT l ++ J)) 0), PV.int IntKind.i64 (cI (List.drop (0 + Int.toNat (↑i : Int) * 5) (flT l ++ J)) 1), PV.list (cL (List.drop (0 + Int.toNat (↑i : Int) * 5) (flT l ++ J)) 2) (cT (List.drop (0 + Int.toNat (↑i : Int) * 5) (flT l ++ J)) 2), PV.int IntKind.i64 (cI (List.drop (0 + Int.toNat (↑i : Int) * 5) (flT l ++ J)) 3), PV.int IntKind.i64 (cI (List.drop (0 + Int.toNat (↑i : Int) * 5) (flT l ++ J)) 4)], Ob.tok]) (R Ex.normal [PV.int IntKind.i64 m, PV.list es (Tail.tok 2), PV.arr 1 0 (List.length l) cap, PV.int IntKind.i64 (↑(List.length l) : Int), PV.int IntKind.i64 (wI ((↑i : Int) + 1))] [Ob.cells [PV.arr 1 0 (List.length l) cap, PV.list (List.map i1 sz) Tail.no], Ob.cells (flT l ++ J), Ob.tok, Ob.cells [PV.int IntKind.u32 (cI (List.drop (0 + Int.toNat (↑i : Int) * 5) (flT l ++ J)) 0), PV.int IntKind.i64 (cI (List.drop (0 + Int.toNat (↑i : Int) * 5) (flT l ++ J)) 1), PV.list (cL (List.drop (0 + Int.toNat (↑i : Int) * 5) (flT l ++ J)) 2) (cT (List.drop (0 + Int.toNat (↑i : Int) * 5) (flT l ++ J)) 2), PV.int IntKind.i64 (cI (List.drop (0 + Int.toNat (↑i : Int) * 5) (flT l ++ J)) 3), PV.int IntKind.i64 (cI (List.drop (0 + Int.toNat (↑i : Int) * 5) (flT l ++ J)) 4)]])) False) (R (Ex.exit 0) [PV.int IntKind.i64 m, PV.list es (Tail.tok 2), PV.arr 1 0 (List.length l) cap, PV.int IntKind.i64 (↑(List.length l) : Int), PV.int IntKind.i64 (↑i : Int)] [Ob.cells [PV.arr 1 0 (List.length l) cap, PV.list (List.map i1 sz) Tail.no], Ob.cells (flT l ++ J), Ob.tok])) : Holds (wpc br Try.prog gl TME [] (fun o => match o.op with | .load t _ => (match t with | 82 => 1 | _ => 0) | _ => match o.dst with | some 27 => 1 | _ => 0) (subOf [1, 1, 0, 1, 0, 1, 0] (bodyOf Try.f45)) [] (envS [1, 5, 13, 14, 15] [.int .i64 m, .list es (.tok 2), .arr 1 0 l.length cap, .int .i64 l.length, .int .i64 i]) [.cells [.arr 1 0 l.length cap, .list (sz.map i1) .no], .cells (flT l ++ J), .tok] (fun ex e H => R ex (List.map e [1, 5, 13, 14, 15]) H)) := holds_of_eq (by kernel_rfl) h
theorem mdN_vc (H : Heap) (m : Int) (R : Ex → List PV → Heap → Prop) (h : R (Ex.exit 0) [PV.int IntKind.i64 m, PV.list [] Tail.exact, PV.list [] Tail.exact, PV.int IntKind.i64 0, PV.int IntKind.i64 0] H) : Holds (wpc br Try.prog gl TME [] (fun o => match o.op with | .load t _ => (match t with | 82 => 1 | _ => 0) | _ => match o.dst with | some 27 => 1 | _ => 0) (subOf [1, 1, 0, 1, 0, 1, 0] (bodyOf Try.f45)) [] (envS [1, 5, 13, 14, 15] [.int .i64 m, .list [] .exact, .list [] .exact, .int .i64 0, .int .i64 0]) H (fun ex e H => R ex (List.map e [1, 5, 13, 14, 15]) H)) := holds_of_eq (by kernel_rfl) h
theorem ixNeg {l : List Tk} {p : Tk → Bool} : (ixQ l p < 0) ↔ ¬ l.findIdx p < l.length := by
  unfold ixQ
  split <;> constructor <;> intro h <;> omega
theorem ixPos {l : List Tk} {p : Tk → Bool} (h : l.findIdx p < l.length) : ixQ l p = ((l.findIdx p : Nat) : Int) := by unfold ixQ; rw [if_pos h]
theorem lift_get {l : List Tk} {sz : List Int} {c : Int} {X : Heap} (h : EXQ l sz X) (s : Sml l) : ACalls Try.prog gl 55 [.ptr 0 0, .int .u32 c] X (fun x H' => x = .tup [(getQ l c).pv, .bool (hasQ l c)] ∧ H' = X) := by
  refine ACalls.same (low_gq l c).up (acalls_weak ?_)
  rcases h with ⟨J, cap, rfl, hc, hJ⟩ | ⟨rfl, rfl⟩
  · refine geEA_vc l J cap sz c _ ⟨l, sz, hpQ l J cap sz, [_, _], 2, c, rfl, .inl ⟨J, cap, rfl, hc, hJ⟩, rfl, rfl, s.len, s.pl, ?_⟩
    simp only [br_if, dt]
    by_cases k : l.findIdx (byId c) < l.length
    · rw [if_neg (fun e => (ixNeg.1 e) k), ixPos k]
      simp only [toNat_nat, Nat.zero_add]
      rw [flT_at J k]
      refine ⟨⟨by omega, by omega⟩, ?_⟩
      rw [if_pos (by rfl)]
      refine ⟨getQ l c, .no, rfl, s.get _, _, .refl _, ?_, [_, _], rfl⟩
      unfold hasQ; rw [decide_eq_true k]; rfl
    · rw [if_pos (ixNeg.2 k)]
      refine ⟨_, wk_zero, ?_, [_, _], rfl⟩
      unfold hasQ; rw [decide_eq_false k, getQ_none k]
  · refine geEN_vc sz c _ ⟨[], sz, hpE sz, [_, _], 1, c, rfl, .inr ⟨rfl, rfl⟩, rfl, rfl, s.len, s.pl, ?_⟩
    simp only [br_if, dt]
    rw [if_pos (ixNeg.2 (by simp))]
    exact ⟨_, wk_zero, rfl, [_, _], rfl⟩
theorem lift_of {l : List Tk} {sz : List Int} {c : Int} {X : Heap} (h : EXQ l sz X) (s : Sml l) : ACalls Try.prog gl 46 [.ptr 0 0, .int .u32 c] X (fun x H' => x = .int .u32 (ofQ l c) ∧ H' = X) := by
  refine ACalls.same (.int _ _) ?_
  unfold ofQ
  rcases h with ⟨J, cap, rfl, hc, hJ⟩ | ⟨rfl, rfl⟩
  · refine ofA_vc l J cap sz c _ ⟨l, sz, hpQ l J cap sz, [_], 2, c, rfl, .inl ⟨J, cap, rfl, hc, hJ⟩, rfl, rfl, s.len, s.pl, ?_⟩
    simp only [br_if, dt]
    by_cases k : l.findIdx (byPl c) < l.length
    · rw [if_neg (fun e => (ixNeg.1 e) k), ixPos k, if_pos k]
      simp only [toNat_nat, Nat.zero_add, Nat.add_zero]
      rw [flT_at J k]
      refine ⟨⟨by omega, by omega⟩, ?_⟩
      rw [if_pos (by rfl)]
      exact ⟨rfl, [_], rfl⟩
    · rw [if_pos (ixNeg.2 k), if_neg k]
      exact ⟨rfl, [_], rfl⟩
  · refine ofN_vc sz c _ ⟨[], sz, hpE sz, [_], 1, c, rfl, .inr ⟨rfl, rfl⟩, rfl, rfl, s.len, s.pl, ?_⟩
    simp only [br_if, dt]
    rw [if_pos (ixNeg.2 (by simp))]
    exact ⟨rfl, [_], rfl⟩
theorem lift_len {l : List Tk} {sz : List Int} {X : Heap} (h : EXQ l sz X) : ACalls Try.prog gl 47 [.ptr 0 0] X (fun x H' => x = .int .i64 l.length ∧ H' = X) := by
  rcases h with ⟨J, cap, rfl, hc, hJ⟩ | ⟨rfl, rfl⟩
  · exact lenA_vc l J cap sz _ ⟨rfl, rfl⟩
  · exact lenN_vc sz _ ⟨rfl, rfl⟩
-- amid other objects
def getT_s (args : List PV) (H : Heap) (K : PV → Prop) : Prop := ∃ (l : List Tk) (sz : List Int) (X Z : Heap) (c : Int), SlIs args [.ptr 0 0, .int .u32 c] ∧ EXQ l sz X ∧ HpIs H (X ++ Z) ∧ Sml l ∧ K (.tup [.agg [.int .u32 (getQ l c).id, .int .i64 (getQ l c).md, .list ((getQ l c).pl.map u1) .no, .int .i64 (getQ l c).rt, .int .i64 (getQ l c).si], .bool (hasQ l c)])
theorem getT_ok : SpOk Try.prog gl 55 (.read getT_s) := by
  rintro args H K ⟨l, sz, X, Z, c, he, hX, hH, s, hk⟩
  have he : args = _ := he
  have hH : H = _ := hH
  subst he
  subst hH
  exact ⟨_, lift_read hX low0_int (low_gq l c) (lift_get hX s), hk⟩
def ofT_s (args : List PV) (H : Heap) (K : PV → Prop) : Prop := ∃ (l : List Tk) (sz : List Int) (X Z : Heap) (c : Int), SlIs args [.ptr 0 0, .int .u32 c] ∧ EXQ l sz X ∧ HpIs H (X ++ Z) ∧ Sml l ∧ K (.int .u32 (ofQ l c))
theorem ofT_ok : SpOk Try.prog gl 46 (.read ofT_s) := by
  rintro args H K ⟨l, sz, X, Z, c, he, hX, hH, s, hk⟩
  have he : args = _ := he
  have hH : H = _ := hH
  subst he
  subst hH
  exact ⟨_, lift_read hX low0_int (.int _ _) (lift_of hX s), hk⟩
-- a mode's tickets
theorem mode_take {l : List Tk} {m : Int} {i : Nat} (h : i < l.length) : modeL (l.take (i + 1)) m = modeL (l.take i) m ++ (if (l.getD i default).md == m then [l.getD i default] else []) := filter_take default h
def md_l : LSp := fun e H Q =>
  (∃ (l : List Tk) (J : List PV) (cap : Nat) (sz : List Int) (m : Int), Sml l ∧ (∀ y ∈ J, Low 0 y) ∧ SlIs (List.map e [1, 5, 13, 14, 15]) [.int .i64 m, .list [] .exact, .arr 1 0 l.length cap, .int .i64 l.length, .int .i64 0] ∧ HpIs H (hpQ l J cap sz) ∧
    Q (.exit 0) (envS [1, 5, 13, 14, 15] [.int .i64 m, .list ((modeL l m).map csT) .no, .arr 1 0 l.length cap, .int .i64 l.length, .int .i64 l.length]) (hpQ l J cap sz ++ [.dead])) ∨
  (∃ (m : Int), SlIs (List.map e [1, 5, 13, 14, 15]) [.int .i64 m, .list [] .exact, .list [] .exact, .int .i64 0, .int .i64 0] ∧ Q (.exit 0) (envS [1, 5, 13, 14, 15] [.int .i64 m, .list [] .exact, .list [] .exact, .int .i64 0, .int .i64 0]) H)
theorem md_l_ok : ∀ e H Q, md_l e H Q → AW Try.prog gl Try.f45.ntmps (.loop (subOf [1, 1, 0, 1, 0, 1, 0] (bodyOf Try.f45))) Q e H := by
  rintro e H Q (⟨l, J, cap, sz, m, s, hJ, he, hH, hQ⟩ | ⟨m, he, hQ⟩)
  · have hH2 : H = hpQ l J cap sz := hH
    have hlen := s.len
    refine aw_growif (f := csT) (acc := fun i => modeL (l.take i) m) (I := fun i => i ≤ l.length) (m := fun i => l.length - i) (hn := fun o => match o.op with | .load t _ => (match t with | 82 => 1 | _ => 0) | _ => match o.dst with | some 27 => 1 | _ => 0) gl_low TME_ok (.nil _ _ _ _ _) [1, 5, 13, 14, 15] (fun r i => [.int .i64 m, r, .arr 1 0 l.length cap, .int .i64 l.length, .int .i64 i]) (hpQ l J cap sz) (0 : Nat)
      (hpQ_low hJ) (fun _ _ a _ => low_csT a) (fun es i k _ h => .same (.int _ _) (.row h (.same (.arr _ _ _ _ (by simp [hpQ])) (.same (.int _ _) (.same (.int _ _) .nil))))) (fun i _ w hw => by
        simp only [List.mem_cons, List.not_mem_nil, or_false] at hw
        rcases hw with rfl | rfl | rfl | rfl | rfl
        · exact .int _ _
        · exact low_list NT.exact (fun _ h => nomatch h)
        · exact .arr _ _ _ _ (by simp [hpQ])
        · exact .int _ _
        · exact .int _ _) (Nat.zero_le _) (by simp [modeL]) he hH2 ?_ ?_
    · intro i hi ha
      refine mdA_vc l J cap sz m i _ ?_
      simp only [br_if, dt]
      by_cases h : i < l.length
      · rw [if_pos (by omega)]
        simp only [toNat_nat, Nat.zero_add]
        rw [flT_at J h]
        refine ⟨⟨by omega, by omega⟩, ?_⟩
        rw [if_pos (by rfl)]
        have hs := mode_take (m := m) h
        have hg := s.get i
        obtain ⟨t, htd⟩ : ∃ t, t = l.getD i default := ⟨_, rfl⟩
        rw [← htd] at hs hg ⊢
        by_cases k : (t.md == m) = true
        · rw [if_pos k] at hs
          rw [if_pos (by exact k)]
          refine ⟨t, .no, rfl, hg, appL_map (f := csT) (l := []) (by_ := 56) csT_len t (by show (0 + 1) * 56 ≤ _; decide), one_row one_csT t, ?_⟩
          exact growQ_add (i + 1) (show l.length - (i + 1) < l.length - i by omega) h hs (ne_snoc _ _) [_, .tok] 3 rfl rfl (by simp [hpQ]) (by rw [wI_succ h (by omega), ha]; rfl)
        · rw [if_neg k, List.append_nil] at hs
          rw [if_neg (by exact k)]
          exact growQ_none (i + 1) (show l.length - (i + 1) < l.length - i by omega) h (hs.trans ha) [_] rfl (by rw [wI_succ h (by omega)])
      · rw [if_neg (by omega)]
        have : i = l.length := by have hi' : i ≤ l.length := hi; omega
        subst this
        simp only [List.take_length] at ha ⊢
        rw [ha] at hQ
        exact growQ_end (.cons (.refl _) (.cons (.list _ _) (.cons (.refl _) (.cons (.refl _) (.cons (.refl _) .nil))))) (pad_dead _) hQ
    · intro i hi ha
      refine mdB_vc l J cap sz m ((modeL (l.take i) m).map csT) i _ ?_
      simp only [br_if, dt]
      by_cases h : i < l.length
      · rw [if_pos (by omega)]
        simp only [toNat_nat, Nat.zero_add]
        rw [flT_at J h]
        refine ⟨⟨by omega, by omega⟩, ?_⟩
        rw [if_pos (by rfl)]
        have hs := mode_take (m := m) h
        have hg := s.get i
        have hle : (modeL (l.take i) m).length ≤ i := filter_take_le _ l i
        obtain ⟨t, htd⟩ : ∃ t, t = l.getD i default := ⟨_, rfl⟩
        rw [← htd] at hs hg ⊢
        by_cases k : (t.md == m) = true
        · rw [if_pos k] at hs
          rw [if_pos (by exact k)]
          refine ⟨t, .no, rfl, hg, appL_map (f := csT) (by_ := 56) csT_len _ t (by omega), one_row one_csT t, ?_⟩
          exact growQ_add (i + 1) (show l.length - (i + 1) < l.length - i by omega) h hs (ne_snoc _ _) [.dead, _, .tok] 4 rfl rfl (by simp [hpQ]) (by rw [wI_succ h (by omega), List.map_append]; rfl)
        · rw [if_neg k, List.append_nil] at hs
          rw [if_neg (by exact k)]
          exact growQ_add (i + 1) (show l.length - (i + 1) < l.length - i by omega) h hs ha [.tok, _] 2 rfl rfl (by simp [hpQ]) (by rw [wI_succ h (by omega)])
      · rw [if_neg (by omega)]
        have : i = l.length := by have hi' : i ≤ l.length := hi; omega
        subst this
        simp only [List.take_length] at ha ⊢
        exact growQ_end (.cons (.refl _) (.cons (.list _ _) (.cons (.refl _) (.cons (.refl _) (.cons (.refl _) .nil))))) (pad_kill (hpQ l J cap sz) .tok) hQ
  · refine aw_loop4 (hn := fun o => match o.op with | .load t _ => (match t with | 82 => 1 | _ => 0) | _ => match o.dst with | some 27 => 1 | _ => 0) gl_low TME_ok (.nil _ _ _ _ _) (σ := Unit) [1, 5, 13, 14, 15] (fun _ => True) (fun _ => [.int .i64 m, .list [] .exact, .list [] .exact, .int .i64 0, .int .i64 0]) (fun _ => H) (fun _ => 0) () trivial he rfl ?_
    intro _ _
    exact mdN_vc H m _ hQ
theorem modA_vc (l : List Tk) (J : List PV) (cap : Nat) (sz : List Int) (m : Int)  (K : PV → Heap → Prop) (h : (∃ (l_1 : List Tk), ∃ (J_1 : List PV), ∃ (cap_1 : Nat), ∃ (sz_1 : List Int), ∃ (m_1 : Int), Sml l_1 ∧ (∀ (y : PV), y ∈ J_1 → Low 0 y) ∧ SlIs [PV.int IntKind.i64 m, PV.list [] Tail.exact, PV.arr 1 0 (List.length l) cap, PV.int IntKind.i64 (↑(List.length l) : Int), PV.int IntKind.i64 0] [PV.int IntKind.i64 m_1, PV.list [] Tail.exact, PV.arr 1 0 (List.length l_1) cap_1, PV.int IntKind.i64 (↑(List.length l_1) : Int), PV.int IntKind.i64 0] ∧ HpIs [Ob.cells [PV.arr 1 0 (List.length l) cap, PV.list (List.map i1 sz) Tail.no], Ob.cells (flT l ++ J)] [Ob.cells [PV.arr 1 0 (List.length l_1) cap_1, PV.list (List.map i1 sz_1) Tail.no], Ob.cells (flT l_1 ++ J_1)] ∧ K (PV.list (List.map csT (modeL l_1 m_1)) Tail.no) [Ob.cells [PV.arr 1 0 (List.length l_1) cap_1, PV.list (List.map i1 sz_1) Tail.no], Ob.cells (flT l_1 ++ J_1), Ob.dead]) ∨ ∃ (m_1 : Int), SlIs [PV.int IntKind.i64 m, PV.list [] Tail.exact, PV.arr 1 0 (List.length l) cap, PV.int IntKind.i64 (↑(List.length l) : Int), PV.int IntKind.i64 0] [PV.int IntKind.i64 m_1, PV.list [] Tail.exact, PV.list [] Tail.exact, PV.int IntKind.i64 0, PV.int IntKind.i64 0] ∧ K (PV.list [] Tail.exact) [Ob.cells [PV.arr 1 0 (List.length l) cap, PV.list (List.map i1 sz) Tail.no], Ob.cells (flT l ++ J)]) : ACalls Try.prog gl 45 [.ptr 0 0, .int .i64 m] [.cells [.arr 1 0 l.length cap, .list (sz.map i1) .no], .cells (flT l ++ J)] K :=
  acalls_of_wpc2 (T := TME) (L := [([1, 1, 0, 1, 0, 1, 0], md_l)]) (fun o => match o.op with | .load t _ => (match t with | 82 => 1 | _ => 0) | _ => match o.dst with | some 27 => 1 | _ => 0) Try.func45 (by kernel_rfl) (by kernel_rfl) (by kernel_rfl) (TME_ok) (.cons (sub_of (by kernel_rfl)) md_l_ok (.nil _ _ _ _ _)) (holds_of_eq (by kernel_rfl) h)
theorem modN_vc (sz : List Int) (m : Int)  (K : PV → Heap → Prop) (h : (∃ (l : List Tk), ∃ (J : List PV), ∃ (cap : Nat), ∃ (sz_1 : List Int), ∃ (m_1 : Int), Sml l ∧ (∀ (y : PV), y ∈ J → Low 0 y) ∧ SlIs [PV.int IntKind.i64 m, PV.list [] Tail.exact, PV.list [] Tail.exact, PV.int IntKind.i64 0, PV.int IntKind.i64 0] [PV.int IntKind.i64 m_1, PV.list [] Tail.exact, PV.arr 1 0 (List.length l) cap, PV.int IntKind.i64 (↑(List.length l) : Int), PV.int IntKind.i64 0] ∧ HpIs [Ob.cells [PV.list [] Tail.exact, PV.list (List.map i1 sz) Tail.no]] [Ob.cells [PV.arr 1 0 (List.length l) cap, PV.list (List.map i1 sz_1) Tail.no], Ob.cells (flT l ++ J)] ∧ K (PV.list (List.map csT (modeL l m_1)) Tail.no) [Ob.cells [PV.arr 1 0 (List.length l) cap, PV.list (List.map i1 sz_1) Tail.no], Ob.cells (flT l ++ J), Ob.dead]) ∨ ∃ (m_1 : Int), SlIs [PV.int IntKind.i64 m, PV.list [] Tail.exact, PV.list [] Tail.exact, PV.int IntKind.i64 0, PV.int IntKind.i64 0] [PV.int IntKind.i64 m_1, PV.list [] Tail.exact, PV.list [] Tail.exact, PV.int IntKind.i64 0, PV.int IntKind.i64 0] ∧ K (PV.list [] Tail.exact) [Ob.cells [PV.list [] Tail.exact, PV.list (List.map i1 sz) Tail.no]]) : ACalls Try.prog gl 45 [.ptr 0 0, .int .i64 m] [.cells [.list [] .exact, .list (sz.map i1) .no]] K :=
  acalls_of_wpc2 (T := TME) (L := [([1, 1, 0, 1, 0, 1, 0], md_l)]) (fun o => match o.op with | .load t _ => (match t with | 82 => 1 | _ => 0) | _ => match o.dst with | some 27 => 1 | _ => 0) Try.func45 (by kernel_rfl) (by kernel_rfl) (by kernel_rfl) (TME_ok) (.cons (sub_of (by kernel_rfl)) md_l_ok (.nil _ _ _ _ _)) (holds_of_eq (by kernel_rfl) h)
theorem low_mode (l : List Tk) : Low 0 (.list (l.map csT) .no) := low_rows low_csT l
theorem lift_mode {l : List Tk} {sz : List Int} {m : Int} {X : Heap} (h : EXQ l sz X) (s : Sml l) : ACalls Try.prog gl 45 [.ptr 0 0, .int .i64 m] X (fun x H' => x = .list ((modeL l m).map csT) .no ∧ H' = X) := by
  refine ACalls.same (low_mode _).up (acalls_weak ?_)
  rcases h with ⟨J, cap, rfl, hc, hJ⟩ | ⟨rfl, rfl⟩
  · exact modA_vc l J cap sz m _ (.inl ⟨l, J, cap, sz, m, s, hJ.low, rfl, rfl, _, .refl _, rfl, [_], rfl⟩)
  · exact modN_vc sz m _ (.inr ⟨m, rfl, _, .list _ _, rfl, [], rfl⟩)
def modeT_s (args : List PV) (H : Heap) (K : PV → Prop) : Prop := ∃ (l : List Tk) (sz : List Int) (X Z : Heap) (m : Int), SlIs args [.ptr 0 0, .int .i64 m] ∧ EXQ l sz X ∧ HpIs H (X ++ Z) ∧ Sml l ∧ K (.list ((modeL l m).map csT) .no)
theorem modeT_ok : SpOk Try.prog gl 45 (.read modeT_s) := by
  rintro args H K ⟨l, sz, X, Z, c, he, hX, hH, s, hk⟩
  have he : args = _ := he
  have hH : H = _ := hH
  subst he
  subst hH
  exact ⟨_, lift_read hX low0_int (low_mode _) (lift_mode hX s), hk⟩
def TDB : Tab := [(79, .pure con_s), (46, .read ofT_s)]
theorem TDB_ok : TabOk Try.prog gl TDB := .cons con_ok (.cons ofT_ok (.nil _ _))
theorem dbl_vc (X : Heap) (pl : List Int) (i : Nat) (R : Ex → List PV → Heap → Prop) (h : br (decide ((↑i : Int) < (↑(List.length pl) : Int))) (InL (List.map u1 pl) 1 (↑i : Int) ∧ br (true && fitX [CK.int IntKind.u32] 0 (List.getD (List.map u1 pl) (Int.toNat (↑i : Int)) [])) ((iI 0 ≤ 0 ∧ 0 ≤ (↑i : Int) ∧ (↑i : Int) ≤ (↑(List.length (List.map u1 pl)) : Int) ∧ (↑(List.length (List.map u1 pl)) : Int) ≤ (↑(List.length (List.map u1 pl)) : Int) ∧ uni 1 (List.map u1 pl)) ∧ ∃ (l : List Int), ∃ (tl : Tail), ∃ (t : Int), SlIs [PV.list (List.drop 0 (List.take (Int.toNat (↑i : Int)) (List.map u1 pl))) Tail.no, PV.int IntKind.u32 (cI (List.getD (List.map u1 pl) (Int.toNat (↑i : Int)) []) 0)] [PV.list (List.map u1 l) tl, PV.int IntKind.u32 t] ∧ List.length l ≤ 1000000 ∧ br (memB l t == false) (∃ (l : List Tk), ∃ (sz : List Int), ∃ (X_1 : Heap), ∃ (Z : Heap), ∃ (c : Int), SlIs [PV.ptr 0 0, PV.int IntKind.u32 (cI (List.getD (List.map u1 pl) (Int.toNat (↑i : Int)) []) 0)] [PV.ptr 0 0, PV.int IntKind.u32 c] ∧ EXQ l sz X_1 ∧ HpIs X (X_1 ++ Z) ∧ Sml l ∧ br (ofQ l c != 0) (R Ex.ret [PV.ptr 0 0, PV.list (List.map u1 pl) Tail.no, PV.bool true, PV.list (List.map u1 pl) Tail.no, PV.int IntKind.i64 (↑(List.length pl) : Int), PV.int IntKind.i64 (↑i : Int)] X) (R Ex.normal [PV.ptr 0 0, PV.list (List.map u1 pl) Tail.no, PV.bool false, PV.list (List.map u1 pl) Tail.no, PV.int IntKind.i64 (↑(List.length pl) : Int), PV.int IntKind.i64 (wI ((↑i : Int) + 1))] X)) (R Ex.ret [PV.ptr 0 0, PV.list (List.map u1 pl) Tail.no, PV.bool true, PV.list (List.map u1 pl) Tail.no, PV.int IntKind.i64 (↑(List.length pl) : Int), PV.int IntKind.i64 (↑i : Int)] X)) False) (R (Ex.exit 0) [PV.ptr 0 0, PV.list (List.map u1 pl) Tail.no, PV.bool false, PV.list (List.map u1 pl) Tail.no, PV.int IntKind.i64 (↑(List.length pl) : Int), PV.int IntKind.i64 (↑i : Int)] X)) : Holds (wpc br Try.prog gl TDB [] (fun _ => 0) (subOf [1, 0, 1, 0] (bodyOf Try.f72)) [] (envS [0, 1, 4, 7, 8, 9] [.ptr 0 0, .list (pl.map u1) .no, .bool false, .list (pl.map u1) .no, .int .i64 pl.length, .int .i64 i]) X (fun ex e H => R ex (List.map e [0, 1, 4, 7, 8, 9]) H)) := holds_of_eq (by kernel_rfl) h
def dbl_l : LSp := fun e H Q => ∃ (l : List Tk) (sz : List Int) (X Z : Heap) (pl : List Int), EXQ l sz X ∧ Sml l ∧ pl.length ≤ 1000000 ∧ SlIs (List.map e [0, 1, 4, 7, 8, 9]) [.ptr 0 0, .list (pl.map u1) .no, .bool false, .list (pl.map u1) .no, .int .i64 pl.length, .int .i64 0] ∧ HpIs H (X ++ Z) ∧
  (dblQ l pl = true → ∀ i : Nat, Q .ret (envS [0, 1, 4, 7, 8, 9] [.ptr 0 0, .list (pl.map u1) .no, .bool true, .list (pl.map u1) .no, .int .i64 pl.length, .int .i64 i]) H) ∧
  (dblQ l pl = false → Q (.exit 0) (envS [0, 1, 4, 7, 8, 9] [.ptr 0 0, .list (pl.map u1) .no, .bool false, .list (pl.map u1) .no, .int .i64 pl.length, .int .i64 pl.length]) H)
theorem dbl_l_ok : ∀ e H Q, dbl_l e H Q → AW Try.prog gl Try.f72.ntmps (.loop (subOf [1, 0, 1, 0] (bodyOf Try.f72))) Q e H := by
  rintro e H Q ⟨l, sz, X, Z, pl, hX, s, hpl, he, hH, hQ1, hQ2⟩
  refine aw_loop4 (hn := fun _ => 0) gl_low TDB_ok (.nil _ _ _ _ _) (σ := Nat) [0, 1, 4, 7, 8, 9] (fun i => i ≤ pl.length ∧ ∀ k, k < i → dblB l pl k = false) (fun i => [.ptr 0 0, .list (pl.map u1) .no, .bool false, .list (pl.map u1) .no, .int .i64 pl.length, .int .i64 i]) (fun _ => H) (fun i => pl.length - i) 0 ⟨Nat.zero_le _, fun k hk => absurd hk (Nat.not_lt_zero _)⟩ he rfl ?_
  rintro i ⟨hi, hk⟩
  refine dbl_vc H pl i _ ?_
  simp only [br_if, dt, inL_u1, toNat_nat, List.length_map]
  by_cases h : i < pl.length
  · rw [if_pos (by omega), getD_map 0 h]
    refine ⟨h, ?_⟩
    rw [if_pos (by rfl)]
    refine ⟨⟨by decide, by omega, by omega, by omega, uni_u1 _⟩, pl.take i, .no, pl.getD i 0, by rw [List.drop_zero, ← List.map_take]; rfl, by rw [List.length_take]; omega, ?_⟩
    have stop : dblB l pl i = true → Q .ret (envS [0, 1, 4, 7, 8, 9] [.ptr 0 0, .list (pl.map u1) .no, .bool true, .list (pl.map u1) .no, .int .i64 pl.length, .int .i64 i]) H := fun c => hQ1 (decide_eq_true ⟨i, h, c⟩) i
    by_cases c1 : memB (pl.take i) (pl.getD i 0) = true
    · rw [if_neg (by rw [c1]; decide)]
      exact stop (by unfold dblB; rw [c1]; rfl)
    · have c1' : memB (pl.take i) (pl.getD i 0) = false := by simpa using c1
      rw [if_pos (by rw [c1']; rfl)]
      refine ⟨l, sz, X, Z, pl.getD i 0, rfl, hX, hH, s, ?_⟩
      by_cases c2 : (ofQ l (pl.getD i 0) != 0) = true
      · rw [if_pos c2]
        exact stop (by unfold dblB; rw [c1', c2]; rfl)
      · rw [if_neg c2]
        refine ⟨i + 1, (show pl.length - (i + 1) < pl.length - i by omega), ⟨h, fun k hk' => ?_⟩, by rw [wI_succ h (by omega)], [], (List.append_nil _).symm, Nat.le_refl _, .inl rfl⟩
        rcases Nat.eq_or_lt_of_le (Nat.le_of_lt_succ hk') with rfl | q
        · unfold dblB; rw [c1', Bool.false_or]; simpa using c2
        · exact hk k q
  · rw [if_neg (by omega)]
    have : i = pl.length := by omega
    subst this
    exact hQ2 (decide_eq_false fun ⟨k, h1, h2⟩ => by rw [hk k h1] at h2; cases h2)
theorem dbl1_vc (H : Heap) (pl : List Int)  (K : PV → Heap → Prop) (h : ∃ (l : List Tk), ∃ (sz : List Int), ∃ (X : Heap), ∃ (Z : Heap), ∃ (pl_1 : List Int), EXQ l sz X ∧ Sml l ∧ List.length pl_1 ≤ 1000000 ∧ SlIs [PV.ptr 0 0, PV.list (List.map u1 pl) Tail.no, PV.bool false, PV.list (List.map u1 pl) Tail.no, PV.int IntKind.i64 (↑(List.length (List.map u1 pl)) : Int), PV.int IntKind.i64 0] [PV.ptr 0 0, PV.list (List.map u1 pl_1) Tail.no, PV.bool false, PV.list (List.map u1 pl_1) Tail.no, PV.int IntKind.i64 (↑(List.length pl_1) : Int), PV.int IntKind.i64 0] ∧ HpIs H (X ++ Z) ∧ (dblQ l pl_1 = true → ∀ (_ : Nat), K (PV.bool true) H) ∧ (dblQ l pl_1 = false → K (PV.bool false) H)) : ACalls Try.prog gl 72 [.ptr 0 0, .list (pl.map u1) .no] H K :=
  acalls_of_wpc2 (T := TDB) (L := [([1, 0, 1, 0], dbl_l)]) (fun _ => 0) Try.func72 (by kernel_rfl) (by kernel_rfl) (by kernel_rfl) (TDB_ok) (.cons (sub_of (by kernel_rfl)) dbl_l_ok (.nil _ _ _ _ _)) (holds_of_eq (by kernel_rfl) h)
def dblT_s (args : List PV) (H : Heap) (K : PV → Prop) : Prop := ∃ (l : List Tk) (sz : List Int) (X Z : Heap) (pl : List Int), SlIs args [.ptr 0 0, .list (pl.map u1) .no] ∧ EXQ l sz X ∧ HpIs H (X ++ Z) ∧ Sml l ∧ pl.length ≤ 1000000 ∧ K (.bool (dblQ l pl))
theorem dblT_ok : SpOk Try.prog gl 72 (.read dblT_s) := by
  rintro args H K ⟨l, sz, X, Z, pl, he, hX, hH, s, hpl, hk⟩
  have he : args = _ := he
  subst he
  exact ⟨_, dbl1_vc H pl _ ⟨l, sz, X, Z, pl, hX, s, hpl, (by show _ = _; simp only [List.length_map]), hH, fun h _ => ⟨by rw [h], rfl⟩, fun h => ⟨by rw [h], rfl⟩⟩, hk⟩
-- players who are none
theorem put1_ok : SpOk Try.prog gl 71 (.pure fun args K => ∃ p : Int, SlIs args [.int .u32 p] ∧ K (.bool (!rightS p))) := by
  rintro args K ⟨p, he, hk⟩
  have he : args = _ := he
  subst he
  exact spure gl_low low0_int (.bool _) (put1_vc p (fun x => x = .bool (!rightS p)) rfl) hk
def TP1 : Tab := [(71, .pure fun args K => ∃ p : Int, SlIs args [.int .u32 p] ∧ K (.bool (!rightS p)))]
theorem TP1_ok : TabOk Try.prog gl TP1 := .cons put1_ok (.nil _ _)
theorem ifp_vc (l : List (Int))  (i : Nat) (R : Ex → List PV → Heap → Prop) (h : br (decide ((↑i : Int) < (↑(List.length l) : Int))) (InL (List.map u1 l) 1 (↑i : Int) ∧ br (true && fitX [CK.int IntKind.u32] 0 (List.getD (List.map u1 l) (Int.toNat (↑i : Int)) [])) (∃ (p : Int), SlIs [PV.int IntKind.u32 (cI (List.getD (List.map u1 l) (Int.toNat (↑i : Int)) []) 0)] [PV.int IntKind.u32 p] ∧ br (!rightS p) (R Ex.ret [PV.list (List.map u1 l) Tail.no, PV.fn 71 [], PV.int IntKind.i64 (↑i : Int), PV.int IntKind.i64 (↑(List.length l) : Int), PV.int IntKind.i64 (↑i : Int)] []) (R Ex.normal [PV.list (List.map u1 l) Tail.no, PV.fn 71 [], PV.int IntKind.i64 0, PV.int IntKind.i64 (↑(List.length l) : Int), PV.int IntKind.i64 (wI ((↑i : Int) + 1))] [])) False) (R (Ex.exit 0) [PV.list (List.map u1 l) Tail.no, PV.fn 71 [], PV.int IntKind.i64 0, PV.int IntKind.i64 (↑(List.length l) : Int), PV.int IntKind.i64 (↑i : Int)] [])) : Holds (wpc br Try.prog gl TP1 [] (fun _ => 0) (subOf [1, 0, 1, 0] (bodyOf Try.f99)) [] (envS [0, 1, 4, 7, 8] [.list (l.map u1) .no, .fn 71 [], .int .i64 0, .int .i64 l.length, .int .i64 i]) [] (fun ex e H => R ex (List.map e [0, 1, 4, 7, 8]) H)) := holds_of_eq (by kernel_rfl) h
def ifp_l : LSp := fun e H Q => ∃ (l : List (Int)) , l.length ≤ 1000000 ∧ (True) ∧ SlIs (List.map e [0, 1, 4, 7, 8]) [.list (l.map u1) .no, .fn 71 [], .int .i64 0, .int .i64 l.length, .int .i64 0] ∧ HpIs H [] ∧
  (l.findIdx (fun x => !rightS x) < l.length → Q .ret (envS [0, 1, 4, 7, 8] [.list (l.map u1) .no, .fn 71 [], .int .i64 (l.findIdx (fun x => !rightS x)), .int .i64 l.length, .int .i64 (l.findIdx (fun x => !rightS x))]) []) ∧ (l.findIdx (fun x => !rightS x) = l.length → Q (.exit 0) (envS [0, 1, 4, 7, 8] [.list (l.map u1) .no, .fn 71 [], .int .i64 0, .int .i64 l.length, .int .i64 l.length]) [])
theorem ifp_l_ok : ∀ e H Q, ifp_l e H Q → AW Try.prog gl Try.f99.ntmps (.loop (subOf [1, 0, 1, 0] (bodyOf Try.f99))) Q e H := by
  rintro e H Q ⟨l, hl, _, he, hH, hQ1, hQ2⟩
  have hfl : l.findIdx (fun x => !rightS x) ≤ l.length := List.findIdx_le_length
  refine aw_loop4 (hn := fun _ => 0) gl_low (TP1_ok) (.nil _ _ _ _ _) (σ := Nat) [0, 1, 4, 7, 8] (fun i => i ≤ l.findIdx (fun x => !rightS x)) (fun i => [.list (l.map u1) .no, .fn 71 [], .int .i64 0, .int .i64 l.length, .int .i64 i]) (fun _ => []) (fun i => l.length - i) 0 (Nat.zero_le _) he hH ?_
  intro i hi
  have hi' : i ≤ l.findIdx (fun x => !rightS x) := hi
  refine ifp_vc l  i _ ?_
  simp only [br_if, dt, toNat_nat, inL_u1]
  by_cases h : i < l.length
  · rw [if_pos (by omega)]
    simp only [getD_map 0 h]
    repeat (first | refine ⟨h, ?_⟩ | rw [if_pos (by rfl)])
    refine ⟨l.getD i 0, rfl, ?_⟩
    by_cases c : (fun x => !rightS x) (l.getD i 0) = true
    · have hge : l.findIdx (fun x => !rightS x) = i := fidx_stop 0 hi' h c
      rw [hge] at hQ1
      rw [if_pos (by exact c)]
      repeat (first | refine ⟨h, ?_⟩ | rw [if_pos (by rfl)])
      exact hQ1 h
    · have hlt : i < l.findIdx (fun x => !rightS x) := fidx_step 0 hi' h (by simpa using c)
      rw [if_neg (by exact c)]
      exact ⟨i + 1, (show l.length - (i + 1) < l.length - i by omega), hlt, by rw [wI_succ h (by omega)], [], rfl, Nat.le_refl _, .inl rfl⟩
  · rw [if_neg (by omega)]
    have : i = l.length := by omega
    subst this
    exact hQ2 (by omega)
theorem ifp1_vc (l : List Int)  (K : PV → Prop) (h : ∃ (l_1 : List Int), List.length l_1 ≤ 1000000 ∧ True ∧ SlIs [PV.list (List.map u1 l) Tail.no, PV.fn 71 [], PV.int IntKind.i64 0, PV.int IntKind.i64 (↑(List.length (List.map u1 l)) : Int), PV.int IntKind.i64 0] [PV.list (List.map u1 l_1) Tail.no, PV.fn 71 [], PV.int IntKind.i64 0, PV.int IntKind.i64 (↑(List.length l_1) : Int), PV.int IntKind.i64 0] ∧ HpIs [] [] ∧ (List.findIdx (fun (x : Int) => !rightS x) l_1 < List.length l_1 → K (PV.int IntKind.i64 (↑(List.findIdx (fun (x : Int) => !rightS x) l_1) : Int))) ∧ (List.findIdx (fun (x : Int) => !rightS x) l_1 = List.length l_1 → K (PV.int IntKind.i64 (-1)))) : ACalls Try.prog gl 99 [.list (l.map u1) .no, .fn 71 []] [] (fun x _ => K x) :=
  acalls_of_wpc2 (T := TP1) (L := [([1, 0, 1, 0], ifp_l)]) (fun _ => 0) Try.func99 (by kernel_rfl) (by kernel_rfl) (by kernel_rfl) (TP1_ok) (.cons (sub_of (by kernel_rfl)) ifp_l_ok (.nil _ _ _ _ _)) (holds_of_eq (by kernel_rfl) h)
def ixP (l : List Int) : Int := if l.findIdx (fun x => !rightS x) < l.length then (l.findIdx (fun x => !rightS x) : Int) else -1
def ixP_s (args : List PV) (K : PV → Prop) : Prop := ∃ l : List Int, SlIs args [.list (l.map u1) .no, .fn 71 []] ∧ l.length ≤ 1000000 ∧ K (.int .i64 (ixP l))
theorem low_fn0 {n : Nat} (k : Nat) : Low n (.fn k []) := .fn _ _ (fun _ h => nomatch h)
theorem ixP_ok : SpOk Try.prog gl 99 (.pure ixP_s) := by
  rintro args K ⟨l, he, hl, hk⟩
  have he : args = _ := he
  subst he
  refine spure gl_low (low_two (low_us l) (low_fn0 _)) (.int _ _) (ifp1_vc l (fun x => x = .int .i64 (ixP l)) ⟨l, hl, trivial, (by show _ = _; simp only [List.length_map]), rfl, fun h => ?_, fun h => ?_⟩) hk
  · unfold ixP; rw [if_pos h]
  · unfold ixP; rw [if_neg (by omega)]
def TP2 : Tab := [(99, .pure ixP_s)]
theorem TP2_ok : TabOk Try.prog gl TP2 := .cons ixP_ok (.nil _ _)
theorem cfu1_vc (l : List Int)  (K : PV → Prop) (h : ∃ (l_1 : List Int), SlIs [PV.list (List.map u1 l) Tail.no, PV.fn 71 []] [PV.list (List.map u1 l_1) Tail.no, PV.fn 71 []] ∧ List.length l_1 ≤ 1000000 ∧ K (PV.bool (decide (ixP l_1 ≥ 0)))) : ACalls Try.prog gl 70 [.list (l.map u1) .no, .fn 71 []] [] (fun x _ => K x) :=
  acalls_of_wpc2 (T := TP2) (L := []) (fun _ => 0) Try.func70 (by kernel_rfl) (by kernel_rfl) (by kernel_rfl) (TP2_ok) (LOk.nil _ _ _ _ _) (holds_of_eq (by kernel_rfl) h)
def badP (l : List Int) : Bool := l.any fun x => !rightS x
theorem ixP_bad (l : List Int) : decide (ixP l ≥ 0) = badP l := by
  unfold ixP badP
  have h : l.findIdx (fun x => !rightS x) < l.length ↔ (l.any fun x => !rightS x) = true := by
    rw [List.findIdx_lt_length, List.any_eq_true]
  by_cases c : l.findIdx (fun x => !rightS x) < l.length
  · rw [if_pos c, h.1 c, decide_eq_true (by omega)]
  · rw [if_neg c, decide_eq_false (by omega)]
    have := fun k => c (h.2 k)
    simpa using this
def cfu_s (args : List PV) (K : PV → Prop) : Prop := ∃ l : List Int, SlIs args [.list (l.map u1) .no, .fn 71 []] ∧ l.length ≤ 1000000 ∧ K (.bool (badP l))
theorem cfu_ok : SpOk Try.prog gl 70 (.pure cfu_s) := by
  rintro args K ⟨l, he, hl, hk⟩
  have he : args = _ := he
  subst he
  exact spure gl_low (low_two (low_us l) (low_fn0 _)) (.bool _) (cfu1_vc l (fun x => x = .bool (badP l)) ⟨l, rfl, hl, by rw [ixP_bad]⟩) hk
end Go.Proofs.Ytcmknbanojcbaaa
