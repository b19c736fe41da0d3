/-
  An abstract machine over values without memory, proved against the model; part 12. A tool for the proofs of this claim; it states nothing of the program.
-/
import Derived.Test.YtmcincfonnfblaaA11
/-! AM, part 12: each operation's word is true of the machine. -/
namespace Go.AM
open Go

theorem builtin_run {P : Program} {w : World} {b : Builtin} {ts : Array TypeId} {ty : TypeId} {cs : Array Bool} {vs : Array Value} {s : Sem Value}
    (h : builtin b ts ty cs vs = (do pure (.value (← s)))) {g : Gh} {H : Heap} {K : PV → Heap → Prop} (hv : VOk P s g H w K) : NOk P (builtin b ts ty cs vs) g H w K := by
  rw [h]; exact hv.next

theorem list_two {xs : List PV} {vs : Array Value} {g : Gh} {w : World} {x y : PV} (h : RelL g w xs vs.toList) (e : xs = [x, y]) : ∃ v u, vs = #[v, u] ∧ Rel g w x v ∧ Rel g w y u := by
  subst e
  obtain ⟨vs⟩ := vs
  simp only at h
  match vs, h with
  | [v, u], h => exact ⟨v, u, rfl, h.2 0 x v rfl rfl, h.2 1 y u rfl rfl⟩
  | [], h => have := h.1; simp at this
  | [_], h => have := h.1; simp at this
  | _ :: _ :: _ :: _, h => have := h.1; simp at this

theorem list_one {xs : List PV} {vs : Array Value} {g : Gh} {w : World} {x : PV} (h : RelL g w xs vs.toList) (e : xs = [x]) : ∃ v, vs = #[v] ∧ Rel g w x v := by
  subst e
  obtain ⟨vs⟩ := vs
  simp only at h
  match vs, h with
  | [v], h => exact ⟨v, rfl, h.2 0 x v rfl rfl⟩
  | [], h => have := h.1; simp at this
  | _ :: _ :: _, h => have := h.1; simp at this

theorem builtinK_sound {P : Program} {g : Gh} {H : Heap} {w : World} {K : PV → Heap → Prop} (hS : Sim g H w) {b : Builtin} {ts : Array TypeId} {args : List PV} {m : Nat} {vs : Array Value} (hr : RelL g w args vs.toList)
    (h : builtinK P b ts args m H K) (ty : TypeId) (cs : Array Bool) : NOk P (builtin b ts ty cs vs) g H w K := by
  unfold builtinK at h
  split at h
  · -- len
    split at h
    · rename_i t x ht
      split at h
      · rename_i n hn
        obtain ⟨v, rfl, hv⟩ := list_one hr rfl
        exact builtin_run (s := Builtin.len_ ts ty #[v]) rfl (VOk.same hS (lenA_run hv ht hn ty) (.int _ _) h)
      · exact h.elim
    · exact h.elim
  · -- cap
    split at h
    · rename_i t o off len cap ht
      obtain ⟨⟨e, hu⟩, hk⟩ := h
      obtain ⟨v, rfl, hv⟩ := list_one hr rfl
      exact builtin_run (s := Builtin.cap_ ts ty #[v]) rfl (VOk.same hS (capA_run hv ht hu ty) (.int _ _) hk)
    · exact h.elim
  · -- min
    split at h
    · rename_i z hz
      obtain ⟨r, h1, h2⟩ := minA_run (P := P) hr hz ts ty
      exact builtin_run (s := Builtin.min_ ts ty vs) rfl (VOk.same hS h1 h2 h)
    · exact h.elim
  · -- max
    split at h
    · rename_i z hz
      obtain ⟨r, h1, h2⟩ := maxA_run (P := P) hr hz ts ty
      exact builtin_run (s := Builtin.max_ ts ty vs) rfl (VOk.same hS h1 h2 h)
    · exact h.elim
  · -- append
    split at h
    · rename_i sz by_ z es tl y ha
      obtain ⟨v, u, rfl, hv, hu⟩ := list_two hr rfl
      refine builtin_run (s := Builtin.append_ ts ty #[v, u]) rfl ?_
      split at h
      · obtain ⟨rfl, rfl, h⟩ := h
        split at h
        · rename_i ys n hs
          exact vok_append_new hS ha ty hv hu hs h.1 h.2.1 h.2.2.1 h.2.2.2
        · exact h.elim
      · split at h
        · rename_i ys tly
          obtain ⟨h1, h2, h3, h4⟩ := h
          split at h4
          · obtain ⟨h5, h6, h7⟩ := h4
            exact vok_append_tok hS ha ty hv hu rfl h1 h2 h5 h6 h3 h7
          · obtain ⟨h5, h6, h7⟩ := h4
            by_cases h0 : ys = []
            · subst h0
              exact vok_append_none hS ha ty hv hu h1 (h6 rfl)
            · exact vok_append_tok hS ha ty hv hu rfl h1 h2 h5 h0 h3 (h7 h0)
          · obtain ⟨rfl, hk⟩ := h4
            exact vok_append_full hS ha ty hv hu rfl h1 h2 h3 hk
        · exact h.elim
    · rename_i sz by_ z o off len cap y ha
      obtain ⟨v, u, rfl, hv, hu⟩ := list_two hr rfl
      refine builtin_run (s := Builtin.append_ ts ty #[v, u]) rfl ?_
      split at h
      · rename_i cs' ys n ho hs
        obtain ⟨h1, h2, h3, h4, h5, h6⟩ := h
        split at h6
        · exact vok_append_arr hS ha ty hv ho h1 h2 hu hs h3 h4 h5 (fun _ => h6.2) (fun hc => absurd h6.1 (by omega))
        · exact vok_append_arr hS ha ty hv ho h1 h2 hu hs h3 h4 h5 h6.1 h6.2
      · exact h.elim
    · rename_i o off len cap kd n ha
      obtain ⟨v, u, rfl, hv, hu⟩ := list_two hr rfl
      refine builtin_run (s := Builtin.append_ ts ty #[v, u]) rfl ?_
      split at h
      · rename_i sz by_ z cs' hz ho
        obtain ⟨h1, h2, h3, h4, h5, _, h7⟩ := h
        exact vok_append_zeros hS hz ty hv ho h1 h2 hu h3 h4 h5 h7
      · exact h.elim
    · exact h.elim
  · -- copy
    split at h
    · rename_i t o off len cap y ht
      split at h
      · rename_i b' sz by_ et hel
        split at h
        · rename_i cs' ys n ho hs
          obtain ⟨v, u, rfl, hv, hu⟩ := list_two hr rfl
          exact builtin_run (s := Builtin.copy_ ts ty #[v, u]) rfl (vok_copy hS ht hel ty hv ho h.1 hu hs h.2.1 h.2.2.1 h.2.2.2)
        · exact h.elim
      · exact h.elim
    · exact h.elim
  · -- clear
    split at h
    · rename_i t o off len cap ht
      split at h
      · rename_i b' sz by_ et hel
        split at h
        · rename_i cs' z ho hz
          obtain ⟨v, rfl, hv⟩ := list_one hr rfl
          exact builtin_run (s := Builtin.clear_ ts ty #[v]) rfl (vok_clear hS ht hel ty hz h.1 h.2.1 hv ho h.2.2.1 h.2.2.2)
        · exact h.elim
      · exact h.elim
    · exact h.elim
  · exact h.elim

theorem callK_sound {P : Program} {gl : Glob} {g : Gh} {H : Heap} {w : World} {K : PV → Heap → Prop} (hS : Sim g H w) (hG : GlobOk g w gl) {c : Call} {m : Nat} {ρ : Operand → PV} {α : Operand → Value} (hρ : ∀ x, Rel g w (ρ x) (α x))
    (h : callK P gl c m ρ H K) (ty : TypeId) : NOk P (do let d ← resolve α c ty; invoke d.target d.args) g H w K := by
  unfold callK at h
  unfold resolve
  split at h
  · rename_i f hc
    rw [hc]
    split at h
    · rename_i k caps hf
      have hr := hρ f
      rw [hf] at hr
      obtain ⟨cv, hv, hcr⟩ := Rel.fn_iff.1 hr
      have hargs : RelL g w (c.args.toList.map ρ ++ caps) (c.args.map α ++ cv).toList := by
        simp only [Array.toList_append, Array.toList_map]
        exact (relL_map hρ _).append hcr
      have : (#[] ++ Array.map α c.args) = Array.map α c.args := by simp
      rcases h with ⟨hcall, hk⟩ | h
      · refine .inr (.inr ⟨k, c.args.map α ++ cv, ?_, hk g w _ hS hG hargs⟩)
        simp only [hv, Deferred.ofValue, Sem.run_bind, Sem.run_pure, Result.andThen_ok, invoke]
        rw [this]
        exact run_callFunc hcall _ w
      · obtain ⟨v, x, h1, h2, h3⟩ := h g w _ hS hargs
        refine .inl ⟨v, w, g, H, x, ?_, hS, .refl g H w, h2, h3⟩
        simp only [hv, Deferred.ofValue, Sem.run_bind, Sem.run_pure, Result.andThen_ok, invoke]
        rw [this]
        exact h1
    · exact h.elim
  · rename_i b hc
    rw [hc]
    have hargs : RelL g w (c.args.toList.map ρ) (c.args.map α).toList := by
      simp only [Array.toList_map]
      exact relL_map hρ _
    have := builtinK_sound (P := P) hS hargs h ty (c.args.map fun | .const _ => true | _ => false)
    exact this
  · exact h.elim

theorem parts_rel {g : Gh} {w : World} {ρ : Operand → PV} {α : Operand → Value} (hρ : ∀ x, Rel g w (ρ x) (α x)) (parts : Array (Nat × Operand)) :
    (parts.map (fun (x : Nat × Operand) => (x.1, α x.2))).toList.map (·.1) = (parts.toList.map fun p => (p.1, ρ p.2)).map (·.1) ∧
      RelL g w ((parts.toList.map fun p => (p.1, ρ p.2)).map (·.2)) ((parts.map (fun (x : Nat × Operand) => (x.1, α x.2))).toList.map (·.2)) := by
  constructor
  · simp
  · simp only [Array.toList_map, List.map_map]
    have h1 : ((fun (x : Nat × PV) => x.2) ∘ fun (p : Nat × Operand) => (p.1, ρ p.2)) = ρ ∘ (·.2) := rfl
    have h2 : ((fun (x : Nat × Value) => x.2) ∘ fun (p : Nat × Operand) => (p.1, α p.2)) = α ∘ (·.2) := rfl
    rw [h1, h2, ← List.map_map, ← List.map_map]
    exact relL_map hρ _

theorem isNilSlice_spec {y : Operand} (h : isNilSlice y = true) : y = .const (.slice none 0 0) := by
  unfold isNilSlice at h
  split at h
  · rfl
  · cases h

theorem opw_sound {P : Program} {gl : Glob} {g : Gh} {H : Heap} {w : World} {K : PV → Heap → Prop} (hS : Sim g H w) (hG : GlobOk g w gl) {o : Oper} {m : Nat} {ρ : Operand → PV} {a : Act} (hρ : ∀ x, Rel g w (ρ x) (a.eval x))
    (h : opw P gl o.op m ρ H K) : NOk P (execOp a.eval o) g H w K := by
  unfold execOp
  generalize o.op = op at h
  cases op <;> simp only [opw] at h <;> simp only
  case move x => exact .inl ⟨_, w, g, H, _, rfl, hS, .refl g H w, hρ x, h⟩
  case assign x => exact .inl ⟨_, w, g, H, _, rfl, hS, .refl g H w, hρ x, h⟩
  case pick c x y =>
    split at h
    · rename_i t ht
      have hc := hρ c
      rw [ht] at hc
      generalize hv : a.eval c = v at hc
      cases hc
      refine .inl ⟨if t = true then a.eval x else a.eval y, w, g, H, _, ?_, hS, .refl g H w, ?_, h⟩
      · simp [asBool]
      · cases t
        · exact hρ y
        · exact hρ x
    · exact h.elim
  case alloc t =>
    split at h
    · rename_i cs hz; exact (vok_alloc hS hz h).next
    · exact h.elim
  case box t x =>
    split at h
    · rename_i cs hc; exact (vok_box hS (hρ x) hc h).next
    · exact h.elim
  case build t parts =>
    split at h
    · rename_i cs hc
      obtain ⟨h1, h2⟩ := parts_rel hρ parts
      obtain ⟨r, h3, h4⟩ := buildA_run (P := P) h1 h2 hc
      exact (VOk.same hS h3 h4 h).next
    · exact h.elim
  case buildSlice t len parts =>
    split at h
    · rename_i b sz by_ et hel
      split at h
      · rename_i z hz
        obtain ⟨hzs, hs0, hn, h⟩ := h
        split at h
        · rename_i es he
          obtain ⟨h1, h2⟩ := parts_rel hρ parts
          exact (vok_buildSlice hS hel hz hzs hs0 hn h1 h2 he h).next
        · exact h.elim
      · exact h.elim
    · exact h.elim
  case load t x =>
    split at h
    · rename_i cs b sz hb ht
      split at h
      · rename_i y hl; exact (vok_load hS (hρ x) hb ht hl h.2).next
      · exact h.elim
    · exact h.elim
  case store t x y =>
    split at h
    · rename_i o' off b sz xs hx ht hc
      split at h
      · rename_i cs ho
        obtain ⟨h1, h2, h3, hk⟩ := h
        have hp := hρ x
        rw [hx] at hp
        generalize hv : a.eval x = v at hp
        cases hp
        obtain ⟨w', k1, k2, k3⟩ := store_obj (P := P) hS ho ht ((hρ y).cells_of hc) h1 h2 h3.1
        refine .inr (.inl ⟨w', g, _, ?_, k2, k3, hk⟩)
        simp [Instr.storeAt, Instr.sureAddr, k1]
      · exact h.elim
    · exact h.elim
  case nilCheck x =>
    have hr := hρ x
    split at h
    · rename_i o' off hx
      rw [hx] at hr
      generalize hv : a.eval x = v at hr
      cases hr
      rename_i ho
      exact .inl ⟨_, w, g, H, _, rfl, hS, .refl g H w, .ptr o' off ho, h⟩
    · rename_i cs hx
      rw [hx] at hr
      obtain ⟨A, hv, hi⟩ := Rel.iptr_iff.1 hr
      rw [hv]
      exact .inl ⟨_, w, g, H, _, rfl, hS, .refl g H w, Rel.iptr_iff.2 ⟨A, rfl, hi⟩, h⟩
    · rename_i f caps hx
      rw [hx] at hr
      obtain ⟨vs, hv, hi⟩ := Rel.fn_iff.1 hr
      rw [hv]
      exact .inl ⟨_, w, g, H, _, rfl, hS, .refl g H w, Rel.fn_iff.2 ⟨vs, rfl, hi⟩, h⟩
    · exact h.elim
  case binOp op t x y yt =>
    split at h
    · rename_i hn
      have hy := isNilSlice_spec hn
      subst hy
      obtain ⟨r, z, h1, h2, h3⟩ := nilK_run (P := P) (hρ x) x (.const (.slice none 0 0)) h
      exact (VOk.same hS h1 h2 h3).next
    · obtain ⟨r, z, h1, h2, h3⟩ := binK_run (P := P) (hρ x) (hρ y) x y h
      exact (VOk.same hS h1 h2 h3).next
  case unOp op t x =>
    split at h
    · rename_i y hy
      obtain ⟨r, h1, h2⟩ := unA_run (P := P) (hρ x) hy
      exact (VOk.same hS h1 h2 h).next
    · exact h.elim
  case convert s d x =>
    split at h
    · rename_i y hy
      obtain ⟨r, h1, h2⟩ := convA_run (P := P) (hρ x) hy
      exact (VOk.same hS h1 h2 h).next
    · exact h.elim
  case makeFunc fn first caps =>
    split at h
    · rename_i f
      obtain ⟨rfl, hk⟩ := h
      refine .inl ⟨.func (.func f) #[] (caps.map a.eval), w, g, H, _, by simp [Instr.makeFunc], hS, .refl g H w, Rel.fn_iff.2 ⟨_, rfl, ?_⟩, hk⟩
      simp only [Array.toList_map]
      exact relL_map hρ _
    · exact h.elim
  case makeSlice t l c =>
    split at h
    · rename_i b sz by_ et k l' k' c' hel hl hc
      split at h
      · rename_i z hz
        obtain ⟨h1, h2, h3, h4, h5, h6, hk⟩ := h
        have hl' := hρ l
        have hc' := hρ c
        rw [hl] at hl'
        rw [hc] at hc'
        exact (vok_makeSlice hS hel hz h1 h2 hl' hc' h3 h4 h5 h6 hk).next
      · exact h.elim
    · exact h.elim
  case slice t x lo hi mx =>
    have hr := hρ x
    have hmx : (hi = none → mx = none) → (hi.map ρ = none → mx.map ρ = none) := by
      intro hh he
      cases hi with
      | none => rw [hh rfl]; rfl
      | some y => cases he
    split at h
    · rename_i b sz by_ et es tl hel hx
      rw [hx] at hr
      split at h
      · rename_i l h' m' e1 e2 e3
        obtain ⟨h1, h2, h3, h4, h5, h6, hk⟩ := h
        exact (vok_slice_list hS hel hr (opt_map hρ lo) (opt_map hρ hi) (opt_map hρ mx) e1 e2 e3 h1 h2 h3 h4 (hmx h5) h6 hk).next
      · exact h.elim
    · rename_i b sz by_ et o' off len cap hel hx
      rw [hx] at hr
      split at h
      · rename_i l h' m' e1 e2 e3
        obtain ⟨h1, h2, h3, h4, h5, hk⟩ := h
        exact (vok_slice_arr hS hel hr (opt_map hρ lo) (opt_map hρ hi) (opt_map hρ mx) e1 e2 e3 h1 h2 h3 h4 (hmx h5) hk).next
      · exact h.elim
    · exact h.elim
  case fieldAddr s x f =>
    split at h
    · rename_i off b sz hf
      split at h
      · rename_i y hy; exact (vok_fieldAddr hS hf (hρ x) hy h).next
      · exact h.elim
    · exact h.elim
  case field s x f =>
    split at h
    · rename_i off b sz cs hf hx
      have hr := hρ x
      rw [hx] at hr
      split at h
      · rename_i y hy; exact (vok_field hS hf hr hy h).next
      · exact h.elim
    · exact h.elim
  case indexAddr t x i =>
    have hri := hρ i
    have hrx := hρ x
    split at h
    · rename_i b sz by_ et k n hel hi
      rw [hi] at hri
      split at h
      · rename_i es tl hx
        rw [hx] at hrx
        obtain ⟨h0, h⟩ := h
        split at h
        · rename_i e he
          exact (vok_indexAddr_list hS hel hrx hri h0 he h.1 h.2.1 h.2.2).next
        · exact h.elim
      · rename_i o' off len cap hx
        rw [hx] at hrx
        exact (vok_indexAddr_arr hS hel hrx hri h.1 h.2.1 h.2.2).next
      · exact h.elim
    · rename_i mm b sz by_ et k n hel hi
      rw [hi] at hri
      obtain ⟨h0, h1, h⟩ := h
      split at h
      · rename_i y hy
        exact (vok_indexAddr_array hS hel hrx hri h0 h1 hy h).next
      · exact h.elim
    · exact h.elim
  case index t x i =>
    have hri := hρ i
    have hrx := hρ x
    split at h
    · rename_i mm b sz by_ et cs k n hel hx hi
      rw [hi] at hri
      rw [hx] at hrx
      obtain ⟨h0, h1, h⟩ := h
      split at h
      · rename_i y hy
        exact (vok_index hS hel hrx hri h0 h1 hy h).next
      · exact h.elim
    · exact h.elim
  case extract t i =>
    split at h
    · rename_i vs ht
      split at h
      · rename_i y hy
        have hr := hρ t
        rw [ht] at hr
        obtain ⟨us, hv, hus⟩ := Rel.tup_iff.1 hr
        obtain ⟨u, hu, hrel⟩ := hus.get hy
        rw [Array.getElem?_toList] at hu
        refine (VOk.same hS (v := u) ?_ hrel h).next
        rw [hv]
        simp [Instr.extract, hu]
      · exact h.elim
    · exact h.elim
  case call c => exact callK_sound hS hG hρ h o.type

end Go.AM
