/-
  The document's Sit.
-/
import Derived.Test.YtenaelaapdhbdaaDoorDw
import Derived.Test.YtenaelaapdhbdaaDoorA4
import Derived.Test.YtenaelaapdhbdaaDoorProg
namespace Go.Proofs.YtenaelaapdhbdaaDoor
open Go Go.AM Go.Proofs
def cO:Mt→List Int→Int→List Se
 | _,[],_=>[]
 | c,p::ps,t=>fO c.aa p t::cO (fG c p t) ps t
def newR:Mt→List Rr→List Se
 | _,[]=>[]
 | c,r::l=>cO c r.pl r.tm++newR (fh c r) l
theorem qj (p t:Int):∀(ps:List Int) (c:Mt),cO c (ps++[p]) t=cO c ps t++[fO (cC c ps t).aa p t]
 | [],_=>rfl
 | q::ps,c=>by show fO c.aa q t::cO (fG c q t) (ps++[p]) t=_; rw[qj p t ps]; rfl
theorem mT {c:Mt} {ps:List Int} {t:Int} {k:Nat} (h:k<ps.length):cO c (ps.take (k+1)) t=cO c (ps.take k) t++[fO (cC c (ps.take k) t).aa (ps.getD k 0) t]:=by rw[bh 0 h,qj]
theorem qK (r:Rr):∀(l:List Rr) (c:Mt),newR c (l++[r])=newR c l++cO (aB c l) r.pl r.tm
 | [],c=>by show cO c r.pl r.tm++[]=_; rw[List.append_nil]; rfl
 | q::l,c=>by show cO c q.pl q.tm++newR (fh c q) (l++[r])=(cO c q.pl q.tm++newR (fh c q) l)++_; rw[qK r l,List.append_assoc]; rfl
theorem mF {c:Mt} {l:List Rr} {k:Nat} (h:k<l.length):newR c (l.take (k+1))=newR c (l.take k)++cO (aB c (l.take k)) (l.getD k default).pl (l.getD k default).tm:=by rw[bh default h,qK]
theorem fF (t:Int):∀(ps:List Int) (c:Mt),(cO c ps t).length=ps.length
 | [],_=>rfl
 | p::ps,c=>by show(_::cO _ ps t).length=_; rw[List.length_cons,fF t ps,List.length_cons]
theorem gD:∀(l:List Rr) (c:Mt),(newR c l).length=tot l
 | [],_=>rfl
 | r::l,c=>by show(cO c r.pl r.tm++newR _ l).length=_; rw[List.length_append,fF,gD l]; unfold tot; simp
theorem lJ (t:Int):∀(ps:List Int) (c:Mt) (b:List Se),b.Perm c.aa→(b++cO c ps t).Perm (cC c ps t).aa
 | [],c,b,h=>by show(b++[]).Perm _; rw[List.append_nil]; exact h
 | p::ps,c,b,h=>by
  show(b++(fO c.aa p t::cO (fG c p t) ps t)).Perm (cC (fG c p t) ps t).aa
  rw[show b++(fO c.aa p t::cO (fG c p t) ps t)=(b++[fO c.aa p t])++cO (fG c p t) ps t by simp]
  refine lJ t ps (fG c p t) _ ?_
  refine List.perm_append_comm.trans ?_
  exact(h.cons (fO c.aa p t)).trans (g9 c.aa (cW c.aa) (fO c.aa p t)).symm
theorem nU:∀(l:List Rr) (c:Mt) (b:List Se),b.Perm c.aa→(b++newR c l).Perm (aB c l).aa
 | [],c,b,h=>by show(b++[]).Perm _; rw[List.append_nil]; exact h
 | r::l,c,b,h=>by
  show(b++(cO c r.pl r.tm++newR (fh c r) l)).Perm (aB (fh c r) l).aa
  rw[← List.append_assoc]
  exact nU l (fh c r) _ (lJ r.tm r.pl c b h)
theorem SO.gap {s:List Se} (h:SO s):∀ x∈s,x.nu≠(cW s:Int):=by
 intro x hx e
 obtain⟨i,hi,rfl⟩:=List.mem_iff_getElem.1 hx
 by_cases c:i<cW s
 ·have h1:=nT c
  rw[List.getD_eq_getElem?_getD,List.getElem?_eq_getElem hi,Option.getD_some] at h1
  omega
 ·have hg:cW s<s.length:=by omega
  have h1:=h.ge (cW s) hg
  have h2:=sC hg
  rw[List.getD_eq_getElem?_getD,List.getElem?_eq_getElem hg,Option.getD_some] at h1 h2
  rcases Nat.eq_or_lt_of_le (Nat.not_lt.1 c) with e2|c2
  ·subst e2; omega
  ·have:=List.pairwise_iff_getElem.1 h.sn (cW s) i hg hi c2
   omega
theorem rA {b s:List Se} (h:SO s) (hp:b.Perm s):fC b (cW s) = -1∧∀ k,k<cW s→0≤fC b k:=by
 constructor
 ·unfold fC
  rw[if_neg]
  intro hl
  obtain⟨x,hx,e⟩:=List.findIdx_lt_length.1 hl
  exact h.gap x (hp.subset hx) (eq_of_beq e)
 ·intro k hk
  unfold fC
  rw[if_pos]
  ·omega
  ·have hl:=eU s
   refine List.findIdx_lt_length.2 ⟨s.getD k default,hp.symm.subset (aI (by omega)),?_⟩
   unfold nuT; rw[nT hk]; exact beq_self_eq_true _
theorem filter_lt {s:List Se} (h:s.Pairwise fun a b=>a.nu<b.nu) (n:Int):s.filter (fun x=>decide (x.nu<n+1))=s.filter (fun x=>decide (x.nu<n))++s.filter (fun x=>x.nu == n):=by
 induction s with
 | nil=>rfl
 | cons a s ih=>
  have ih:=ih (List.pairwise_cons.1 h).2
  have ha:=(List.pairwise_cons.1 h).1
  by_cases c1:a.nu<n
  ·rw[List.filter_cons_of_pos (by simpa using by omega),List.filter_cons_of_pos (by simpa using c1),List.filter_cons_of_neg (by simp; omega),ih]; rfl
  ·have e0:∀ x∈s,¬ x.nu≤n:=fun x hx=>by have:=ha x hx; omega
   have e1:s.filter (fun x=>decide (x.nu<n))=[]:=List.filter_eq_nil_iff.2 fun x hx=>by have:=e0 x hx; simp; omega
   have e2:s.filter (fun x=>x.nu == n)=[]:=List.filter_eq_nil_iff.2 fun x hx=>by have:=e0 x hx; simp; omega
   have e3:s.filter (fun x=>decide (x.nu<n+1))=[]:=List.filter_eq_nil_iff.2 fun x hx=>by have:=e0 x hx; simp; omega
   by_cases c2:a.nu=n
   ·rw[List.filter_cons_of_pos (by simp; omega),List.filter_cons_of_neg (by simp; omega),List.filter_cons_of_pos (by simp; omega),e1,e2,e3]; rfl
   ·rw[List.filter_cons_of_neg (by simp; omega),List.filter_cons_of_neg (by simp; omega),List.filter_cons_of_neg (by simp; omega),e1,e2,e3]; rfl
theorem filter_eq {b s:List Se} (h:s.Pairwise fun a b=>a.nu<b.nu) (hp:b.Perm s) (n:Int):s.filter (fun x=>x.nu == n)=if b.findIdx (nuT n)<b.length then [b.getD (b.findIdx (nuT n)) default] else []:=by
 by_cases c:b.findIdx (nuT n)<b.length
 ·rw[if_pos c]
  have h1:nuT n (b.getD (b.findIdx (nuT n)) default)=true:=by
   have:=List.findIdx_getElem (w:=c)
   rwa [List.getD_eq_getElem?_getD,List.getElem?_eq_getElem c]
  obtain⟨x,hx⟩:∃ x,x=b.getD (b.findIdx (nuT n)) default:=⟨_,rfl⟩
  have hm:x∈s:=hp.subset (by rw[hx]; exact aI c)
  rw[← hx] at h1 ⊢
  have h1:x.nu=n:=eq_of_beq h1
  clear hx c hp
  induction s with
  | nil=>cases hm
  | cons a s ih=>
   have ha:=(List.pairwise_cons.1 h).1
   rcases List.mem_cons.1 hm with rfl|hm
   ·rw[List.filter_cons_of_pos (by simp[h1]),List.filter_eq_nil_iff.2 fun y hy=>by have:=ha y hy; simp; omega]
   ·have:=ha x hm
    rw[List.filter_cons_of_neg (by simp; omega)]
    exact ih (List.pairwise_cons.1 h).2 hm
 ·rw[if_neg c,List.filter_eq_nil_iff]
  intro x hx e
  exact c (List.findIdx_lt_length.2 ⟨x,hp.symm.subset hx,e⟩)
theorem pQ {b s:List Se} (h:SO s) (hp:b.Perm s):∀ i:Nat,byI b i=s.filter fun x=>decide (x.nu<(i:Int))
 | 0=>by
  rw[List.filter_eq_nil_iff.2 fun x hx=>by have:=h.lo x hx; simp; omega]; rfl
 | i+1=>by
  have:=filter_lt h.sn (i:Int)
  rw[pg,pQ h hp i,show(((i+1:Nat):Int))=(i:Int)+1 by omega,this,filter_eq h.sn hp]
theorem JM {b s:List Se} (h:SO s) (hp:b.Perm s) (hb:∀ x∈s,x.nu<8):byI b 8=s:=by
 rw[pQ h hp]
 exact List.filter_eq_self.2 fun x hx=>by have:=hb x hx; simp; omega
def TSJ:Tab:=[(62,.pure wq),(63,.pure Jh)]
theorem gR:aE Tryd.prog gl TSJ:= .cons xH (.cons KM (.nil _ _))
theorem xW {p z:List PV} (hp:∀ x∈p,Low 0 x) (hz:∀ x∈z,Low 0 x):pY [.cells p,.cells z]:=by
 intro o cs ho
 have k1:=(List.getElem?_eq_some_iff.1 ho).1
 simp at k1
 have:o=0∨o=1:=by omega
 rcases this with rfl|rfl<;>cases ho<;>intro x hx<;>first|exact .inl (hp x hx)|exact .inl (hz x hx)
theorem sX {l:List Rr} {z:List PV} (hz:∀ x∈z,Low 0 x):Me 2 (fun T=> .list (l.map rrc) .no :: .ptr 0 0 :: .ptr 1 0::T::z):=by
 intro ρ n k es h1 h2 h3 h4
 have e0:=Ren.ptr (ρ:=ρ) (n:=n) 0 0 (by omega)
 have e1:=Ren.ptr (ρ:=ρ) (n:=n) 1 0 (by omega)
 rw[h1 0 (by decide)] at e0
 rw[h1 1 (by decide)] at e1
 exact .cons (.low (aR _)) (.cons e0 (.cons e1 (.cons (.ltok es k h3 h4) (aW.low hz))))
theorem Jr (p z:List PV) (l:List Rr) (i k n:Nat):(by refine(?_:_→_→Prop) [PV.list (l.map rrc) .no,.ptr 0 0,.ptr 1 0,.list [] .exact,.int .i64 i,.int .i64 k,.int .i64 n] [Ob.cells p,.cells z]; exact fun a b=>∀(R:Ex→List PV→ag→Prop),(∃(l_1:List Se) (tl:Tail) (t:Int),ak [.list [] .exact,.int .i64 n] [.list (l_1.map stc) tl,.int .i64 t]∧l_1.length≤1000000∧br (decide (fC l_1 t≥0)) (R .normal [.list (l.map rrc) .no,.ptr 0 0,.ptr 1 0,.list [] .exact,.int .i64 i,.int .i64 k,.int .i64 (wI ((n:Int)+1))] b) (R (.exit 4) a b))→Holds (wpc br Tryd.prog gl TSJ [] (fun _=>0) (av [1,1,1,0,1,0,0,1,0,0,1,0,0,1,0,0,1,0,0] (aj Tryd.f37)) [] (ax [1,2,4,5,6,7,8] a) b (fun ex e H=>R ex (List.map e [1,2,4,5,6,7,8]) H)):Prop):=fun R h=>ah (by kernel_rfl) h
def xK:LSp:=fun e H Q=>∃(p z:List PV) (l:List Rr) (i k g:Nat),g≤1000000∧fC [] g = -1∧(∀ k:Nat,k<g→0≤fC [] k)∧ak (List.map e [1,2,4,5,6,7,8]) [.list (l.map rrc) .no,.ptr 0 0,.ptr 1 0,.list [] .exact,.int .i64 i,.int .i64 k,.int .i64 0]∧aC H [.cells p,.cells z]∧Q (.exit 4) (ax [1,2,4,5,6,7,8] [.list (l.map rrc) .no,.ptr 0 0,.ptr 1 0,.list [] .exact,.int .i64 i,.int .i64 k,.int .i64 g]) [.cells p,.cells z]
theorem Bc:∀ e H Q,xK e H Q→AW Tryd.prog gl Tryd.f37.ntmps (.loop (av [1,1,1,0,1,0,0,1,0,0,1,0,0,1,0,0,1,0,0] (aj Tryd.f37))) Q e H:=by
 rintro e H Q ⟨p,z,l,i,k,g,hg,h1,h2,he,hH,hQ⟩
 have hH:H=_:=hH
 refine aL (hn:=fun _=>0) ay gR (.nil _ _ _ _ _) (σ:=Nat) [1,2,4,5,6,7,8] (fun n=>n≤g) (fun n=>[.list (l.map rrc) .no,.ptr 0 0,.ptr 1 0,.list [] .exact,.int .i64 i,.int .i64 k,.int .i64 n]) (fun _=>[.cells p,.cells z]) (fun n=>g-n) 0 (Nat.zero_le _) he hH ?_
 intro n hn
 have hn:n≤g:=hn
 refine Jr p z l i k n _ ?_
 refine⟨[],_,n,rfl,(by decide),?_⟩
 simp only[az,dt]
 by_cases c:n=g
 ·subst c
  rw[if_neg (by rw[h1]; decide)]
  exact hQ
 ·rw[if_pos (by have:=h2 n (by omega); omega)]
  exact⟨n+1,(show g-(n+1)<g-n by omega),(show n+1≤g by omega),by rw[aA (show n<g by omega) (by omega)],[],by rw[List.append_nil],Nat.le_refl _,.inl rfl⟩
theorem Kd (p z:List PV) (l:List Rr) (b:List Se) (i k n:Nat):(by refine(?_:_→_→Prop) (PV.list (b.map stc) (.tok 2)) [Ob.cells p,.cells z,.tok]; exact fun c d=>by refine(?_:_→Prop) [PV.list (l.map rrc) .no,.ptr 0 0,.ptr 1 0,c,.int .i64 i,.int .i64 k,.int .i64 n]; exact fun a=>∀(R:Ex→List PV→ag→Prop),(∃(l_1:List Se) (tl:Tail) (t:Int),ak [c,.int .i64 n] [.list (l_1.map stc) tl,.int .i64 t]∧l_1.length≤1000000∧br (decide (fC l_1 t≥0)) (R .normal [.list (l.map rrc) .no,.ptr 0 0,.ptr 1 0,c,.int .i64 i,.int .i64 k,.int .i64 (wI ((n:Int)+1))] d) (R (.exit 4) a d))→Holds (wpc br Tryd.prog gl TSJ [] (fun _=>0) (av [1,1,1,0,1,0,0,1,0,0,1,0,0,1,0,0,1,0,0] (aj Tryd.f37)) [] (ax [1,2,4,5,6,7,8] a) d (fun ex e H=>R ex (List.map e [1,2,4,5,6,7,8]) H)):Prop):=fun R h=>ah (by kernel_rfl) h
def xq:LSp:=fun e H Q=>∃(p z:List PV) (l:List Rr) (b:List Se) (i k g:Nat),b.length≤1000000∧g≤1000000∧fC b g = -1∧(∀ k:Nat,k<g→0≤fC b k)∧ak (List.map e [1,2,4,5,6,7,8]) [.list (l.map rrc) .no,.ptr 0 0,.ptr 1 0,.list (b.map stc) (.tok 2),.int .i64 i,.int .i64 k,.int .i64 0]∧aC H [.cells p,.cells z,.tok]∧Q (.exit 4) (ax [1,2,4,5,6,7,8] [.list (l.map rrc) .no,.ptr 0 0,.ptr 1 0,.list (b.map stc) (.tok 2),.int .i64 i,.int .i64 k,.int .i64 g]) [.cells p,.cells z,.tok]
theorem B4:∀ e H Q,xq e H Q→AW Tryd.prog gl Tryd.f37.ntmps (.loop (av [1,1,1,0,1,0,0,1,0,0,1,0,0,1,0,0,1,0,0] (aj Tryd.f37))) Q e H:=by
 rintro e H Q ⟨p,z,l,b,i,k,g,hb,hg,h1,h2,he,hH,hQ⟩
 have hH:H=_:=hH
 refine aL (hn:=fun _=>0) ay gR (.nil _ _ _ _ _) (σ:=Nat) [1,2,4,5,6,7,8] (fun n=>n≤g) (fun n=>[.list (l.map rrc) .no,.ptr 0 0,.ptr 1 0,.list (b.map stc) (.tok 2),.int .i64 i,.int .i64 k,.int .i64 n]) (fun _=>[.cells p,.cells z,.tok]) (fun n=>g-n) 0 (Nat.zero_le _) he hH ?_
 intro n hn
 have hn:n≤g:=hn
 refine Kd p z l b i k n _ ?_
 refine⟨b,_,n,rfl,hb,?_⟩
 simp only[az,dt]
 by_cases c:n=g
 ·subst c
  rw[if_neg (by rw[h1]; decide)]
  exact hQ
 ·rw[if_pos (by have:=h2 n (by omega); omega)]
  exact⟨n+1,(show g-(n+1)<g-n by omega),(show n+1≤g by omega),by rw[aA (show n<g by omega) (by omega)],[],by rw[List.append_nil],Nat.le_refl _,.inl rfl⟩
theorem DF:av [1,0,0,1,0,0] (av [1,1,1,0,1,0,0,1,0,0,1,0] (aj Tryd.f37))=av [1,1,1,0,1,0,0,1,0,0,1,0,0,1,0,0,1,0,0] (aj Tryd.f37):=by kernel_rfl
theorem zk:∀ e H Q,xK e H Q→AW Tryd.prog gl Tryd.f37.ntmps (.loop (av [1,0,0,1,0,0] (av [1,1,1,0,1,0,0,1,0,0,1,0] (aj Tryd.f37)))) Q e H:=by rw[DF]; exact Bc
theorem zM:∀ e H Q,xq e H Q→AW Tryd.prog gl Tryd.f37.ntmps (.loop (av [1,0,0,1,0,0] (av [1,1,1,0,1,0,0,1,0,0,1,0] (aj Tryd.f37)))) Q e H:=by rw[DF]; exact B4
theorem Lz (p z:List PV) (l:List Rr) (i k:Nat):(by refine(?_:_→_→_→Prop) [PV.list (l.map rrc) .no,.ptr 0 0,.ptr 1 0,.list [] .exact,.int .i64 i,.int .i64 k] (List.drop 1 (List.getD (l.map rrc) (Int.toNat (i:Int)) [])) [Ob.cells p,.cells z]; exact fun j m n=>∀(R:Ex→List PV→ag→Prop),(InL (l.map rrc) 4 (i:Int)∧br (true && aH [.list] 0 m) (br (decide ((k:Int)<(↑(List.length (cL m 0)):Int))) (∃(p_1:List PV) (z_1:List PV) (l_1:List Rr) (i_1:Nat) (k_1:Nat) (g:Nat),by refine(?_:_→_→Prop) (List.getD (l_1.map rrc) (Int.toNat (i_1:Int)) []) (PV.list (l_1.map rrc) .no); exact fun a f=>by refine(?_:_→_→Prop) (PV.int .i64 (cI (List.drop 0 a) 0)) (cL (List.drop 1 a) 0); exact fun d h=>by refine(?_:_→Prop) (List.getD h (Int.toNat (k_1:Int)) []); exact fun c=>by refine(?_:_→Prop) [[PV.int .u32 (cI c 0),d,.int .i64 g,.int .i64 1,.int .i64 0,.int .u64 0]]; exact fun b=>g≤1000000∧fC [] (g:Int) = -1∧(∀(k:Nat),k<g→0≤fC [] (k:Int))∧ak [.list (l.map rrc) .no,.ptr 0 0,.ptr 1 0,.list [] .exact,.int .i64 i,.int .i64 k,.int .i64 0] [f,.ptr 0 0,.ptr 1 0,.list [] .exact,.int .i64 i_1,.int .i64 k_1,.int .i64 0]∧aC n [.cells p_1,.cells z_1]∧InL (l_1.map rrc) 4 (i_1:Int)∧br (true && aH [.list] 0 (List.drop 1 a)) (InL h 1 (k_1:Int)∧br (true && aH [.int .u32] 0 c) (InL (l_1.map rrc) 4 (i_1:Int)∧br (true && aH [.int .i64] 0 (List.drop 0 a)) (bf [] b 6 48∧(List.all [.int .u32 (cI c 0),d,.int .i64 g,.int .i64 1,.int .i64 0,.int .u64 0] PV.one=true∧b≠[])∧R .normal [f,.ptr 0 0,.ptr 1 0,.list b (.tok 2),.int .i64 i_1,.int .i64 (wI ((k_1:Int)+1))] [.cells p_1,.cells z_1,.tok]) False) False) False) (R (.exit 2) j n)) False)→Holds (wpc br Tryd.prog gl TSJ [([1,0,0,1,0,0],xK)] (fun o=>match o.dst with|some 59=>1|_=>0) (av [1,1,1,0,1,0,0,1,0,0,1,0] (aj Tryd.f37)) [] (ax [1,2,4,5,6,7] j) n (fun ex e H=>R ex (List.map e [1,2,4,5,6,7]) H)):Prop):=fun R h=>ah (by kernel_rfl) h
theorem EP (p z:List PV) (l:List Rr) (b:List Se) (i k:Nat):(by refine(?_:_→_→_→Prop) (List.drop 1 (List.getD (l.map rrc) (Int.toNat (i:Int)) [])) [Ob.cells p,.cells z,.tok] (PV.list (b.map stc) (.tok 2)); exact fun n q r=>by refine(?_:_→Prop) [PV.list (l.map rrc) .no,.ptr 0 0,.ptr 1 0,r,.int .i64 i,.int .i64 k]; exact fun m=>∀(R:Ex→List PV→ag→Prop),(InL (l.map rrc) 4 (i:Int)∧br (true && aH [.list] 0 n) (br (decide ((k:Int)<(↑(List.length (cL n 0)):Int))) (∃(p_1:List PV) (z_1:List PV) (l_1:List Rr) (b_1:List Se) (i_1:Nat) (k_1:Nat) (g:Nat),by refine(?_:_→_→Prop) (List.getD (l_1.map rrc) (Int.toNat (i_1:Int)) []) (PV.list (l_1.map rrc) .no); exact fun a h=>by refine(?_:_→_→Prop) (PV.int .i64 (cI (List.drop 0 a) 0)) (cL (List.drop 1 a) 0); exact fun f j=>by refine(?_:_→Prop) (List.getD j (Int.toNat (k_1:Int)) []); exact fun d=>by refine(?_:_→Prop) [[PV.int .u32 (cI d 0),f,.int .i64 g,.int .i64 1,.int .i64 0,.int .u64 0]]; exact fun c=>b_1.length≤1000000∧g≤1000000∧fC b_1 (g:Int) = -1∧(∀(k:Nat),k<g→0≤fC b_1 (k:Int))∧ak [.list (l.map rrc) .no,.ptr 0 0,.ptr 1 0,r,.int .i64 i,.int .i64 k,.int .i64 0] [h,.ptr 0 0,.ptr 1 0,.list (b_1.map stc) (.tok 2),.int .i64 i_1,.int .i64 k_1,.int .i64 0]∧aC q [.cells p_1,.cells z_1,.tok]∧InL (l_1.map rrc) 4 (i_1:Int)∧br (true && aH [.list] 0 (List.drop 1 a)) (InL j 1 (k_1:Int)∧br (true && aH [.int .u32] 0 d) (InL (l_1.map rrc) 4 (i_1:Int)∧br (true && aH [.int .i64] 0 (List.drop 0 a)) (bf (b_1.map stc) c 6 48∧(List.all [.int .u32 (cI d 0),f,.int .i64 g,.int .i64 1,.int .i64 0,.int .u64 0] PV.one=true∧c≠[])∧R .normal [h,.ptr 0 0,.ptr 1 0,.list (b_1.map stc++c) (.tok 3),.int .i64 i_1,.int .i64 (wI ((k_1:Int)+1))] [.cells p_1,.cells z_1,.dead,.tok]) False) False) False) (R (.exit 2) m q)) False)→Holds (wpc br Tryd.prog gl TSJ [([1,0,0,1,0,0],xq)] (fun o=>match o.dst with|some 59=>1|_=>0) (av [1,1,1,0,1,0,0,1,0,0,1,0] (aj Tryd.f37)) [] (ax [1,2,4,5,6,7] m) q (fun ex e H=>R ex (List.map e [1,2,4,5,6,7]) H)):Prop):=fun R h=>ah (by kernel_rfl) h
theorem My:LOk Tryd.prog gl Tryd.f37.ntmps (av [1,1,1,0,1,0,0,1,0,0,1,0] (aj Tryd.f37)) [] [([1,0,0,1,0,0],xK)]:=(.cons (aK (by kernel_rfl)) zk (.nil _ _ _ _ _))
theorem Ml:LOk Tryd.prog gl Tryd.f37.ntmps (av [1,1,1,0,1,0,0,1,0,0,1,0] (aj Tryd.f37)) [] [([1,0,0,1,0,0],xq)]:=(.cons (aK (by kernel_rfl)) zM (.nil _ _ _ _ _))
def xU:LSp:=fun e H Q=>∃(p z:List PV) (l:List Rr) (c:Mt) (i:Nat),(∀ x∈p,Low 0 x)∧(∀ x∈z,Low 0 x)∧l.length≤1000000∧i<l.length∧c.aa=[]∧(l.getD i default).pl.length≤1000000∧ak (List.map e [1,2,4,5,6,7]) [.list (l.map rrc) .no,.ptr 0 0,.ptr 1 0,.list [] .exact,.int .i64 i,.int .i64 0]∧aC H [.cells p,.cells z]∧
 ((l.getD i default).pl=[]→Q (.exit 2) (ax [1,2,4,5,6,7] [.list (l.map rrc) .no,.ptr 0 0,.ptr 1 0,.list [] .exact,.int .i64 i,.int .i64 0]) [.cells p,.cells z])∧((l.getD i default).pl≠[]→Q (.exit 2) (ax [1,2,4,5,6,7] [.list (l.map rrc) .no,.ptr 0 0,.ptr 1 0,.list ((cO c (l.getD i default).pl (l.getD i default).tm).map stc) (.tok 2),.int .i64 i,.int .i64 (l.getD i default).pl.length]) [.cells p,.cells z,.tok])
set_option maxRecDepth 10000 in
theorem B2:∀ e H Q,xU e H Q→AW Tryd.prog gl Tryd.f37.ntmps (.loop (av [1,1,1,0,1,0,0,1,0,0,1,0] (aj Tryd.f37))) Q e H:=by
 rintro e H Q ⟨p,z,l,c,i,hp,hz,hl,hi,hc,hrl,he,hH,hQ0,hQ1⟩
 have hH:H=_:=hH
 obtain⟨r,hr⟩:∃ r,r=l.getD i default:=⟨_,rfl⟩
 have hso:SO c.aa:=by rw[hc]; exact SO.nil
 have hcl:c.aa.length=0:=by rw[hc]; rfl
 have hpm:([]:List Se).Perm c.aa:=by rw[hc]
 have inl:InL (l.map rrc) 4 (i:Int):=by rw[dV]; exact hi
 have c1:cL (List.drop 1 (rrc r)) 0=r.pl.map u1:=rfl
 have c0:cI (List.drop 0 (rrc r)) 0=r.tm:=rfl
 simp only[← hr] at hrl hQ0 hQ1
 have hlb:=xW hp hz
 refine ki (f:=stc) (acc:=fun k=>cO c (r.pl.take k) r.tm) (I:=fun k=>k≤r.pl.length) (m:=fun k=>r.pl.length-k) ay [1,2,4,5,6,7] (fun T k=>[.list (l.map rrc) .no,.ptr 0 0,.ptr 1 0,T,.int .i64 i,.int .i64 k]) [.cells p,.cells z] (0:Nat)
  hlb.up (fun _ _ a _=>cY a) (fun es k j _ h=> .same (aR l) (.same (.ptr _ _ (by simp)) (.same (.ptr _ _ (by simp)) (.row h (.same (.int _ _) (.same (.int _ _) .nil)))))) (fun k _ w hw=>by
   simp only[List.mem_cons,List.not_mem_nil,or_false] at hw
   rcases hw with rfl|rfl|rfl|rfl|rfl|rfl
   ·exact aR l
   ·exact .ptr _ _ (by simp)
   ·exact .ptr _ _ (by simp)
   ·exact aO NT.exact (by simp)
   ·exact .int _ _
   ·exact .int _ _) (Nat.zero_le _) (by simp[cO]) he hH ?_ ?_
 ·intro k hk ha
  have hk':k≤r.pl.length:=hk
  have ha:cO c (r.pl.take k) r.tm=[]:=ha
  have k0:k=0:=by
   have:=fF r.tm (r.pl.take k) c
   rw[ha,List.length_take] at this
   have this:0=min k r.pl.length:=this
   by_cases h:r.pl.length=0
   ·omega
   ·omega
  refine aZ gR (av [1,1,1,0,1,0,0,1,0,0,1,0] (aj Tryd.f37)) [] My _ _ _ (Lz p z l i k _ ?_).out
  simp only[az,dt,au,getD_map default hi,← hr,c1,c0,List.length_map]
  refine⟨inl,?_⟩
  rw[if_pos (by rfl)]
  by_cases h:k<r.pl.length
  ·rw[if_pos (by omega)]
   have hsucc:=mT (c:=c) (t:=r.tm) h
   have hgs:=eU (cC c (r.pl.take k) r.tm).aa
   have hsl:(cC c (r.pl.take k) r.tm).aa.length≤1000000:=by rw[fq,List.length_take]; omega
   obtain⟨g1,g2⟩:=rA (nS (r.pl.take k) r.tm c hso) (lJ r.tm (r.pl.take k) c [] hpm)
   have inl2:InL (r.pl.map u1) 1 (k:Int):=by rw[eB]; exact h
   have cp:cI (u1 (r.pl.getD k 0)) 0=r.pl.getD k 0:=rfl
   rw[ha] at hsucc g1 g2
   refine⟨p,z,l,i,k,_,by omega,g1,g2,rfl,rfl,inl,?_⟩
   simp only[az,dt,au,getD_map default hi,← hr,c1,c0,getD_map 0 h,cp]
   rw[if_pos (by rfl)]
   refine⟨inl2,?_⟩
   rw[if_pos (by rfl)]
   refine⟨inl,?_⟩
   rw[if_pos (by rfl)]
   refine⟨aN (l:=[]) (by_:=48) bV (fO (cC c (r.pl.take k) r.tm).aa (r.pl.getD k 0) r.tm) (by show(0+1)*48≤_; decide),one_row ey (fO (cC c (r.pl.take k) r.tm).aa (r.pl.getD k 0) r.tm),?_⟩
   exact bz (k+1) (show r.pl.length-(k+1)<r.pl.length-k by omega) h hsucc (by simp) [.tok] 2 rfl rfl (by simp) (by(try dsimp only); rw[aA h (by omega)]; rfl)
  ·rw[if_neg (by omega)]
   have hn:r.pl=[]:=List.length_eq_zero_iff.1 (by omega)
   subst k0
   exact dx (WkL.refl _) (Pad.refl _) (hQ0 hn)
 ·intro k hk ha
  have hk':k≤r.pl.length:=hk
  have ha:cO c (r.pl.take k) r.tm≠[]:=ha
  have hnl:(cO c (r.pl.take k) r.tm).length≤1000000:=by rw[fF,List.length_take]; omega
  refine aZ gR (av [1,1,1,0,1,0,0,1,0,0,1,0] (aj Tryd.f37)) [] Ml _ _ _ (EP p z l (cO c (r.pl.take k) r.tm) i k _ ?_).out
  simp only[az,dt,au,getD_map default hi,← hr,c1,c0,List.length_map]
  refine⟨inl,?_⟩
  rw[if_pos (by rfl)]
  by_cases h:k<r.pl.length
  ·rw[if_pos (by omega)]
   have hnl2:(cO c (r.pl.take k) r.tm).length+1≤1000000:=by rw[fF,List.length_take]; omega
   have hsucc:=mT (c:=c) (t:=r.tm) h
   have hgs:=eU (cC c (r.pl.take k) r.tm).aa
   have hsl:(cC c (r.pl.take k) r.tm).aa.length≤1000000:=by rw[fq,List.length_take]; omega
   obtain⟨g1,g2⟩:=rA (nS (r.pl.take k) r.tm c hso) (lJ r.tm (r.pl.take k) c [] hpm)
   have inl2:InL (r.pl.map u1) 1 (k:Int):=by rw[eB]; exact h
   have cp:cI (u1 (r.pl.getD k 0)) 0=r.pl.getD k 0:=rfl
   rw[List.nil_append] at g1 g2
   refine⟨p,z,l,cO c (r.pl.take k) r.tm,i,k,_,hnl,by omega,g1,g2,rfl,rfl,inl,?_⟩
   simp only[az,dt,au,getD_map default hi,← hr,c1,c0,getD_map 0 h,cp]
   rw[if_pos (by rfl)]
   refine⟨inl2,?_⟩
   rw[if_pos (by rfl)]
   refine⟨inl,?_⟩
   rw[if_pos (by rfl)]
   refine⟨aN (by_:=48) bV (cO c (r.pl.take k) r.tm) (fO (cC c (r.pl.take k) r.tm).aa (r.pl.getD k 0) r.tm) (by omega),one_row ey (fO (cC c (r.pl.take k) r.tm).aa (r.pl.getD k 0) r.tm),?_⟩
   exact bz (k+1) (show r.pl.length-(k+1)<r.pl.length-k by omega) h hsucc (by simp) [.dead,.tok] 3 rfl rfl (by simp) (by(try dsimp only); rw[aA h (by omega),List.map_append]; rfl)
  ·rw[if_neg (by omega)]
   have hkl:k=r.pl.length:=by omega
   subst hkl
   have hn:r.pl≠[]:=fun e=>ha (by rw[e]; rfl)
   rw[List.take_length]
   exact dx (WkL.refl _) (Pad.refl _) (hQ1 hn)
def wX:LSp:=fun e H Q=>∃(p z:List PV) (l:List Rr) (c:Mt) (b:List Se) (i:Nat),(∀ x∈p,Low 0 x)∧(∀ x∈z,Low 0 x)∧l.length≤1000000∧i<l.length∧SO c.aa∧b.Perm c.aa∧b.length+(l.getD i default).pl.length≤1000000∧ak (List.map e [1,2,4,5,6,7]) [.list (l.map rrc) .no,.ptr 0 0,.ptr 1 0,.list (b.map stc) (.tok 2),.int .i64 i,.int .i64 0]∧aC H [.cells p,.cells z,.tok]∧
 ∀(X:ag) (j:Nat),([.cells p,.cells z]++X)[j]?=some .tok→2≤j→Q (.exit 2) (ax [1,2,4,5,6,7] [.list (l.map rrc) .no,.ptr 0 0,.ptr 1 0,.list ((b++cO c (l.getD i default).pl (l.getD i default).tm).map stc) (.tok j),.int .i64 i,.int .i64 (l.getD i default).pl.length]) ([.cells p,.cells z]++X)
theorem BF:∀ e H Q,wX e H Q→AW Tryd.prog gl Tryd.f37.ntmps (.loop (av [1,1,1,0,1,0,0,1,0,0,1,0] (aj Tryd.f37))) Q e H:=by
 rintro e H Q ⟨p,z,l,c,b,i,hp,hz,hl,hi,hso,hpm,hrl,he,hH,hQ⟩
 have hH:H=_:=hH
 obtain⟨r,hr⟩:∃ r,r=l.getD i default:=⟨_,rfl⟩
 have hcl:c.aa.length=b.length:=hpm.length_eq.symm
 have inl:InL (l.map rrc) 4 (i:Int):=by rw[dV]; exact hi
 have c1:cL (List.drop 1 (rrc r)) 0=r.pl.map u1:=rfl
 have c0:cI (List.drop 0 (rrc r)) 0=r.tm:=rfl
 simp only[← hr] at hrl hQ
 refine qH (f:=stc) (acc:=fun k=>b++cO c (r.pl.take k) r.tm) (I:=fun k=>k≤r.pl.length) (m:=fun k=>r.pl.length-k) (hn:=fun o=>match o.dst with|some 59=>1|_=>0) ay gR Ml [1,2,4,5,6,7] (fun T k=>[.list (l.map rrc) .no,.ptr 0 0,.ptr 1 0,T,.int .i64 i,.int .i64 k]) [.cells p,.cells z] (0:Nat)
  (xW hp hz) (fun _ _ a _=>cY a) (fun k _=>sX (bN (.int _ _) (.int _ _))) (fun T k=>rfl) (Nat.zero_le _) (by rw[he]; simp[cO]) hH ?_
 intro k hk
 have hk':k≤r.pl.length:=hk
 have hnl:(b++cO c (r.pl.take k) r.tm).length≤1000000:=by rw[List.length_append,fF,List.length_take]; omega
 refine EP p z l (b++cO c (r.pl.take k) r.tm) i k _ ?_
 simp only[az,dt,au,getD_map default hi,← hr,c1,c0,List.length_map]
 refine⟨inl,?_⟩
 rw[if_pos (by rfl)]
 by_cases h:k<r.pl.length
 ·rw[if_pos (by omega)]
  have hnl2:(b++cO c (r.pl.take k) r.tm).length+1≤1000000:=by rw[List.length_append,fF,List.length_take]; omega
  have hsucc:=mT (c:=c) (t:=r.tm) h
  have hgs:=eU (cC c (r.pl.take k) r.tm).aa
  have hsl:(cC c (r.pl.take k) r.tm).aa.length≤1000000:=by rw[fq,List.length_take]; omega
  obtain⟨g1,g2⟩:=rA (nS (r.pl.take k) r.tm c hso) (lJ r.tm (r.pl.take k) c b hpm)
  have inl2:InL (r.pl.map u1) 1 (k:Int):=by rw[eB]; exact h
  have cp:cI (u1 (r.pl.getD k 0)) 0=r.pl.getD k 0:=rfl
  refine⟨p,z,l,b++cO c (r.pl.take k) r.tm,i,k,_,hnl,by omega,g1,g2,rfl,rfl,inl,?_⟩
  simp only[az,dt,au,getD_map default hi,← hr,c1,c0,getD_map 0 h,cp]
  rw[if_pos (by rfl)]
  refine⟨inl2,?_⟩
  rw[if_pos (by rfl)]
  refine⟨inl,?_⟩
  rw[if_pos (by rfl)]
  refine⟨aN (by_:=48) bV (b++cO c (r.pl.take k) r.tm) (fO (cC c (r.pl.take k) r.tm).aa (r.pl.getD k 0) r.tm) (by omega),one_row ey (fO (cC c (r.pl.take k) r.tm).aa (r.pl.getD k 0) r.tm),?_⟩
  refine⟨k+1,(show r.pl.length-(k+1)<r.pl.length-k by omega),h,[.dead,.tok],3,rfl,rfl,by simp,?_⟩
  dsimp only
  rw[hsucc,← List.append_assoc,aA h (by omega),List.map_append (f:=stc) (l₁:=b++cO c (r.pl.take k) r.tm)]
  rfl
 ·rw[if_neg (by omega)]
  have hkl:k=r.pl.length:=by omega
  subst hkl
  simp only[onQ,List.take_length]
  exact⟨rfl,rfl,hQ [.tok] 2 rfl (Nat.le_refl _),hQ [.dead,.tok] 3 rfl (by decide)⟩
theorem CR:av [1,0,0,1,0] (av [1,1,1,0,1,0] (aj Tryd.f37))=av [1,1,1,0,1,0,0,1,0,0,1,0] (aj Tryd.f37):=by kernel_rfl
theorem ze:∀ e H Q,xU e H Q→AW Tryd.prog gl Tryd.f37.ntmps (.loop (av [1,0,0,1,0] (av [1,1,1,0,1,0] (aj Tryd.f37)))) Q e H:=by rw[CR]; exact B2
theorem yF:∀ e H Q,wX e H Q→AW Tryd.prog gl Tryd.f37.ntmps (.loop (av [1,0,0,1,0] (av [1,1,1,0,1,0] (aj Tryd.f37)))) Q e H:=by rw[CR]; exact BF
theorem JN (p z:List PV) (l:List Rr) (i:Nat):(by refine(?_:_→_→Prop) [PV.list (l.map rrc) .no,.ptr 0 0,.ptr 1 0,.list [] .exact,.int .i64 i] [Ob.cells p,.cells z]; exact fun g h=>∀(R:Ex→List PV→ag→Prop),(br (decide ((i:Int)<(↑(List.length (l.map rrc)):Int))) (∃(p_1:List PV) (z_1:List PV) (l_1:List Rr) (c:Mt) (i_1:Nat),by refine(?_:_→_→_→_→Prop) (List.getD l_1 i_1 default) (PV.list (l_1.map rrc) .no) (PV.int .i64 (wI ((i_1:Int)+1))) [Ob.cells p_1,.cells z_1]; exact fun a b d f=>(∀(x:PV),x∈p_1→Low 0 x)∧(∀(x:PV),x∈z_1→Low 0 x)∧l_1.length≤1000000∧i_1<l_1.length∧c.aa=[]∧List.length (Rr.pl a)≤1000000∧ak [.list (l.map rrc) .no,.ptr 0 0,.ptr 1 0,.list [] .exact,.int .i64 i,.int .i64 0] [b,.ptr 0 0,.ptr 1 0,.list [] .exact,.int .i64 i_1,.int .i64 0]∧aC h f∧(Rr.pl a=[]→R .normal [b,.ptr 0 0,.ptr 1 0,.list [] .exact,d] f)∧(Rr.pl a≠[]→R .normal [b,.ptr 0 0,.ptr 1 0,.list (List.map stc (cO c (Rr.pl a) (Rr.tm a))) (.tok 2),d] [.cells p_1,.cells z_1,.tok])) (R (.exit 0) g h))→Holds (wpc br Tryd.prog gl TSJ [([1,0,0,1,0],xU)] (fun _=>0) (av [1,1,1,0,1,0] (aj Tryd.f37)) [] (ax [1,2,4,5,6] g) h (fun ex e H=>R ex (List.map e [1,2,4,5,6]) H)):Prop):=fun R h=>ah (by kernel_rfl) h
theorem AL (p z:List PV) (l:List Rr) (b:List Se) (i:Nat):(by refine(?_:_→_→Prop) [Ob.cells p,.cells z,.tok] (PV.list (b.map stc) (.tok 2)); exact fun h k=>by refine(?_:_→Prop) [PV.list (l.map rrc) .no,.ptr 0 0,.ptr 1 0,k,.int .i64 i]; exact fun g=>∀(R:Ex→List PV→ag→Prop),(br (decide ((i:Int)<(↑(List.length (l.map rrc)):Int))) (∃(p_1:List PV) (z_1:List PV) (l_1:List Rr) (c:Mt) (b_1:List Se) (i_1:Nat),by refine(?_:_→_→_→Prop) (List.getD l_1 i_1 default) [Ob.cells p_1,.cells z_1] (PV.list (l_1.map rrc) .no); exact fun a d f=>(∀(x:PV),x∈p_1→Low 0 x)∧(∀(x:PV),x∈z_1→Low 0 x)∧l_1.length≤1000000∧i_1<l_1.length∧SO c.aa∧List.Perm b_1 c.aa∧b_1.length+List.length (Rr.pl a)≤1000000∧ak [.list (l.map rrc) .no,.ptr 0 0,.ptr 1 0,k,.int .i64 i,.int .i64 0] [f,.ptr 0 0,.ptr 1 0,.list (b_1.map stc) (.tok 2),.int .i64 i_1,.int .i64 0]∧aC h [.cells p_1,.cells z_1,.tok]∧∀(X:ag),∀(j:Nat),(d++X)[j]?=some .tok→2≤j→R .normal [f,.ptr 0 0,.ptr 1 0,.list (List.map stc (b_1++cO c (Rr.pl a) (Rr.tm a))) (.tok j),.int .i64 (wI ((i_1:Int)+1))] (d++X)) (R (.exit 0) g h))→Holds (wpc br Tryd.prog gl TSJ [([1,0,0,1,0],wX)] (fun _=>0) (av [1,1,1,0,1,0] (aj Tryd.f37)) [] (ax [1,2,4,5,6] g) h (fun ex e H=>R ex (List.map e [1,2,4,5,6]) H)):Prop):=fun R h=>ah (by kernel_rfl) h
theorem MF:LOk Tryd.prog gl Tryd.f37.ntmps (av [1,1,1,0,1,0] (aj Tryd.f37)) [] [([1,0,0,1,0],xU)]:=(.cons (aK (by kernel_rfl)) ze (.nil _ _ _ _ _))
theorem Mo:LOk Tryd.prog gl Tryd.f37.ntmps (av [1,1,1,0,1,0] (aj Tryd.f37)) [] [([1,0,0,1,0],wX)]:=(.cons (aK (by kernel_rfl)) yF (.nil _ _ _ _ _))
def IP:LSp:=fun e H Q=>∃(p z:List PV) (l:List Rr) (c:Mt),(∀ x∈p,Low 0 x)∧(∀ x∈z,Low 0 x)∧l.length≤1000000∧tot l≤1000000∧c.aa=[]∧ak (List.map e [1,2,4,5,6]) [.list (l.map rrc) .no,.ptr 0 0,.ptr 1 0,.list [] .exact,.int .i64 0]∧aC H [.cells p,.cells z]∧∀ G,Q (.exit 0) (ax [1,2,4,5,6] [.list (l.map rrc) .no,.ptr 0 0,.ptr 1 0,.list ((newR c l).map stc) .no,.int .i64 l.length]) ([.cells p,.cells z]++G)
set_option maxRecDepth 10000 in
theorem EW:∀ e H Q,IP e H Q→AW Tryd.prog gl Tryd.f37.ntmps (.loop (av [1,1,1,0,1,0] (aj Tryd.f37))) Q e H:=by
 rintro e H Q ⟨p,z,l,c,hp,hz,hl,ht,hc,he,hH,hQ⟩
 have hH:H=_:=hH
 have hso:SO c.aa:=by rw[hc]; exact SO.nil
 have hlb:=xW hp hz
 refine ki (f:=stc) (acc:=fun i=>newR c (l.take i)) (I:=fun i=>i≤l.length) (m:=fun i=>l.length-i) ay [1,2,4,5,6] (fun T i=>[.list (l.map rrc) .no,.ptr 0 0,.ptr 1 0,T,.int .i64 i]) [.cells p,.cells z] (0:Nat)
  hlb.up (fun _ _ a _=>cY a) (fun es k j _ h=> .same (aR l) (.same (.ptr _ _ (by simp)) (.same (.ptr _ _ (by simp)) (.row h (.same (.int _ _) .nil))))) (fun k _ w hw=>by
   simp only[List.mem_cons,List.not_mem_nil,or_false] at hw
   rcases hw with rfl|rfl|rfl|rfl|rfl
   ·exact aR l
   ·exact .ptr _ _ (by simp)
   ·exact .ptr _ _ (by simp)
   ·exact aO NT.exact (by simp)
   ·exact .int _ _) (Nat.zero_le _) (by simp[newR]) he hH ?_ ?_
 ·intro i hi ha
  have hi':i≤l.length:=hi
  have ha:newR c (l.take i)=[]:=ha
  refine aZ gR (av [1,1,1,0,1,0] (aj Tryd.f37)) [] MF _ _ _ (JN p z l i _ ?_).out
  simp only[az,dt,List.length_map]
  by_cases h:i<l.length
  ·rw[if_pos (by omega)]
   have hs:=mF (c:=c) h
   have e0:tot (l.take i)=0:=by rw[← gD (l.take i) c,ha]; rfl
   have e1:=lO h
   have e2:=fS (l:=l) (i+1)
   have e3:(aB c (l.take i)).aa=[]:=List.eq_nil_of_length_eq_zero (by rw[gj,hc,e0]; rfl)
   rw[ha,List.nil_append] at hs
   refine⟨p,z,l,aB c (l.take i),i,hp,hz,hl,h,e3,by omega,rfl,rfl,fun hn=>?_,fun hn=>?_⟩
   ·rw[hn] at hs
    exact ku (i+1) (show l.length-(i+1)<l.length-i by omega) h hs [] rfl (by rw[aA h (by omega)])
   ·exact bz (i+1) (show l.length-(i+1)<l.length-i by omega) h hs (fun e=>hn (List.length_eq_zero_iff.1 (by rw[← fF (l.getD i default).tm (l.getD i default).pl (aB c (l.take i)),e]; rfl))) [.tok] 2 rfl rfl (by simp) (by(try dsimp only); rw[aA h (by omega)])
  ·rw[if_neg (by omega)]
   have:i=l.length:=by omega
   subst this
   rw[List.take_length] at ha
   have hq:=hQ []
   rw[ha] at hq
   exact dx (.cons (.refl _) (.cons (.refl _) (.cons (.refl _) (.cons (.list _ _) (.cons (.refl _) .nil))))) (Pad.refl _) hq
 ·intro i hi ha
  have hi':i≤l.length:=hi
  have ha:newR c (l.take i)≠[]:=ha
  refine aZ gR (av [1,1,1,0,1,0] (aj Tryd.f37)) [] Mo _ _ _ (AL p z l (newR c (l.take i)) i _ ?_).out
  simp only[az,dt,List.length_map]
  by_cases h:i<l.length
  ·rw[if_pos (by omega)]
   have hs:=mF (c:=c) h
   have e1:=lO h
   have e2:=fS (l:=l) (i+1)
   have e4:=gD (l.take i) c
   have hpm:=nU (l.take i) c [] (by rw[hc])
   rw[List.nil_append] at hpm
   refine⟨p,z,l,aB c (l.take i),newR c (l.take i),i,hp,hz,hl,h,gP _ _ hso,hpm,by omega,rfl,rfl,fun X j hj h2=>?_⟩
   exact bz (i+1) (show l.length-(i+1)<l.length-i by omega) h hs (fun e=>ha (List.append_eq_nil_iff.1 e).1) X j rfl hj h2 (by(try dsimp only); rw[aA h (by omega)])
  ·rw[if_neg (by omega)]
   have:i=l.length:=by omega
   subst this
   rw[List.take_length]
   exact dx (.cons (.refl _) (.cons (.refl _) (.cons (.refl _) (.cons (.list _ _) (.cons (.refl _) .nil))))) (Pad.refl _) (hQ _)
def IL:LSp:=fun e H Q=>∃(p z:List PV) (l:List Rr) (c:Mt) (b:List Se),(∀ x∈p,Low 0 x)∧(∀ x∈z,Low 0 x)∧l.length≤1000000∧b.length+tot l≤1000000∧SO c.aa∧b.Perm c.aa∧ak (List.map e [1,2,4,5,6]) [.list (l.map rrc) .no,.ptr 0 0,.ptr 1 0,.list (b.map stc) (.tok 2),.int .i64 0]∧aC H [.cells p,.cells z,.tok]∧∀ G,Q (.exit 0) (ax [1,2,4,5,6] [.list (l.map rrc) .no,.ptr 0 0,.ptr 1 0,.list ((b++newR c l).map stc) .no,.int .i64 l.length]) ([.cells p,.cells z]++G)
theorem DV:∀ e H Q,IL e H Q→AW Tryd.prog gl Tryd.f37.ntmps (.loop (av [1,1,1,0,1,0] (aj Tryd.f37))) Q e H:=by
 rintro e H Q ⟨p,z,l,c,b,hp,hz,hl,ht,hso,hpm,he,hH,hQ⟩
 have hH:H=_:=hH
 refine AW.LC (slots:=[1,2,4,5,6]) ?_
 refine qH (f:=stc) (acc:=fun i=>b++newR c (l.take i)) (I:=fun i=>i≤l.length) (m:=fun i=>l.length-i) (hn:=fun _=>0) ay gR Mo [1,2,4,5,6] (fun T i=>[.list (l.map rrc) .no,.ptr 0 0,.ptr 1 0,T,.int .i64 i]) [.cells p,.cells z] (0:Nat)
  (xW hp hz) (fun _ _ a _=>cY a) (fun k _=>sX (bF (.int _ _))) (fun T k=>rfl) (Nat.zero_le _) (by rw[he]; simp[newR]) hH ?_
 intro i hi
 have hi':i≤l.length:=hi
 refine AL p z l (b++newR c (l.take i)) i _ ?_
 simp only[az,dt,List.length_map]
 by_cases h:i<l.length
 ·rw[if_pos (by omega)]
  have hs:=mF (c:=c) h
  have e1:=lO h
  have e2:=fS (l:=l) (i+1)
  have e4:=gD (l.take i) c
  refine⟨p,z,l,aB c (l.take i),b++newR c (l.take i),i,hp,hz,hl,h,gP _ _ hso,nU (l.take i) c b hpm,by rw[List.length_append]; omega,rfl,rfl,fun X j hj h2=>?_⟩
  refine⟨i+1,(show l.length-(i+1)<l.length-i by omega),h,X,j,rfl,hj,h2,?_⟩
  dsimp only
  rw[aA h (by omega),hs,← List.append_assoc]
 ·rw[if_neg (by omega)]
  have:i=l.length:=by omega
  subst this
  simp only[onQ,List.take_length]
  have wk:∀ T,WkL (List.map (ax [1,2,4,5,6] [.list (l.map rrc) .no,.ptr 0 0,.ptr 1 0,.list ((b++newR c l).map stc) T,.int .i64 l.length]) [1,2,4,5,6]) [.list (l.map rrc) .no,.ptr 0 0,.ptr 1 0,.list ((b++newR c l).map stc) .no,.int .i64 l.length]:=fun T=> .cons (.refl _) (.cons (.refl _) (.cons (.refl _) (.cons (.list _ _) (.cons (.refl _) .nil))))
  exact⟨rfl,rfl,⟨_,wk _,hQ [.tok]⟩,⟨_,wk _,hQ [.dead,.tok]⟩⟩
end Go.Proofs.YtenaelaapdhbdaaDoor
