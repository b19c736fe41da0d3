/-
  The document's Sit.
-/
import Derived.Test.YtenaelaapdhbdaaDoorDw
import Derived.Test.YtenaelaapdhbdaaDoorA4
import Derived.Test.YtenaelaapdhbdaaDoorProg
namespace Go.Proofs.YtenaelaapdhbdaaDoor
open Go Go.AM Go.Proofs
def cK:Mt→List Int→Int→List Se
 | _,[],_=>[]
 | c,p::ps,t=>fx c.aa p t::cK (fE c p t) ps t
def dP:Mt→List Rr→List Se
 | _,[]=>[]
 | c,r::l=>cK c r.pl r.tm++dP (fc c r) l
theorem pW (p t:Int):∀(ps:List Int) (c:Mt),cK c (ps++[p]) t=cK c ps t++[fx (cF c ps t).aa p t]
 | [],_=>rfl
 | q::ps,c=>by show fx c.aa q t::cK (fE c q t) (ps++[p]) t=_; rw[pW p t ps]; rfl
theorem lY {c:Mt} {ps:List Int} {t:Int} {k:Nat} (h:k<ps.length):cK c (ps.take (k+1)) t=cK c (ps.take k) t++[fx (cF c (ps.take k) t).aa (ps.getD k 0) t]:=by rw[aZ 0 h,pW]
theorem pD (r:Rr):∀(l:List Rr) (c:Mt),dP c (l++[r])=dP c l++cK (aA c l) r.pl r.tm
 | [],c=>by show cK c r.pl r.tm++[]=_; rw[List.append_nil]; rfl
 | q::l,c=>by show cK c q.pl q.tm++dP (fc c q) (l++[r])=(cK c q.pl q.tm++dP (fc c q) l)++_; rw[pD r l,List.append_assoc]; rfl
theorem lV {c:Mt} {l:List Rr} {k:Nat} (h:k<l.length):dP c (l.take (k+1))=dP c (l.take k)++cK (aA c (l.take k)) (l.getD k default).pl (l.getD k default).tm:=by rw[aZ default h,pD]
theorem ff (t:Int):∀(ps:List Int) (c:Mt),(cK c ps t).length=ps.length
 | [],_=>rfl
 | p::ps,c=>by show(_::cK _ ps t).length=_; rw[List.length_cons,ff t ps,List.length_cons]
theorem gg:∀(l:List Rr) (c:Mt),(dP c l).length=tot l
 | [],_=>rfl
 | r::l,c=>by show(cK c r.pl r.tm++dP _ l).length=_; rw[List.length_append,ff,gg l]; unfold tot; simp
theorem j8 (t:Int):∀(ps:List Int) (c:Mt) (b:List Se),b.Perm c.aa→(b++cK c ps t).Perm (cF c ps t).aa
 | [],c,b,h=>by show(b++[]).Perm _; rw[List.append_nil]; exact h
 | p::ps,c,b,h=>by
  show(b++(fx c.aa p t::cK (fE c p t) ps t)).Perm (cF (fE c p t) ps t).aa
  rw[show b++(fx c.aa p t::cK (fE c p t) ps t)=(b++[fx c.aa p t])++cK (fE c p t) ps t by simp]
  refine j8 t ps (fE c p t) _ ?_
  refine List.perm_append_comm.trans ?_
  exact(h.cons (fx c.aa p t)).trans (gA c.aa (cO c.aa) (fx c.aa p t)).symm
theorem nk:∀(l:List Rr) (c:Mt) (b:List Se),b.Perm c.aa→(b++dP c l).Perm (aA c l).aa
 | [],c,b,h=>by show(b++[]).Perm _; rw[List.append_nil]; exact h
 | r::l,c,b,h=>by
  show(b++(cK c r.pl r.tm++dP (fc c r) l)).Perm (aA (fc c r) l).aa
  rw[← List.append_assoc]
  exact nk l (fc c r) _ (j8 r.tm r.pl c b h)
theorem SO.gap {s:List Se} (h:SO s):∀ x∈s,x.nu≠(cO s:Int):=by
 intro x hx e
 obtain⟨i,hi,rfl⟩:=List.mem_iff_getElem.1 hx
 by_cases c:i<cO s
 ·have h1:=nq c
  rw[List.getD_eq_getElem?_getD,List.getElem?_eq_getElem hi,Option.getD_some] at h1
  omega
 ·have hg:cO s<s.length:=by omega
  have h1:=h.ge (cO s) hg
  have h2:=qO hg
  rw[List.getD_eq_getElem?_getD,List.getElem?_eq_getElem hg,Option.getD_some] at h1 h2
  rcases Nat.eq_or_lt_of_le (Nat.not_lt.1 c) with e2|c2
  ·subst e2; omega
  ·have:=List.pairwise_iff_getElem.1 h.sn (cO s) i hg hi c2
   omega
theorem qy {b s:List Se} (h:SO s) (hp:b.Perm s):fh b (cO s) = -1∧∀ k,k<cO s→0≤fh b k:=by
 constructor
 ·unfold fh
  rw[if_neg]
  intro hl
  obtain⟨x,hx,e⟩:=List.findIdx_lt_length.1 hl
  exact h.gap x (hp.subset hx) (eq_of_beq e)
 ·intro k hk
  unfold fh
  rw[if_pos]
  ·omega
  ·have hl:=ew s
   refine List.findIdx_lt_length.2 ⟨s.getD k default,hp.symm.subset (bj (by omega)),?_⟩
   unfold nuT; rw[nq hk]; exact beq_self_eq_true _
theorem filter_lt {s:List Se} (h:s.Pairwise fun a b=>a.nu<b.nu) (n:Int):s.filter (fun x=>decide (x.nu<n+1))=s.filter (fun x=>decide (x.nu<n))++s.filter (fun x=>x.nu == n):=by
 induction s with
 | nil=>rfl
 | cons a s ih=>
  have ih:=ih (List.pairwise_cons.1 h).2
  have ha:=(List.pairwise_cons.1 h).1
  by_cases c1:a.nu<n
  ·rw[List.filter_cons_of_pos (by simpa using by omega),List.filter_cons_of_pos (by simpa using c1),List.filter_cons_of_neg (by simp; omega),ih]; rfl
  ·have e0:∀ x∈s,¬ x.nu≤n:=fun x hx=>by have:=ha x hx; omega
   have e1:s.filter (fun x=>decide (x.nu<n))=[]:=List.filter_eq_nil_iff.2 fun x hx=>by have:=e0 x hx; simp; omega
   have e2:s.filter (fun x=>x.nu == n)=[]:=List.filter_eq_nil_iff.2 fun x hx=>by have:=e0 x hx; simp; omega
   have e3:s.filter (fun x=>decide (x.nu<n+1))=[]:=List.filter_eq_nil_iff.2 fun x hx=>by have:=e0 x hx; simp; omega
   by_cases c2:a.nu=n
   ·rw[List.filter_cons_of_pos (by simp; omega),List.filter_cons_of_neg (by simp; omega),List.filter_cons_of_pos (by simp; omega),e1,e2,e3]; rfl
   ·rw[List.filter_cons_of_neg (by simp; omega),List.filter_cons_of_neg (by simp; omega),List.filter_cons_of_neg (by simp; omega),e1,e2,e3]; rfl
theorem filter_eq {b s:List Se} (h:s.Pairwise fun a b=>a.nu<b.nu) (hp:b.Perm s) (n:Int):s.filter (fun x=>x.nu == n)=if b.findIdx (nuT n)<b.length then [b.getD (b.findIdx (nuT n)) default] else []:=by
 by_cases c:b.findIdx (nuT n)<b.length
 ·rw[if_pos c]
  have h1:nuT n (b.getD (b.findIdx (nuT n)) default)=true:=by
   have:=List.findIdx_getElem (w:=c)
   rwa [List.getD_eq_getElem?_getD,List.getElem?_eq_getElem c]
  obtain⟨x,hx⟩:∃ x,x=b.getD (b.findIdx (nuT n)) default:=⟨_,rfl⟩
  have hm:x∈s:=hp.subset (by rw[hx]; exact bj c)
  rw[← hx] at h1 ⊢
  have h1:x.nu=n:=eq_of_beq h1
  clear hx c hp
  induction s with
  | nil=>cases hm
  | cons a s ih=>
   have ha:=(List.pairwise_cons.1 h).1
   rcases List.mem_cons.1 hm with rfl|hm
   ·rw[List.filter_cons_of_pos (by simp[h1]),List.filter_eq_nil_iff.2 fun y hy=>by have:=ha y hy; simp; omega]
   ·have:=ha x hm
    rw[List.filter_cons_of_neg (by simp; omega)]
    exact ih (List.pairwise_cons.1 h).2 hm
 ·rw[if_neg c,List.filter_eq_nil_iff]
  intro x hx e
  exact c (List.findIdx_lt_length.2 ⟨x,hp.symm.subset hx,e⟩)
theorem oh {b s:List Se} (h:SO s) (hp:b.Perm s):∀ i:Nat,byI b i=s.filter fun x=>decide (x.nu<(i:Int))
 | 0=>by
  rw[List.filter_eq_nil_iff.2 fun x hx=>by have:=h.lo x hx; simp; omega]; rfl
 | i+1=>by
  have:=filter_lt h.sn (i:Int)
  rw[om,oh h hp i,show(((i+1:Nat):Int))=(i:Int)+1 by omega,this,filter_eq h.sn hp]
theorem I9 {b s:List Se} (h:SO s) (hp:b.Perm s) (hb:∀ x∈s,x.nu<8):byI b 8=s:=by
 rw[oh h hp]
 exact List.filter_eq_self.2 fun x hx=>by have:=hb x hx; simp; omega
def TSJ:Tab:=[(62,.pure uM),(63,.pure HM)]
theorem gw:aB Tryd.prog gl TSJ:= .cons wz (.cons IB (.nil _ _))
theorem vL {p z:List PV} (hp:∀ x∈p,Low 0 x) (hz:∀ x∈z,Low 0 x):oL [.cells p,.cells z]:=by
 intro o cs ho
 have k1:=(List.getElem?_eq_some_iff.1 ho).1
 simp at k1
 have:o=0∨o=1:=by omega
 rcases this with rfl|rfl<;>cases ho<;>intro x hx<;>first|exact .inl (hp x hx)|exact .inl (hz x hx)
theorem s8 {l:List Rr} {z:List PV} (hz:∀ x∈z,Low 0 x):KK 2 (fun T=> .list (l.map rrc) .no :: .ptr 0 0 :: .ptr 1 0::T::z):=by
 intro ρ n k es h1 h2 h3 h4
 have e0:=Ren.ptr (ρ:=ρ) (n:=n) 0 0 (by omega)
 have e1:=Ren.ptr (ρ:=ρ) (n:=n) 1 0 (by omega)
 rw[h1 0 (by decide)] at e0
 rw[h1 1 (by decide)] at e1
 exact .cons (.low (aQ _)) (.cons e0 (.cons e1 (.cons (.ltok es k h3 h4) (aW.low hz))))
theorem IN (p z:List PV) (l:List Rr) (i k n:Nat):(by refine(?_:_→_→Prop) [PV.list (l.map rrc) .no,.ptr 0 0,.ptr 1 0,.list [] .exact,.int .i64 i,.int .i64 k,.int .i64 n] [Ob.cells p,.cells z]; exact fun a b=>∀(R:Ex→List PV→ae→Prop),(∃(l_1:List Se) (tl:Tail) (t:Int),ak [.list [] .exact,.int .i64 n] [.list (l_1.map stc) tl,.int .i64 t]∧l_1.length≤1000000∧br (decide (fh l_1 t≥0)) (R .normal [.list (l.map rrc) .no,.ptr 0 0,.ptr 1 0,.list [] .exact,.int .i64 i,.int .i64 k,.int .i64 (wI ((n:Int)+1))] b) (R (.exit 4) a b))→Holds (wpc br Tryd.prog gl TSJ [] (fun _=>0) (an [1,1,1,0,1,0,0,1,0,0,1,0,0,1,0,0,1,0,0] (ai Tryd.f37)) [] (av [1,2,4,5,6,7,8] a) b (fun ex e H=>R ex (List.map e [1,2,4,5,6,7,8]) H)):Prop):=fun R h=>ag (by kernel_rfl) h
def w6:LSp:=fun e H Q=>∃(p z:List PV) (l:List Rr) (i k g:Nat),g≤1000000∧fh [] g = -1∧(∀ k:Nat,k<g→0≤fh [] k)∧ak (List.map e [1,2,4,5,6,7,8]) [.list (l.map rrc) .no,.ptr 0 0,.ptr 1 0,.list [] .exact,.int .i64 i,.int .i64 k,.int .i64 0]∧az H [.cells p,.cells z]∧Q (.exit 4) (av [1,2,4,5,6,7,8] [.list (l.map rrc) .no,.ptr 0 0,.ptr 1 0,.list [] .exact,.int .i64 i,.int .i64 k,.int .i64 g]) [.cells p,.cells z]
theorem CZ:∀ e H Q,w6 e H Q→AW Tryd.prog gl Tryd.f37.ntmps (.loop (an [1,1,1,0,1,0,0,1,0,0,1,0,0,1,0,0,1,0,0] (ai Tryd.f37))) Q e H:=by
 rintro e H Q ⟨p,z,l,i,k,g,hg,h1,h2,he,hH,hQ⟩
 have hH:H=_:=hH
 refine aG (hn:=fun _=>0) aq gw (.nil _ _ _ _ _) (σ:=Nat) [1,2,4,5,6,7,8] (fun n=>n≤g) (fun n=>[.list (l.map rrc) .no,.ptr 0 0,.ptr 1 0,.list [] .exact,.int .i64 i,.int .i64 k,.int .i64 n]) (fun _=>[.cells p,.cells z]) (fun n=>g-n) 0 (Nat.zero_le _) he hH ?_
 intro n hn
 have hn:n≤g:=hn
 refine IN p z l i k n _ ?_
 refine⟨[],_,n,rfl,(by decide),?_⟩
 simp only[ay,dt]
 by_cases c:n=g
 ·subst c
  rw[if_neg (by rw[h1]; decide)]
  exact hQ
 ·rw[if_pos (by have:=h2 n (by omega); omega)]
  exact⟨n+1,(show g-(n+1)<g-n by omega),(show n+1≤g by omega),by rw[ax (show n<g by omega) (by omega)],[],by rw[List.append_nil],Nat.le_refl _,.inl rfl⟩
theorem Jt (p z:List PV) (l:List Rr) (b:List Se) (i k n:Nat):(by refine(?_:_→_→Prop) (PV.list (b.map stc) (.tok 2)) [Ob.cells p,.cells z,.tok]; exact fun c d=>by refine(?_:_→Prop) [PV.list (l.map rrc) .no,.ptr 0 0,.ptr 1 0,c,.int .i64 i,.int .i64 k,.int .i64 n]; exact fun a=>∀(R:Ex→List PV→ae→Prop),(∃(l_1:List Se) (tl:Tail) (t:Int),ak [c,.int .i64 n] [.list (l_1.map stc) tl,.int .i64 t]∧l_1.length≤1000000∧br (decide (fh l_1 t≥0)) (R .normal [.list (l.map rrc) .no,.ptr 0 0,.ptr 1 0,c,.int .i64 i,.int .i64 k,.int .i64 (wI ((n:Int)+1))] d) (R (.exit 4) a d))→Holds (wpc br Tryd.prog gl TSJ [] (fun _=>0) (an [1,1,1,0,1,0,0,1,0,0,1,0,0,1,0,0,1,0,0] (ai Tryd.f37)) [] (av [1,2,4,5,6,7,8] a) d (fun ex e H=>R ex (List.map e [1,2,4,5,6,7,8]) H)):Prop):=fun R h=>ag (by kernel_rfl) h
def u9:LSp:=fun e H Q=>∃(p z:List PV) (l:List Rr) (b:List Se) (i k g:Nat),b.length≤1000000∧g≤1000000∧fh b g = -1∧(∀ k:Nat,k<g→0≤fh b k)∧ak (List.map e [1,2,4,5,6,7,8]) [.list (l.map rrc) .no,.ptr 0 0,.ptr 1 0,.list (b.map stc) (.tok 2),.int .i64 i,.int .i64 k,.int .i64 0]∧az H [.cells p,.cells z,.tok]∧Q (.exit 4) (av [1,2,4,5,6,7,8] [.list (l.map rrc) .no,.ptr 0 0,.ptr 1 0,.list (b.map stc) (.tok 2),.int .i64 i,.int .i64 k,.int .i64 g]) [.cells p,.cells z,.tok]
theorem Bw:∀ e H Q,u9 e H Q→AW Tryd.prog gl Tryd.f37.ntmps (.loop (an [1,1,1,0,1,0,0,1,0,0,1,0,0,1,0,0,1,0,0] (ai Tryd.f37))) Q e H:=by
 rintro e H Q ⟨p,z,l,b,i,k,g,hb,hg,h1,h2,he,hH,hQ⟩
 have hH:H=_:=hH
 refine aG (hn:=fun _=>0) aq gw (.nil _ _ _ _ _) (σ:=Nat) [1,2,4,5,6,7,8] (fun n=>n≤g) (fun n=>[.list (l.map rrc) .no,.ptr 0 0,.ptr 1 0,.list (b.map stc) (.tok 2),.int .i64 i,.int .i64 k,.int .i64 n]) (fun _=>[.cells p,.cells z,.tok]) (fun n=>g-n) 0 (Nat.zero_le _) he hH ?_
 intro n hn
 have hn:n≤g:=hn
 refine Jt p z l b i k n _ ?_
 refine⟨b,_,n,rfl,hb,?_⟩
 simp only[ay,dt]
 by_cases c:n=g
 ·subst c
  rw[if_neg (by rw[h1]; decide)]
  exact hQ
 ·rw[if_pos (by have:=h2 n (by omega); omega)]
  exact⟨n+1,(show g-(n+1)<g-n by omega),(show n+1≤g by omega),by rw[ax (show n<g by omega) (by omega)],[],by rw[List.append_nil],Nat.le_refl _,.inl rfl⟩
theorem DR:an [1,0,0,1,0,0] (an [1,1,1,0,1,0,0,1,0,0,1,0] (ai Tryd.f37))=an [1,1,1,0,1,0,0,1,0,0,1,0,0,1,0,0,1,0,0] (ai Tryd.f37):=by kernel_rfl
theorem yl:∀ e H Q,w6 e H Q→AW Tryd.prog gl Tryd.f37.ntmps (.loop (an [1,0,0,1,0,0] (an [1,1,1,0,1,0,0,1,0,0,1,0] (ai Tryd.f37)))) Q e H:=by rw[DR]; exact CZ
theorem xf:∀ e H Q,u9 e H Q→AW Tryd.prog gl Tryd.f37.ntmps (.loop (an [1,0,0,1,0,0] (an [1,1,1,0,1,0,0,1,0,0,1,0] (ai Tryd.f37)))) Q e H:=by rw[DR]; exact Bw
theorem Iv (p z:List PV) (l:List Rr) (i k:Nat):(by refine(?_:_→_→_→Prop) [PV.list (l.map rrc) .no,.ptr 0 0,.ptr 1 0,.list [] .exact,.int .i64 i,.int .i64 k] (List.drop 1 (List.getD (l.map rrc) (Int.toNat (i:Int)) [])) [Ob.cells p,.cells z]; exact fun j m n=>∀(R:Ex→List PV→ae→Prop),(InL (l.map rrc) 4 (i:Int)∧br (true && aP [.list] 0 m) (br (decide ((k:Int)<(↑(List.length (cL m 0)):Int))) (∃(p_1:List PV) (z_1:List PV) (l_1:List Rr) (i_1:Nat) (k_1:Nat) (g:Nat),by refine(?_:_→_→Prop) (List.getD (l_1.map rrc) (Int.toNat (i_1:Int)) []) (PV.list (l_1.map rrc) .no); exact fun a f=>by refine(?_:_→_→Prop) (PV.int .i64 (cI (List.drop 0 a) 0)) (cL (List.drop 1 a) 0); exact fun d h=>by refine(?_:_→Prop) (List.getD h (Int.toNat (k_1:Int)) []); exact fun c=>by refine(?_:_→Prop) [[PV.int .u32 (cI c 0),d,.int .i64 g,.int .i64 1,.int .i64 0,.int .u64 0]]; exact fun b=>g≤1000000∧fh [] (g:Int) = -1∧(∀(k:Nat),k<g→0≤fh [] (k:Int))∧ak [.list (l.map rrc) .no,.ptr 0 0,.ptr 1 0,.list [] .exact,.int .i64 i,.int .i64 k,.int .i64 0] [f,.ptr 0 0,.ptr 1 0,.list [] .exact,.int .i64 i_1,.int .i64 k_1,.int .i64 0]∧az n [.cells p_1,.cells z_1]∧InL (l_1.map rrc) 4 (i_1:Int)∧br (true && aP [.list] 0 (List.drop 1 a)) (InL h 1 (k_1:Int)∧br (true && aP [.int .u32] 0 c) (InL (l_1.map rrc) 4 (i_1:Int)∧br (true && aP [.int .i64] 0 (List.drop 0 a)) (aX [] b 6 48∧(List.all [.int .u32 (cI c 0),d,.int .i64 g,.int .i64 1,.int .i64 0,.int .u64 0] PV.one=true∧b≠[])∧R .normal [f,.ptr 0 0,.ptr 1 0,.list b (.tok 2),.int .i64 i_1,.int .i64 (wI ((k_1:Int)+1))] [.cells p_1,.cells z_1,.tok]) False) False) False) (R (.exit 2) j n)) False)→Holds (wpc br Tryd.prog gl TSJ [([1,0,0,1,0,0],w6)] (fun o=>match o.dst with|some 59=>1|_=>0) (an [1,1,1,0,1,0,0,1,0,0,1,0] (ai Tryd.f37)) [] (av [1,2,4,5,6,7] j) n (fun ex e H=>R ex (List.map e [1,2,4,5,6,7]) H)):Prop):=fun R h=>ag (by kernel_rfl) h
theorem AA (p z:List PV) (l:List Rr) (b:List Se) (i k:Nat):(by refine(?_:_→_→_→Prop) (List.drop 1 (List.getD (l.map rrc) (Int.toNat (i:Int)) [])) [Ob.cells p,.cells z,.tok] (PV.list (b.map stc) (.tok 2)); exact fun n q r=>by refine(?_:_→Prop) [PV.list (l.map rrc) .no,.ptr 0 0,.ptr 1 0,r,.int .i64 i,.int .i64 k]; exact fun m=>∀(R:Ex→List PV→ae→Prop),(InL (l.map rrc) 4 (i:Int)∧br (true && aP [.list] 0 n) (br (decide ((k:Int)<(↑(List.length (cL n 0)):Int))) (∃(p_1:List PV) (z_1:List PV) (l_1:List Rr) (b_1:List Se) (i_1:Nat) (k_1:Nat) (g:Nat),by refine(?_:_→_→Prop) (List.getD (l_1.map rrc) (Int.toNat (i_1:Int)) []) (PV.list (l_1.map rrc) .no); exact fun a h=>by refine(?_:_→_→Prop) (PV.int .i64 (cI (List.drop 0 a) 0)) (cL (List.drop 1 a) 0); exact fun f j=>by refine(?_:_→Prop) (List.getD j (Int.toNat (k_1:Int)) []); exact fun d=>by refine(?_:_→Prop) [[PV.int .u32 (cI d 0),f,.int .i64 g,.int .i64 1,.int .i64 0,.int .u64 0]]; exact fun c=>b_1.length≤1000000∧g≤1000000∧fh b_1 (g:Int) = -1∧(∀(k:Nat),k<g→0≤fh b_1 (k:Int))∧ak [.list (l.map rrc) .no,.ptr 0 0,.ptr 1 0,r,.int .i64 i,.int .i64 k,.int .i64 0] [h,.ptr 0 0,.ptr 1 0,.list (b_1.map stc) (.tok 2),.int .i64 i_1,.int .i64 k_1,.int .i64 0]∧az q [.cells p_1,.cells z_1,.tok]∧InL (l_1.map rrc) 4 (i_1:Int)∧br (true && aP [.list] 0 (List.drop 1 a)) (InL j 1 (k_1:Int)∧br (true && aP [.int .u32] 0 d) (InL (l_1.map rrc) 4 (i_1:Int)∧br (true && aP [.int .i64] 0 (List.drop 0 a)) (aX (b_1.map stc) c 6 48∧(List.all [.int .u32 (cI d 0),f,.int .i64 g,.int .i64 1,.int .i64 0,.int .u64 0] PV.one=true∧c≠[])∧R .normal [h,.ptr 0 0,.ptr 1 0,.list (b_1.map stc++c) (.tok 3),.int .i64 i_1,.int .i64 (wI ((k_1:Int)+1))] [.cells p_1,.cells z_1,.dead,.tok]) False) False) False) (R (.exit 2) m q)) False)→Holds (wpc br Tryd.prog gl TSJ [([1,0,0,1,0,0],u9)] (fun o=>match o.dst with|some 59=>1|_=>0) (an [1,1,1,0,1,0,0,1,0,0,1,0] (ai Tryd.f37)) [] (av [1,2,4,5,6,7] m) q (fun ex e H=>R ex (List.map e [1,2,4,5,6,7]) H)):Prop):=fun R h=>ag (by kernel_rfl) h
theorem Ln:LOk Tryd.prog gl Tryd.f37.ntmps (an [1,1,1,0,1,0,0,1,0,0,1,0] (ai Tryd.f37)) [] [([1,0,0,1,0,0],w6)]:=(.cons (aH (by kernel_rfl)) yl (.nil _ _ _ _ _))
theorem KI:LOk Tryd.prog gl Tryd.f37.ntmps (an [1,1,1,0,1,0,0,1,0,0,1,0] (ai Tryd.f37)) [] [([1,0,0,1,0,0],u9)]:=(.cons (aH (by kernel_rfl)) xf (.nil _ _ _ _ _))
def vC:LSp:=fun e H Q=>∃(p z:List PV) (l:List Rr) (c:Mt) (i:Nat),(∀ x∈p,Low 0 x)∧(∀ x∈z,Low 0 x)∧l.length≤1000000∧i<l.length∧c.aa=[]∧(l.getD i default).pl.length≤1000000∧ak (List.map e [1,2,4,5,6,7]) [.list (l.map rrc) .no,.ptr 0 0,.ptr 1 0,.list [] .exact,.int .i64 i,.int .i64 0]∧az H [.cells p,.cells z]∧
 ((l.getD i default).pl=[]→Q (.exit 2) (av [1,2,4,5,6,7] [.list (l.map rrc) .no,.ptr 0 0,.ptr 1 0,.list [] .exact,.int .i64 i,.int .i64 0]) [.cells p,.cells z])∧((l.getD i default).pl≠[]→Q (.exit 2) (av [1,2,4,5,6,7] [.list (l.map rrc) .no,.ptr 0 0,.ptr 1 0,.list ((cK c (l.getD i default).pl (l.getD i default).tm).map stc) (.tok 2),.int .i64 i,.int .i64 (l.getD i default).pl.length]) [.cells p,.cells z,.tok])
set_option maxRecDepth 10000 in
theorem zB:∀ e H Q,vC e H Q→AW Tryd.prog gl Tryd.f37.ntmps (.loop (an [1,1,1,0,1,0,0,1,0,0,1,0] (ai Tryd.f37))) Q e H:=by
 rintro e H Q ⟨p,z,l,c,i,hp,hz,hl,hi,hc,hrl,he,hH,hQ0,hQ1⟩
 have hH:H=_:=hH
 obtain⟨r,hr⟩:∃ r,r=l.getD i default:=⟨_,rfl⟩
 have hso:SO c.aa:=by rw[hc]; exact SO.nil
 have hcl:c.aa.length=0:=by rw[hc]; rfl
 have hpm:([]:List Se).Perm c.aa:=by rw[hc]
 have inl:InL (l.map rrc) 4 (i:Int):=by rw[dF]; exact hi
 have c1:cL (List.drop 1 (rrc r)) 0=r.pl.map u1:=rfl
 have c0:cI (List.drop 0 (rrc r)) 0=r.tm:=rfl
 simp only[← hr] at hrl hQ0 hQ1
 have hlb:=vL hp hz
 refine gT (f:=stc) (acc:=fun k=>cK c (r.pl.take k) r.tm) (I:=fun k=>k≤r.pl.length) (m:=fun k=>r.pl.length-k) aq [1,2,4,5,6,7] (fun T k=>[.list (l.map rrc) .no,.ptr 0 0,.ptr 1 0,T,.int .i64 i,.int .i64 k]) [.cells p,.cells z] (0:Nat)
  hlb.up (fun _ _ a _=>cU a) (fun es k j _ h=> .same (aQ l) (.same (.ptr _ _ (by simp)) (.same (.ptr _ _ (by simp)) (.row h (.same (.int _ _) (.same (.int _ _) .nil)))))) (fun k _ w hw=>by
   simp only[List.mem_cons,List.not_mem_nil,or_false] at hw
   rcases hw with rfl|rfl|rfl|rfl|rfl|rfl
   ·exact aQ l
   ·exact .ptr _ _ (by simp)
   ·exact .ptr _ _ (by simp)
   ·exact aI NT.exact (by simp)
   ·exact .int _ _
   ·exact .int _ _) (Nat.zero_le _) (by simp[cK]) he hH ?_ ?_
 ·intro k hk ha
  have hk':k≤r.pl.length:=hk
  have ha:cK c (r.pl.take k) r.tm=[]:=ha
  have k0:k=0:=by
   have:=ff r.tm (r.pl.take k) c
   rw[ha,List.length_take] at this
   have this:0=min k r.pl.length:=this
   by_cases h:r.pl.length=0
   ·omega
   ·omega
  refine aY gw (an [1,1,1,0,1,0,0,1,0,0,1,0] (ai Tryd.f37)) [] Ln _ _ _ (Iv p z l i k _ ?_).out
  simp only[ay,dt,au,getD_map default hi,← hr,c1,c0,List.length_map]
  refine⟨inl,?_⟩
  rw[if_pos (by rfl)]
  by_cases h:k<r.pl.length
  ·rw[if_pos (by omega)]
   have hsucc:=lY (c:=c) (t:=r.tm) h
   have hgs:=ew (cF c (r.pl.take k) r.tm).aa
   have hsl:(cF c (r.pl.take k) r.tm).aa.length≤1000000:=by rw[eU,List.length_take]; omega
   obtain⟨g1,g2⟩:=qy (ng (r.pl.take k) r.tm c hso) (j8 r.tm (r.pl.take k) c [] hpm)
   have inl2:InL (r.pl.map u1) 1 (k:Int):=by rw[ec]; exact h
   have cp:cI (u1 (r.pl.getD k 0)) 0=r.pl.getD k 0:=rfl
   rw[ha] at hsucc g1 g2
   refine⟨p,z,l,i,k,_,by omega,g1,g2,rfl,rfl,inl,?_⟩
   simp only[ay,dt,au,getD_map default hi,← hr,c1,c0,getD_map 0 h,cp]
   rw[if_pos (by rfl)]
   refine⟨inl2,?_⟩
   rw[if_pos (by rfl)]
   refine⟨inl,?_⟩
   rw[if_pos (by rfl)]
   refine⟨aL (l:=[]) (by_:=48) bK (fx (cF c (r.pl.take k) r.tm).aa (r.pl.getD k 0) r.tm) (by show(0+1)*48≤_; decide),one_row dX (fx (cF c (r.pl.take k) r.tm).aa (r.pl.getD k 0) r.tm),?_⟩
   exact bf (k+1) (show r.pl.length-(k+1)<r.pl.length-k by omega) h hsucc (by simp) [.tok] 2 rfl rfl (by simp) (by(try dsimp only); rw[ax h (by omega)]; rfl)
  ·rw[if_neg (by omega)]
   have hn:r.pl=[]:=List.length_eq_zero_iff.1 (by omega)
   subst k0
   exact cj (WkL.refl _) (Pad.refl _) (hQ0 hn)
 ·intro k hk ha
  have hk':k≤r.pl.length:=hk
  have ha:cK c (r.pl.take k) r.tm≠[]:=ha
  have hnl:(cK c (r.pl.take k) r.tm).length≤1000000:=by rw[ff,List.length_take]; omega
  refine aY gw (an [1,1,1,0,1,0,0,1,0,0,1,0] (ai Tryd.f37)) [] KI _ _ _ (AA p z l (cK c (r.pl.take k) r.tm) i k _ ?_).out
  simp only[ay,dt,au,getD_map default hi,← hr,c1,c0,List.length_map]
  refine⟨inl,?_⟩
  rw[if_pos (by rfl)]
  by_cases h:k<r.pl.length
  ·rw[if_pos (by omega)]
   have hnl2:(cK c (r.pl.take k) r.tm).length+1≤1000000:=by rw[ff,List.length_take]; omega
   have hsucc:=lY (c:=c) (t:=r.tm) h
   have hgs:=ew (cF c (r.pl.take k) r.tm).aa
   have hsl:(cF c (r.pl.take k) r.tm).aa.length≤1000000:=by rw[eU,List.length_take]; omega
   obtain⟨g1,g2⟩:=qy (ng (r.pl.take k) r.tm c hso) (j8 r.tm (r.pl.take k) c [] hpm)
   have inl2:InL (r.pl.map u1) 1 (k:Int):=by rw[ec]; exact h
   have cp:cI (u1 (r.pl.getD k 0)) 0=r.pl.getD k 0:=rfl
   rw[List.nil_append] at g1 g2
   refine⟨p,z,l,cK c (r.pl.take k) r.tm,i,k,_,hnl,by omega,g1,g2,rfl,rfl,inl,?_⟩
   simp only[ay,dt,au,getD_map default hi,← hr,c1,c0,getD_map 0 h,cp]
   rw[if_pos (by rfl)]
   refine⟨inl2,?_⟩
   rw[if_pos (by rfl)]
   refine⟨inl,?_⟩
   rw[if_pos (by rfl)]
   refine⟨aL (by_:=48) bK (cK c (r.pl.take k) r.tm) (fx (cF c (r.pl.take k) r.tm).aa (r.pl.getD k 0) r.tm) (by omega),one_row dX (fx (cF c (r.pl.take k) r.tm).aa (r.pl.getD k 0) r.tm),?_⟩
   exact bf (k+1) (show r.pl.length-(k+1)<r.pl.length-k by omega) h hsucc (by simp) [.dead,.tok] 3 rfl rfl (by simp) (by(try dsimp only); rw[ax h (by omega),List.map_append]; rfl)
  ·rw[if_neg (by omega)]
   have hkl:k=r.pl.length:=by omega
   subst hkl
   have hn:r.pl≠[]:=fun e=>ha (by rw[e]; rfl)
   rw[List.take_length]
   exact cj (WkL.refl _) (Pad.refl _) (hQ1 hn)
def wN:LSp:=fun e H Q=>∃(p z:List PV) (l:List Rr) (c:Mt) (b:List Se) (i:Nat),(∀ x∈p,Low 0 x)∧(∀ x∈z,Low 0 x)∧l.length≤1000000∧i<l.length∧SO c.aa∧b.Perm c.aa∧b.length+(l.getD i default).pl.length≤1000000∧ak (List.map e [1,2,4,5,6,7]) [.list (l.map rrc) .no,.ptr 0 0,.ptr 1 0,.list (b.map stc) (.tok 2),.int .i64 i,.int .i64 0]∧az H [.cells p,.cells z,.tok]∧
 ∀(X:ae) (j:Nat),([.cells p,.cells z]++X)[j]?=some .tok→2≤j→Q (.exit 2) (av [1,2,4,5,6,7] [.list (l.map rrc) .no,.ptr 0 0,.ptr 1 0,.list ((b++cK c (l.getD i default).pl (l.getD i default).tm).map stc) (.tok j),.int .i64 i,.int .i64 (l.getD i default).pl.length]) ([.cells p,.cells z]++X)
theorem Bi:∀ e H Q,wN e H Q→AW Tryd.prog gl Tryd.f37.ntmps (.loop (an [1,1,1,0,1,0,0,1,0,0,1,0] (ai Tryd.f37))) Q e H:=by
 rintro e H Q ⟨p,z,l,c,b,i,hp,hz,hl,hi,hso,hpm,hrl,he,hH,hQ⟩
 have hH:H=_:=hH
 obtain⟨r,hr⟩:∃ r,r=l.getD i default:=⟨_,rfl⟩
 have hcl:c.aa.length=b.length:=hpm.length_eq.symm
 have inl:InL (l.map rrc) 4 (i:Int):=by rw[dF]; exact hi
 have c1:cL (List.drop 1 (rrc r)) 0=r.pl.map u1:=rfl
 have c0:cI (List.drop 0 (rrc r)) 0=r.tm:=rfl
 simp only[← hr] at hrl hQ
 refine pE (f:=stc) (acc:=fun k=>b++cK c (r.pl.take k) r.tm) (I:=fun k=>k≤r.pl.length) (m:=fun k=>r.pl.length-k) (hn:=fun o=>match o.dst with|some 59=>1|_=>0) aq gw KI [1,2,4,5,6,7] (fun T k=>[.list (l.map rrc) .no,.ptr 0 0,.ptr 1 0,T,.int .i64 i,.int .i64 k]) [.cells p,.cells z] (0:Nat)
  (vL hp hz) (fun _ _ a _=>cU a) (fun k _=>s8 (bF (.int _ _) (.int _ _))) (fun T k=>rfl) (Nat.zero_le _) (by rw[he]; simp[cK]) hH ?_
 intro k hk
 have hk':k≤r.pl.length:=hk
 have hnl:(b++cK c (r.pl.take k) r.tm).length≤1000000:=by rw[List.length_append,ff,List.length_take]; omega
 refine AA p z l (b++cK c (r.pl.take k) r.tm) i k _ ?_
 simp only[ay,dt,au,getD_map default hi,← hr,c1,c0,List.length_map]
 refine⟨inl,?_⟩
 rw[if_pos (by rfl)]
 by_cases h:k<r.pl.length
 ·rw[if_pos (by omega)]
  have hnl2:(b++cK c (r.pl.take k) r.tm).length+1≤1000000:=by rw[List.length_append,ff,List.length_take]; omega
  have hsucc:=lY (c:=c) (t:=r.tm) h
  have hgs:=ew (cF c (r.pl.take k) r.tm).aa
  have hsl:(cF c (r.pl.take k) r.tm).aa.length≤1000000:=by rw[eU,List.length_take]; omega
  obtain⟨g1,g2⟩:=qy (ng (r.pl.take k) r.tm c hso) (j8 r.tm (r.pl.take k) c b hpm)
  have inl2:InL (r.pl.map u1) 1 (k:Int):=by rw[ec]; exact h
  have cp:cI (u1 (r.pl.getD k 0)) 0=r.pl.getD k 0:=rfl
  refine⟨p,z,l,b++cK c (r.pl.take k) r.tm,i,k,_,hnl,by omega,g1,g2,rfl,rfl,inl,?_⟩
  simp only[ay,dt,au,getD_map default hi,← hr,c1,c0,getD_map 0 h,cp]
  rw[if_pos (by rfl)]
  refine⟨inl2,?_⟩
  rw[if_pos (by rfl)]
  refine⟨inl,?_⟩
  rw[if_pos (by rfl)]
  refine⟨aL (by_:=48) bK (b++cK c (r.pl.take k) r.tm) (fx (cF c (r.pl.take k) r.tm).aa (r.pl.getD k 0) r.tm) (by omega),one_row dX (fx (cF c (r.pl.take k) r.tm).aa (r.pl.getD k 0) r.tm),?_⟩
  refine⟨k+1,(show r.pl.length-(k+1)<r.pl.length-k by omega),h,[.dead,.tok],3,rfl,rfl,by simp,?_⟩
  dsimp only
  rw[hsucc,← List.append_assoc,ax h (by omega),List.map_append (f:=stc) (l₁:=b++cK c (r.pl.take k) r.tm)]
  rfl
 ·rw[if_neg (by omega)]
  have hkl:k=r.pl.length:=by omega
  subst hkl
  simp only[onQ,List.take_length]
  exact⟨rfl,rfl,hQ [.tok] 2 rfl (Nat.le_refl _),hQ [.dead,.tok] 3 rfl (by decide)⟩
theorem CJ:an [1,0,0,1,0] (an [1,1,1,0,1,0] (ai Tryd.f37))=an [1,1,1,0,1,0,0,1,0,0,1,0] (ai Tryd.f37):=by kernel_rfl
theorem yw:∀ e H Q,vC e H Q→AW Tryd.prog gl Tryd.f37.ntmps (.loop (an [1,0,0,1,0] (an [1,1,1,0,1,0] (ai Tryd.f37)))) Q e H:=by rw[CJ]; exact zB
theorem yd:∀ e H Q,wN e H Q→AW Tryd.prog gl Tryd.f37.ntmps (.loop (an [1,0,0,1,0] (an [1,1,1,0,1,0] (ai Tryd.f37)))) Q e H:=by rw[CJ]; exact Bi
theorem JQ (p z:List PV) (l:List Rr) (i:Nat):(by refine(?_:_→_→Prop) [PV.list (l.map rrc) .no,.ptr 0 0,.ptr 1 0,.list [] .exact,.int .i64 i] [Ob.cells p,.cells z]; exact fun g h=>∀(R:Ex→List PV→ae→Prop),(br (decide ((i:Int)<(↑(List.length (l.map rrc)):Int))) (∃(p_1:List PV) (z_1:List PV) (l_1:List Rr) (c:Mt) (i_1:Nat),by refine(?_:_→_→_→_→Prop) (List.getD l_1 i_1 default) (PV.list (l_1.map rrc) .no) (PV.int .i64 (wI ((i_1:Int)+1))) [Ob.cells p_1,.cells z_1]; exact fun a b d f=>(∀(x:PV),x∈p_1→Low 0 x)∧(∀(x:PV),x∈z_1→Low 0 x)∧l_1.length≤1000000∧i_1<l_1.length∧c.aa=[]∧List.length (Rr.pl a)≤1000000∧ak [.list (l.map rrc) .no,.ptr 0 0,.ptr 1 0,.list [] .exact,.int .i64 i,.int .i64 0] [b,.ptr 0 0,.ptr 1 0,.list [] .exact,.int .i64 i_1,.int .i64 0]∧az h f∧(Rr.pl a=[]→R .normal [b,.ptr 0 0,.ptr 1 0,.list [] .exact,d] f)∧(Rr.pl a≠[]→R .normal [b,.ptr 0 0,.ptr 1 0,.list (List.map stc (cK c (Rr.pl a) (Rr.tm a))) (.tok 2),d] [.cells p_1,.cells z_1,.tok])) (R (.exit 0) g h))→Holds (wpc br Tryd.prog gl TSJ [([1,0,0,1,0],vC)] (fun _=>0) (an [1,1,1,0,1,0] (ai Tryd.f37)) [] (av [1,2,4,5,6] g) h (fun ex e H=>R ex (List.map e [1,2,4,5,6]) H)):Prop):=fun R h=>ag (by kernel_rfl) h
theorem zk (p z:List PV) (l:List Rr) (b:List Se) (i:Nat):(by refine(?_:_→_→Prop) [Ob.cells p,.cells z,.tok] (PV.list (b.map stc) (.tok 2)); exact fun h k=>by refine(?_:_→Prop) [PV.list (l.map rrc) .no,.ptr 0 0,.ptr 1 0,k,.int .i64 i]; exact fun g=>∀(R:Ex→List PV→ae→Prop),(br (decide ((i:Int)<(↑(List.length (l.map rrc)):Int))) (∃(p_1:List PV) (z_1:List PV) (l_1:List Rr) (c:Mt) (b_1:List Se) (i_1:Nat),by refine(?_:_→_→_→Prop) (List.getD l_1 i_1 default) [Ob.cells p_1,.cells z_1] (PV.list (l_1.map rrc) .no); exact fun a d f=>(∀(x:PV),x∈p_1→Low 0 x)∧(∀(x:PV),x∈z_1→Low 0 x)∧l_1.length≤1000000∧i_1<l_1.length∧SO c.aa∧List.Perm b_1 c.aa∧b_1.length+List.length (Rr.pl a)≤1000000∧ak [.list (l.map rrc) .no,.ptr 0 0,.ptr 1 0,k,.int .i64 i,.int .i64 0] [f,.ptr 0 0,.ptr 1 0,.list (b_1.map stc) (.tok 2),.int .i64 i_1,.int .i64 0]∧az h [.cells p_1,.cells z_1,.tok]∧∀(X:ae),∀(j:Nat),(d++X)[j]?=some .tok→2≤j→R .normal [f,.ptr 0 0,.ptr 1 0,.list (List.map stc (b_1++cK c (Rr.pl a) (Rr.tm a))) (.tok j),.int .i64 (wI ((i_1:Int)+1))] (d++X)) (R (.exit 0) g h))→Holds (wpc br Tryd.prog gl TSJ [([1,0,0,1,0],wN)] (fun _=>0) (an [1,1,1,0,1,0] (ai Tryd.f37)) [] (av [1,2,4,5,6] g) h (fun ex e H=>R ex (List.map e [1,2,4,5,6]) H)):Prop):=fun R h=>ag (by kernel_rfl) h
theorem Lp:LOk Tryd.prog gl Tryd.f37.ntmps (an [1,1,1,0,1,0] (ai Tryd.f37)) [] [([1,0,0,1,0],vC)]:=(.cons (aH (by kernel_rfl)) yw (.nil _ _ _ _ _))
theorem KG:LOk Tryd.prog gl Tryd.f37.ntmps (an [1,1,1,0,1,0] (ai Tryd.f37)) [] [([1,0,0,1,0],wN)]:=(.cons (aH (by kernel_rfl)) yd (.nil _ _ _ _ _))
def Hj:LSp:=fun e H Q=>∃(p z:List PV) (l:List Rr) (c:Mt),(∀ x∈p,Low 0 x)∧(∀ x∈z,Low 0 x)∧l.length≤1000000∧tot l≤1000000∧c.aa=[]∧ak (List.map e [1,2,4,5,6]) [.list (l.map rrc) .no,.ptr 0 0,.ptr 1 0,.list [] .exact,.int .i64 0]∧az H [.cells p,.cells z]∧∀ G,Q (.exit 0) (av [1,2,4,5,6] [.list (l.map rrc) .no,.ptr 0 0,.ptr 1 0,.list ((dP c l).map stc) .no,.int .i64 l.length]) ([.cells p,.cells z]++G)
set_option maxRecDepth 10000 in
theorem Aq:∀ e H Q,Hj e H Q→AW Tryd.prog gl Tryd.f37.ntmps (.loop (an [1,1,1,0,1,0] (ai Tryd.f37))) Q e H:=by
 rintro e H Q ⟨p,z,l,c,hp,hz,hl,ht,hc,he,hH,hQ⟩
 have hH:H=_:=hH
 have hso:SO c.aa:=by rw[hc]; exact SO.nil
 have hlb:=vL hp hz
 refine gT (f:=stc) (acc:=fun i=>dP c (l.take i)) (I:=fun i=>i≤l.length) (m:=fun i=>l.length-i) aq [1,2,4,5,6] (fun T i=>[.list (l.map rrc) .no,.ptr 0 0,.ptr 1 0,T,.int .i64 i]) [.cells p,.cells z] (0:Nat)
  hlb.up (fun _ _ a _=>cU a) (fun es k j _ h=> .same (aQ l) (.same (.ptr _ _ (by simp)) (.same (.ptr _ _ (by simp)) (.row h (.same (.int _ _) .nil))))) (fun k _ w hw=>by
   simp only[List.mem_cons,List.not_mem_nil,or_false] at hw
   rcases hw with rfl|rfl|rfl|rfl|rfl
   ·exact aQ l
   ·exact .ptr _ _ (by simp)
   ·exact .ptr _ _ (by simp)
   ·exact aI NT.exact (by simp)
   ·exact .int _ _) (Nat.zero_le _) (by simp[dP]) he hH ?_ ?_
 ·intro i hi ha
  have hi':i≤l.length:=hi
  have ha:dP c (l.take i)=[]:=ha
  refine aY gw (an [1,1,1,0,1,0] (ai Tryd.f37)) [] Lp _ _ _ (JQ p z l i _ ?_).out
  simp only[ay,dt,List.length_map]
  by_cases h:i<l.length
  ·rw[if_pos (by omega)]
   have hs:=lV (c:=c) h
   have e0:tot (l.take i)=0:=by rw[← gg (l.take i) c,ha]; rfl
   have e1:=j7 h
   have e2:=fC (l:=l) (i+1)
   have e3:(aA c (l.take i)).aa=[]:=List.eq_nil_of_length_eq_zero (by rw[fS,hc,e0]; rfl)
   rw[ha,List.nil_append] at hs
   refine⟨p,z,l,aA c (l.take i),i,hp,hz,hl,h,e3,by omega,rfl,rfl,fun hn=>?_,fun hn=>?_⟩
   ·rw[hn] at hs
    exact jS (i+1) (show l.length-(i+1)<l.length-i by omega) h hs [] rfl (by rw[ax h (by omega)])
   ·exact bf (i+1) (show l.length-(i+1)<l.length-i by omega) h hs (fun e=>hn (List.length_eq_zero_iff.1 (by rw[← ff (l.getD i default).tm (l.getD i default).pl (aA c (l.take i)),e]; rfl))) [.tok] 2 rfl rfl (by simp) (by(try dsimp only); rw[ax h (by omega)])
  ·rw[if_neg (by omega)]
   have:i=l.length:=by omega
   subst this
   rw[List.take_length] at ha
   have hq:=hQ []
   rw[ha] at hq
   exact cj (.cons (.refl _) (.cons (.refl _) (.cons (.refl _) (.cons (.list _ _) (.cons (.refl _) .nil))))) (Pad.refl _) hq
 ·intro i hi ha
  have hi':i≤l.length:=hi
  have ha:dP c (l.take i)≠[]:=ha
  refine aY gw (an [1,1,1,0,1,0] (ai Tryd.f37)) [] KG _ _ _ (zk p z l (dP c (l.take i)) i _ ?_).out
  simp only[ay,dt,List.length_map]
  by_cases h:i<l.length
  ·rw[if_pos (by omega)]
   have hs:=lV (c:=c) h
   have e1:=j7 h
   have e2:=fC (l:=l) (i+1)
   have e4:=gg (l.take i) c
   have hpm:=nk (l.take i) c [] (by rw[hc])
   rw[List.nil_append] at hpm
   refine⟨p,z,l,aA c (l.take i),dP c (l.take i),i,hp,hz,hl,h,gN _ _ hso,hpm,by omega,rfl,rfl,fun X j hj h2=>?_⟩
   exact bf (i+1) (show l.length-(i+1)<l.length-i by omega) h hs (fun e=>ha (List.append_eq_nil_iff.1 e).1) X j rfl hj h2 (by(try dsimp only); rw[ax h (by omega)])
  ·rw[if_neg (by omega)]
   have:i=l.length:=by omega
   subst this
   rw[List.take_length]
   exact cj (.cons (.refl _) (.cons (.refl _) (.cons (.refl _) (.cons (.list _ _) (.cons (.refl _) .nil))))) (Pad.refl _) (hQ _)
def HB:LSp:=fun e H Q=>∃(p z:List PV) (l:List Rr) (c:Mt) (b:List Se),(∀ x∈p,Low 0 x)∧(∀ x∈z,Low 0 x)∧l.length≤1000000∧b.length+tot l≤1000000∧SO c.aa∧b.Perm c.aa∧ak (List.map e [1,2,4,5,6]) [.list (l.map rrc) .no,.ptr 0 0,.ptr 1 0,.list (b.map stc) (.tok 2),.int .i64 0]∧az H [.cells p,.cells z,.tok]∧∀ G,Q (.exit 0) (av [1,2,4,5,6] [.list (l.map rrc) .no,.ptr 0 0,.ptr 1 0,.list ((b++dP c l).map stc) .no,.int .i64 l.length]) ([.cells p,.cells z]++G)
theorem B5:∀ e H Q,HB e H Q→AW Tryd.prog gl Tryd.f37.ntmps (.loop (an [1,1,1,0,1,0] (ai Tryd.f37))) Q e H:=by
 rintro e H Q ⟨p,z,l,c,b,hp,hz,hl,ht,hso,hpm,he,hH,hQ⟩
 have hH:H=_:=hH
 refine AW.K0 (slots:=[1,2,4,5,6]) ?_
 refine pE (f:=stc) (acc:=fun i=>b++dP c (l.take i)) (I:=fun i=>i≤l.length) (m:=fun i=>l.length-i) (hn:=fun _=>0) aq gw KG [1,2,4,5,6] (fun T i=>[.list (l.map rrc) .no,.ptr 0 0,.ptr 1 0,T,.int .i64 i]) [.cells p,.cells z] (0:Nat)
  (vL hp hz) (fun _ _ a _=>cU a) (fun k _=>s8 (bw (.int _ _))) (fun T k=>rfl) (Nat.zero_le _) (by rw[he]; simp[dP]) hH ?_
 intro i hi
 have hi':i≤l.length:=hi
 refine zk p z l (b++dP c (l.take i)) i _ ?_
 simp only[ay,dt,List.length_map]
 by_cases h:i<l.length
 ·rw[if_pos (by omega)]
  have hs:=lV (c:=c) h
  have e1:=j7 h
  have e2:=fC (l:=l) (i+1)
  have e4:=gg (l.take i) c
  refine⟨p,z,l,aA c (l.take i),b++dP c (l.take i),i,hp,hz,hl,h,gN _ _ hso,nk (l.take i) c b hpm,by rw[List.length_append]; omega,rfl,rfl,fun X j hj h2=>?_⟩
  refine⟨i+1,(show l.length-(i+1)<l.length-i by omega),h,X,j,rfl,hj,h2,?_⟩
  dsimp only
  rw[ax h (by omega),hs,← List.append_assoc]
 ·rw[if_neg (by omega)]
  have:i=l.length:=by omega
  subst this
  simp only[onQ,List.take_length]
  have wk:∀ T,WkL (List.map (av [1,2,4,5,6] [.list (l.map rrc) .no,.ptr 0 0,.ptr 1 0,.list ((b++dP c l).map stc) T,.int .i64 l.length]) [1,2,4,5,6]) [.list (l.map rrc) .no,.ptr 0 0,.ptr 1 0,.list ((b++dP c l).map stc) .no,.int .i64 l.length]:=fun T=> .cons (.refl _) (.cons (.refl _) (.cons (.refl _) (.cons (.list _ _) (.cons (.refl _) .nil))))
  exact⟨rfl,rfl,⟨_,wk _,hQ [.tok]⟩,⟨_,wk _,hQ [.dead,.tok]⟩⟩
end Go.Proofs.YtenaelaapdhbdaaDoor
