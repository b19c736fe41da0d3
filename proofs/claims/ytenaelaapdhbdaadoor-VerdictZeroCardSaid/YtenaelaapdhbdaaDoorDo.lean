/-
  Set.
-/
import Derived.Test.YtenaelaapdhbdaaDoorDn
import Derived.Test.YtenaelaapdhbdaaDoorProg
namespace Go.Proofs.YtenaelaapdhbdaaDoor
open Go Go.AM Go.Proofs
def Al (args:List PV) (H:ae) (K:PV→ae→Prop):Prop:=∃(q r:Nat) (w:List Mt) (m t:Int),ak args [.ptr q 0,.int .u32 t]∧cC H q r (rkM (ar w) m)∧MO w m∧
 (bu Mt.id w t=false→K (.tup [dR mt0 (.list [] .exact) (.list [] .exact),.bool false]) (H++[.dead]))∧
 (bu Mt.id w t=true→(gM w t).aa≠[]∧∀(cap:Nat) (J:List PV),(gM w t).aa.length≤cap→aJ J ((cap-(gM w t).aa.length)*6)→K (.tup [dR (gM w t) (.list ((gM w t).rows.map rrc) .exact) (.arr H.length 0 (gM w t).aa.length cap),.bool true]) (H++[.cells (flS (gM w t).aa++J)]))
theorem Fx:aO Tryd.prog gl 20 (.heap Al):=by
 rintro args H K ⟨q,r,w,m,t,he,hb,ro,h0,h1⟩
 refine FE _ _ _ ⟨q,r,w,m,t,he,hb,ro,fun y g hA=>?_⟩
 cases c:bu Mt.id w t with
 | false=>
  have e:gM w t=mt0:=jb c
  rw[e] at hA ⊢
  rcases hA with⟨_,rfl,rfl⟩|⟨hn,_⟩
  ·exact h0 c
  ·exact absurd rfl hn
 | true=>
  obtain⟨hn,hk⟩:=h1 c
  rcases hA with⟨hn',_⟩|⟨_,cap,J,rfl,rfl,hc,hJ⟩
  ·exact absurd hn' hn
  ·exact hk cap J hc hJ
def TST:Tab:=[(38,.read zb),(20,.heap Al),(39,.read JE),(40,.chg gJ)]
theorem Aa:aB Tryd.prog gl TST:= .cons Bz (.cons Fx (.cons If (.cons oM (.nil _ _))))
theorem Gm (w:List Mt) (m:Int) (c:Mt):(by refine(?_:_→Prop) [PV.int .u32 c.id,.int .i64 c.md,.int .u32 c.ins,.list (c.rows.map rrc) .exact,.list (c.aa.map stc) .no]; exact fun a=>by refine(?_:_→Prop) [Ob.cells [.ptr 1 0],.abs (rkM (ar w) m),.dead,.cells a]; exact fun b=>∀(R:Ex→List PV→ae→Prop),(∃(l:List RwM) (most:Int) (t:Int) (v:Mt) (t1:Tail) (t2:Tail),ak [.int .u32 c.id,.agg a] [.int .u32 t,.agg [.int .u32 v.id,.int .i64 v.md,.int .u32 v.ins,.list (v.rows.map rrc) t1,.list (v.aa.map stc) t2]]∧bO b 1 (rkM l most)∧Ok l most∧R .normal [.int .i64 (Prod.snd (bZ l most t v))] [.cells [.ptr 1 0],.abs (rkM (Prod.fst (bZ l most t v)) most),.dead,.cells a])→Holds (wpc br Tryd.prog gl TST [] (fun o=>match o.dst with|some 58=>7|some 54=>1|some 57=>1|_=>0) (cw [1,1,1,1,1,0] (ai Tryd.f18)) [] (av [0,11] [.ptr 0 0,.ptr 3 0]) b (fun ex e H=>R ex (List.map e [10]) H)):Prop):=fun R h=>ag (by kernel_rfl) h
def za:LSp:=fun e H Q=>∃(w:List Mt) (m:Int) (c:Mt) (cap:Nat) (J:List PV),MO w m∧aF c.id=true∧bu Mt.id w c.id=true∧c.aa.length≤cap∧ak (List.map e [0,11]) [.ptr 0 0,.ptr 3 0]∧az H [.cells [.ptr 1 0],.abs (rkM (ar w) m),.cells (flS c.aa++J),.cells [.int .u32 c.id,.int .i64 c.md,.int .u32 c.ins,.list (c.rows.map rrc) .exact,.arr 2 0 c.aa.length cap]]∧∀ G,Q .normal (av [10] [.int .i64 0]) (.cells [.ptr 1 0] :: .abs (rkM (ar (eT Mt.id w c)) m)::G)
theorem yP:∀ e H Q,za e H Q→AW Tryd.prog gl Tryd.f18.ntmps (cw [1,1,1,1,1,0] (ai Tryd.f18)) Q e H:=by
 rintro e H Q ⟨w,m,c,cap,J,ro,hr,hh,hc,he,hH,hQ⟩
 have hH:H=_:=hH
 subst hH
 have he:List.map e [0,11]=_:=he
 refine AW.nw (o:=2) (off:=0) (sz:=6) (A:=[]) (B:=J) (es:=c.aa.map stc) (H2:=[.cells [.ptr 1 0],.abs (rkM (ar w) m),.dead,.cells [.int .u32 c.id,.int .i64 c.md,.int .u32 c.ins,.list (c.rows.map rrc) .exact,.list (c.aa.map stc) .no]]) (vs2:=[.ptr 0 0,.ptr 3 0]) he rfl rfl (b9 bK _) ⟨rfl,fun i b hb=>?_⟩ (FzL.refl _) ?_
 ·have k1:=(List.getElem?_eq_some_iff.1 hb).1
  simp at k1
  have:i=0∨i=1∨i=2∨i=3:=by omega
  rcases this with rfl|rfl|rfl|rfl
  ·exact .inr (.inl ⟨by decide,hb⟩)
  ·exact .inr (.inl ⟨by decide,hb⟩)
  ·cases hb; exact .inl rfl
  ·cases hb
   refine .inr (.inr ⟨_,_,rfl,by decide,rfl,.cons (.refl _) (.cons (.refl _) (.cons (.refl _) (.cons (.refl _) (.cons ?_ .nil))))⟩)
   have:=Fz.arr (o:=2) (off:=0) (es:=c.aa.map stc) cap (by rw[List.length_map]; exact hc)
   rw[List.length_map] at this
   exact this
 ·refine dQ (T:=TST) (slots:=[0,11]) (outs:=[10]) (hn:=fun o=>match o.dst with|some 58=>7|some 54=>1|some 57=>1|_=>0) Aa (.nil _ _ _ _ _) rfl rfl (Gm w m c (fun ex vs H'=>Q ex (av [10] vs) H') ⟨ar w,m,c.id,c,.exact,.no,rfl,rfl,ro.ok,?_⟩)
  rw[xV ro c hr hh]
  exact hQ _
theorem Ep (w:List Mt) (m p st un no:Int):(by refine(?_:_→_→_→Prop) (Ob.abs (rkM (ar w) m)) [PV.ptr 0 0,.ptr 3 0] (Ob.cells [.ptr 1 0]); exact fun s v z=>by refine(?_:_→Prop) [z,s]; exact fun u=>∀(K:PV→ae→Prop),(∃(q:Nat) (r:Nat) (w_1:List Mt) (m_1:Int) (p_1:Int),ak [.ptr 0 0,.int .u32 p] [.ptr q 0,.int .u32 p_1]∧cC u q r (rkM (ar w_1) m_1)∧MO w_1 m_1∧∃(q:Nat) (r:Nat) (w_2:List Mt) (m_2:Int) (t:Int),by refine(?_:_→Prop) (Mt.aa (gM w_2 t)); exact fun l=>ak [.ptr 0 0,.int .u32 (ofM w_1 p_1)] [.ptr q 0,.int .u32 t]∧cC u q r (rkM (ar w_2) m_2)∧MO w_2 m_2∧(bu Mt.id w_2 t=false→K (.int .i64 12) [.cells [.ptr 1 0],s,.dead,.cells [.int .u32 0,.int .i64 0,.int .u32 0,.list [] .exact,.list [] .exact]])∧(bu Mt.id w_2 t=true→Mt.aa (gM w_2 t)≠[]∧∀(cap:Nat),by refine(?_:_→Prop) [PV.int .u32 (Mt.id (gM w_2 t)),.int .i64 (Mt.md (gM w_2 t)),.int .u32 (Mt.ins (gM w_2 t)),.list (List.map rrc (Mt.rows (gM w_2 t))) .exact,.arr 2 0 (List.length l) cap]; exact fun k=>∀(J:List PV),by refine(?_:_→Prop) (flS l++J); exact fun i=>by refine(?_:_→Prop) [z,s,.cells i,.cells k]; exact fun h=>by refine(?_:_→Prop) (K (.int .i64 2) h); exact fun j=>List.length l≤cap→aJ J ((cap-List.length l)*6)→br (decide (st<1) == false) (br (decide (st>3)) j (∃(c:Mt) (x:PV) (y:PV) (p_2:Int),by refine(?_:_→_→_→_→Prop) (0+Int.toNat (ixS c.aa p_2)*6+4) (∃(t:Tail),x = .list (c.rows.map rrc) t) (0+Int.toNat (ixS c.aa p_2)*6+3) (0+Int.toNat (ixS c.aa p_2)*6+5); exact fun b d e f=>by refine(?_:_→Prop) (over i e [.int .i64 st]); exact fun a=>by refine(?_:_→Prop) (over a b [.int .i64 un]); exact fun g=>ak [.agg k,.int .u32 p] [.agg [.int .u32 c.id,.int .i64 c.md,.int .u32 c.ins,x,y],.int .u32 p_2]∧c.aa.length≤1000000∧((d∧∃(t:Tail),y = .list (c.aa.map stc) t)∨(d∧∃(o:Nat) (cap_1:Nat) (J_1:List PV),y = .arr o 0 c.aa.length cap_1∧c.aa.length≤cap_1∧gL h o (flS c.aa++J_1))∨(∃(o:Nat) (n:Nat) (cap:Nat),x = .arr o 0 n cap∧o<4)∧∃(o:Nat) (cap_1:Nat) (J_1:List PV),y = .arr o 0 c.aa.length cap_1∧c.aa.length≤cap_1∧gL h o (flS c.aa++J_1))∧(0≤ixS c.aa p_2∧ixS c.aa p_2<(↑(List.length l):Int))∧br (1 == 1 && List.all [.int .i64 st] PV.one && decide (0+Int.toNat (ixS c.aa p_2)*6+3+1≤List.length i) && cE 0 2 e 1) (br (1 == 1 && List.all [.int .i64 un] PV.one && decide (0+Int.toNat (ixS c.aa p_2)*6+4+1≤List.length a) && cE 0 2 b 1) (br (1 == 1 && List.all [.int .u64 no] PV.one && decide (0+Int.toNat (ixS c.aa p_2)*6+5+1≤List.length g) && cE 0 2 f 1) (∃(w_3:List Mt) (m_3:Int) (c_1:Mt) (cap_1:Nat) (J_1:List PV),MO w_3 m_3∧aF c_1.id=true∧bu Mt.id w_3 c_1.id=true∧c_1.aa.length≤cap_1∧ak v v∧az [.cells [.ptr 1 0],s,.cells (over g f [.int .u64 no]),.cells k] [.cells [.ptr 1 0],.abs (rkM (ar w_3) m_3),.cells (flS c_1.aa++J_1),.cells [.int .u32 c_1.id,.int .i64 c_1.md,.int .u32 c_1.ins,.list (c_1.rows.map rrc) .exact,.arr 2 0 c_1.aa.length cap_1]]∧∀(G:List Ob),K (.int .i64 0) (.cells [.ptr 1 0] :: .abs (rkM (ar (eT Mt.id w_3 c_1)) m_3)::G)) False) False) False)) j))→aj Tryd.prog gl 18 [.ptr 0 0,.int .u32 p,.int .i64 st,.int .i64 un,.int .u64 no] u K:Prop):=fun K h=>ah (T:=TST) (L:=[([1,1,1,1,1,0],za)]) (fun o=>match o.dst with|some 36=>5|some 33=>1|some 34=>1|_=>0) Tryd.func18 (by kernel_rfl) (by kernel_rfl) (by kernel_rfl) (Aa) (.cons (jz (by kernel_rfl)) yP (.nil _ _ _ _ _)) (ag (by kernel_rfl) h)
def jq (s:Se) (st un no:Int):Se:=⟨s.pl,s.tm,s.nu,st,un,no⟩
def gU (c:Mt) (p st un no:Int):Mt:=⟨c.id,c.md,c.ins,c.rows,c.aa.set (c.aa.findIdx (isP p)) (jq (c.aa.getD (c.aa.findIdx (isP p)) default) st un no)⟩
def dL (w:List Mt) (p st un no:Int):List Mt×Int:=
 if bu Mt.id w (ofM w p)=false then(w,12) else if st<1∨st>3 then(w,2) else(eT Mt.id w (gU (gM w (ofM w p)) p st un no),0)
theorem CR {t:Int} (h:aF t=true):t≠0:=by unfold aF at h; have:=of_decide_eq_true h; omega
theorem MO.La {w:List Mt} {m:Int} (ro:MO w m):bu Mt.id w 0=false:=by
 cases c:bu Mt.id w 0 with
 | false=>rfl
 | true=>exact absurd (MO.Jp c) (CR (ro.Ap c).rt)
theorem vw {w:List Mt} {m:Int} (ro:MO w m) (p:Int):(bu Mt.id w (ofM w p)=true∧inM (gM w (ofM w p)) p=true)∨(bu Mt.id w (ofM w p)=false∧ofM w p=0∧∀ c∈w,inM c p=false):=by
 unfold ofM
 by_cases h:w.findIdx (fun c=>inM c p)<w.length
 ·rw[if_pos h]
  have hm:w.getD (w.findIdx fun c=>inM c p) default∈w:=bj h
  have hp:inM (w.getD (w.findIdx fun c=>inM c p) default) p=true:=by
   rw[List.getD_eq_getElem?_getD,List.getElem?_eq_getElem h]; exact List.findIdx_getElem (w:=h)
  refine .inl ⟨dk.2 ⟨_,hm,rfl⟩,?_⟩
  have:gM w (w.getD (w.findIdx fun c=>inM c p) default).id=w.getD (w.findIdx fun c=>inM c p) default:=vo ro.rise hm
  rw[this]; exact hp
 ·rw[if_neg h]
  refine .inr ⟨ro.La,rfl,fun c hc=>?_⟩
  cases e:inM c p with
  | false=>rfl
  | true=>exact absurd (List.findIdx_lt_length_of_exists ⟨c,hc,e⟩) h
theorem zp {l:List Se} {J:List PV} {k:Nat} (h:k<l.length) (st un no:Int):over (over (over (flS l++J) (0+k*6+3) [.int .i64 st]) (0+k*6+4) [.int .i64 un]) (0+k*6+5) [.int .u64 no]=flS (l.set k (jq (l.getD k default) st un no))++J:=by
 obtain⟨s,hs⟩:∃ s,s=l.getD k default:=⟨_,rfl⟩
 have hd:=kP bK J (default:Se) h
 have hA:(List.take (k*6) (flS l++J)).length=k*6:=by rw[List.length_take,List.length_append,gI]; omega
 have hC:flS l++J=List.take (k*6) (flS l++J)++(stc s++(flS (l.drop (k+1))++J)):=by rw[hs,← hd,List.take_append_drop]
 rw[← hs,Nat.zero_add]
 have h0:=over_row bK (J:=J) (a:=jq s st un no) (default:Se) h
 rw[← h0]
 generalize List.take (k*6) (flS l++J)=A at *
 generalize flS (l.drop (k+1))++J=B at *
 have e0:over (flS l++J) (k*6) (stc (jq s st un no))=A++stc (jq s st un no)++B:=cy (X:=stc s) (by rw[hC,List.append_assoc]) hA rfl
 rw[e0,hC]
 rw[cy (A:=A++[.int .u32 s.pl,.int .i64 s.tm,.int .i64 s.nu]) (X:=[.int .i64 s.st]) (Y:=[.int .i64 st]) (B:=[.int .i64 s.un,.int .u64 s.no]++B) (by simp[stc]) (by simp[hA]) rfl]
 rw[cy (A:=A++[.int .u32 s.pl,.int .i64 s.tm,.int .i64 s.nu]++[.int .i64 st]) (X:=[.int .i64 s.un]) (Y:=[.int .i64 un]) (B:=[.int .u64 s.no]++B) (by simp) (by simp[hA]) rfl]
 rw[cy (A:=A++[.int .u32 s.pl,.int .i64 s.tm,.int .i64 s.nu]++[.int .i64 st]++[.int .i64 un]) (X:=[.int .u64 s.no]) (Y:=[.int .u64 no]) (B:=B) (by simp) (by simp[hA]) rfl]
 simp[stc,jq]
def KB (args:List PV) (H:ae) (K:PV→ae→Prop):Prop:=∃(q r:Nat) (w:List Mt) (m p st un no:Int),ak args [.ptr q 0,.int .u32 p,.int .i64 st,.int .i64 un,.int .u64 no]∧cC H q r (rkM (ar w) m)∧MO w m∧
 K (.int .i64 (dL w p st un no).2) (H.set r (.abs (rkM (ar (dL w p st un no).1) m)))
theorem zw:aO Tryd.prog gl 18 (.heap KB):=by
 rintro args H K ⟨q,r,w,m,p,st,un,no,he,hb,ro,hk⟩
 have he:args=_:=he
 subst he
 obtain⟨z,hz⟩:∃ z,z=dL w p st un no:=⟨_,rfl⟩
 rw[← hz] at hk
 refine iN aq hb (kY (.int _ _) (.int _ _) (.int _ _) (.int _ _)) (.int _ _) (Ep w m p st un no _ ⟨0,1,w,m,p,rfl,⟨rfl,rfl⟩,ro,0,1,w,m,ofM w p,rfl,⟨rfl,rfl⟩,ro,fun h0=>?_,fun h1=>?_⟩) hk
 ·unfold dL at hz
  rw[if_pos h0] at hz
  rw[hz]; exact⟨rfl,_,rfl⟩
 ·unfold dL at hz
  rw[if_neg (by rw[h1]; decide)] at hz
  rcases vw ro p with⟨_,hin⟩|⟨h2,_⟩
  rotate_left
  ·rw[h1] at h2; cases h2
  obtain⟨c,hcd⟩:∃ c,c=gM w (ofM w p):=⟨_,rfl⟩
  have hok:c.Ok:=by rw[hcd]; exact ro.Ap h1
  have hid:c.id=ofM w p:=by rw[hcd]; exact MO.Jp h1
  rw[← hcd] at hin
  rw[← hcd] at hz ⊢
  obtain⟨k1,k2⟩:=ID hin
  have hsm:=hok.sm.aa
  refine⟨fun e=>by rw[e] at k1; simp at k1,fun cap J hcap hJ=>?_⟩
  simp only[ay]
  have hlen:(flS c.aa++J).length=cap*6:=by rw[List.length_append,gI,hJ.len]; omega
  by_cases c1:st<1
  ·rw[if_pos (.inl c1)] at hz
   rw[if_neg (by simpa using c1),hz]; exact⟨rfl,_,rfl⟩
  ·rw[if_pos (by simpa using c1)]
   by_cases c2:st>3
   ·rw[if_pos (.inr c2)] at hz
    rw[if_pos (by simpa using c2),hz]; exact⟨rfl,_,rfl⟩
   ·rw[if_neg (fun e=>by rcases e with e|e; exact c1 e; exact c2 e)] at hz
    rw[if_neg (by simpa using c2)]
    refine⟨c,_,_,p,rfl,hsm,.inr (.inl ⟨⟨_,rfl⟩,2,cap,J,rfl,hcap,rfl⟩),⟨by rw[k2]; omega,by rw[k2]; omega⟩,?_⟩
    rw[k2]
    simp only[au]
    have hb1:0+c.aa.findIdx (isP p)*6+3+1≤(flS c.aa++J).length:=by rw[hlen]; omega
    have l1:(over (flS c.aa++J) (0+c.aa.findIdx (isP p)*6+3) [PV.int .i64 st]).length=cap*6:=by rw[bB (by simpa using hb1),hlen]
    have hb2:0+c.aa.findIdx (isP p)*6+4+1≤(over (flS c.aa++J) (0+c.aa.findIdx (isP p)*6+3) [PV.int .i64 st]).length:=by rw[l1]; omega
    have l2:(over (over (flS c.aa++J) (0+c.aa.findIdx (isP p)*6+3) [PV.int .i64 st]) (0+c.aa.findIdx (isP p)*6+4) [PV.int .i64 un]).length=cap*6:=by rw[bB (by simpa using hb2),l1]
    have hb3:0+c.aa.findIdx (isP p)*6+5+1≤(over (over (flS c.aa++J) (0+c.aa.findIdx (isP p)*6+3) [PV.int .i64 st]) (0+c.aa.findIdx (isP p)*6+4) [PV.int .i64 un]).length:=by rw[l2]; omega
    rw[if_pos (by rw[decide_eq_true hb1]; rfl),if_pos (by rw[decide_eq_true hb2]; rfl),if_pos (by rw[decide_eq_true hb3]; rfl),zp k1]
    have hl:(gU c p st un no).aa.length=c.aa.length:=by show(List.set _ _ _).length=_; rw[List.length_set]
    have hid2:(gU c p st un no).id=c.id:=rfl
    refine⟨w,m,gU c p st un no,cap,J,ro,hok.rt,by rw[hid2,hid]; exact h1,by rw[hl]; exact hcap,rfl,?_,fun G=>?_⟩
    ·show _=_
     rw[hl]; rfl
    ·rw[hz]; exact⟨rfl,G,rfl⟩
end Go.Proofs.YtenaelaapdhbdaaDoor
