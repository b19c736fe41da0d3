/-
  Rows copied.
-/
import Derived.Test.YtenaelaapdhbdaaDoorDh
import Derived.Test.YtenaelaapdhbdaaDoorProg
namespace Go.Proofs.YtenaelaapdhbdaaDoor
open Go Go.AM Go.Proofs
def cF (c:Mt) (ps:List Int) (t:Int):Mt:=ps.foldl (fun c p=>fE c p t) c
def sx (c:Mt) (r:Rr):Mt:=⟨c.id,c.md,c.ins,c.rows++[r],c.aa⟩
def fc (c:Mt) (r:Rr):Mt:=sx (cF c r.pl r.tm) r
def aA (c:Mt) (l:List Rr):Mt:=l.foldl fc c
theorem xh {c:Mt} {ps:List Int} {t:Int} {k:Nat} (h:k<ps.length):cF c (ps.take (k+1)) t=fE (cF c (ps.take k) t) (ps.getD k 0) t:=by
 unfold cF; rw[aZ 0 h,List.foldl_append]; rfl
theorem qQ {c:Mt} {l:List Rr} {k:Nat} (h:k<l.length):aA c (l.take (k+1))=fc (aA c (l.take k)) (l.getD k default):=by
 unfold aA; rw[aZ default h,List.foldl_append]; rfl
theorem eU (ps:List Int) (t:Int):∀ c:Mt,(cF c ps t).aa.length=c.aa.length+ps.length:=by
 induction ps with
 | nil=>intro c; rfl
 | cons p ps ih=>intro c; show(cF (fE c p t) ps t).aa.length=_; rw[ih]; show(fQ c.aa p t).length+_=_; rw[nU,List.length_cons]; omega
theorem pK (ps:List Int) (t:Int):∀ c:Mt,(cF c ps t).rows=c.rows:=by
 induction ps with
 | nil=>intro c; rfl
 | cons p ps ih=>intro c; show(cF (fE c p t) ps t).rows=_; rw[ih]; rfl
def tot (l:List Rr):Nat:=(l.map fun r=>r.pl.length).sum
theorem j7 {l:List Rr} {k:Nat} (h:k<l.length):tot (l.take (k+1))=tot (l.take k)+(l.getD k default).pl.length:=by
 unfold tot; rw[aZ default h,List.map_append,List.sum_append]; simp
theorem fC {l:List Rr} (k:Nat):tot (l.take k)≤tot l:=by
 unfold tot
 conv=>rhs; rw[← List.take_append_drop k l,List.map_append,List.sum_append]
 omega
theorem fS (l:List Rr):∀ c:Mt,(aA c l).aa.length=c.aa.length+tot l:=by
 induction l with
 | nil=>intro c; rfl
 | cons r l ih=>intro c; show(aA (fc c r) l).aa.length=_; rw[ih]; show(cF c r.pl r.tm).aa.length+_=_; rw[eU]; unfold tot; rw[List.map_cons,List.sum_cons]; omega
theorem cQ (l:List Rr):∀ c:Mt,(aA c l).rows=c.rows++l:=by
 induction l with
 | nil=>intro c; show c.rows=_; rw[List.append_nil]
 | cons r l ih=>intro c; show(aA (fc c r) l).rows=_; rw[ih]; show((cF c r.pl r.tm).rows++[r])++l=_; rw[pK,List.append_assoc]; rfl
def CC (args:List PV) (K:PV→Prop):Prop:=∃(c:Mt) (t1 t2:Tail),ak args [.agg [.int .u32 c.id,.int .i64 c.md,.int .u32 c.ins,.list (c.rows.map rrc) t1,.list (c.aa.map stc) t2]]∧c.Sm∧K c.pv
theorem EP:aO Tryd.prog gl 43 (.pure CC):=by
 rintro args K ⟨c,t1,t2,he,h,hk⟩
 have he:args=_:=he
 subst he
 exact bH aq (.cons iF .nil) (bw c.low) c.low (Hz c h) hk
def CV (args:List PV) (H:ae) (K:PV→ae→Prop):Prop:=∃(c:Mt) (t1 t2:Tail),ak args [.agg [.int .u32 c.id,.int .i64 c.md,.int .u32 c.ins,.list (c.rows.map rrc) t1,.list (c.aa.map stc) t2]]∧c.Sm∧∀(y:PV) (g:Ob),ArS H.length c.aa y g→K (dR c (.list (c.rows.map rrc) .exact) y) (H++[g])
theorem Fp:aO Tryd.prog gl 43 (.heap CV):=fun _ _ _ ⟨c,t1,t2,he,h,hk⟩=>AP _ _ _ ⟨c,t1,t2,he,h,.inr (.inl hk)⟩
def B4 (args:List PV) (H:ae) (K:PV→ae→Prop):Prop:=∃(c:Mt) (t1 t2:Tail),ak args [.agg [.int .u32 c.id,.int .i64 c.md,.int .u32 c.ins,.list (c.rows.map rrc) t1,.list (c.aa.map stc) t2]]∧c.Sm∧∀(y:PV) (g:Ob),ArS H.length c.aa y g→K (dR c (.arr (H.length+1) 0 c.rows.length c.rows.length) y) (H++[g,.cells (flR c.rows)])
theorem GZ:aO Tryd.prog gl 43 (.heap B4):=fun _ _ _ ⟨c,t1,t2,he,h,hk⟩=>AP _ _ _ ⟨c,t1,t2,he,h,.inr (.inr (.inl hk))⟩
def zJ (args:List PV) (K:PV→Prop):Prop:=∃(l:List Int) (tl:Tail),ak args [.list (l.map u1) tl]∧l.length≤1000000∧K (.list (l.map u1) .no)
theorem GS:aO Tryd.prog gl 60 (.pure zJ):=by
 rintro args K ⟨l,tl,he,hl,hk⟩
 have he:args=_:=he
 subst he
 exact bH (r:= .list (l.map u1) .no) aq (.cons (.list _ _) .nil) (bw (eE l)) (eE l) (wE _ _ _ ⟨l,.no,rfl,hl,.inl rfl⟩) hk
def TSD:Tab:=[(59,.heap zL),(60,.pure zJ),(43,.heap B4)]
theorem uy:aB Tryd.prog gl TSD:= .cons JL (.cons GS (.cons GZ (.nil _ _)))
theorem IP (c:Mt) (l:List Rr) (r:Rr) (i k:Nat):(by refine(?_:_→_→_→_→_→_→Prop) (Ob.cells [.int .u32 0,.int .i64 0,.int .u32 0,.list [] .exact,.list [] .exact]) (List.getD (r.pl.map u1) (Int.toNat (k:Int)) []) (PV.list (r.pl.map u1) .no) (PV.list (l.map rrc) .no) (PV.int .i64 r.pl.length) (PV.int .i64 l.length); exact fun a f g j m n=>by refine(?_:_→_→Prop) (Ob.cells [.int .i64 r.tm,g,.int .i64 r.rt,.int .i64 r.wd]) [PV.ptr 0 0,.ptr 1 0,.ptr 4 0,j,n,.int .i64 i,g,m,.int .i64 k]; exact fun b d=>by refine(?_:_→Prop) [Ob.abs (mw c),a,.dead,.dead,b]; exact fun h=>∀(R:Ex→List PV→ae→Prop),(br (decide ((k:Int)<(r.pl.length:Int))) (InL (r.pl.map u1) 1 (k:Int)∧br (true && aP [.int .u32] 0 f) (∃(c_1:Mt) (p:Int) (t:Int),ak [.int .u32 (cI f 0),.int .i64 r.tm] [.int .u32 p,.int .i64 t]∧bO h 0 (mw c_1)∧c_1.aa.length≤1000000∧R .normal [.ptr 0 0,.ptr 1 0,.ptr 4 0,j,n,.int .i64 i,g,m,.int .i64 (wI ((k:Int)+1))] [.abs (mw (fE c_1 p t)),a,.dead,.dead,b]) False) (R (.exit 2) d h))→Holds (wpc br Tryd.prog gl TSD [] (fun _=>0) (an [1,1,0,1,0,0,1,1,0,0,1,0,1,0] (ai Tryd.f33)) [] (av [2,4,6,11,12,13,18,19,20] d) [.abs (mw c),a,.dead,.dead,.cells (rrc r)] (fun ex e H=>R ex (List.map e [2,4,6,11,12,13,18,19,20]) H)):Prop):=fun R h=>ag (by kernel_rfl) h
theorem Js (c:Mt) (l:List Rr) (r:Rr) (i cap:Nat) (J:List PV) (y:PV) (gy:Ob):(by refine(?_:_→_→_→_→_→Prop) [PV.int .i64 r.tm,.list (r.pl.map u1) .no,.int .i64 r.rt,.int .i64 r.wd] [PV.ptr 0 0,.ptr 1 0,.ptr 4 0,.list (l.map rrc) .no,.int .i64 l.length,.int .i64 i] (Ob.cells [.int .u32 0,.int .i64 0,.int .u32 0,.list [] .exact,.list [] .exact]) (c.rows.length+1) (Ob.cells (flR c.rows++J)); exact fun a b d f g=>∀(R:Ex→List PV→ae→Prop),((c.rows.length≤cap∧0+cap*4≤List.length (flR c.rows++J)∧4=4∧List.all a PV.one=true∧f*48≤140737488355328)∧(c.rows.length+1≤cap→R .normal b [.cells [.int .u32 c.id,.int .i64 c.md,.int .u32 c.ins,.arr 5 0 f cap,y],d,.dead,.dead,.cells a,.cells (over (flR c.rows++J) (0+c.rows.length*4) a),gy])∧(cap<c.rows.length+1→∀(c_1:Nat),c.rows.length+1≤c_1→R .normal b [.cells [.int .u32 c.id,.int .i64 c.md,.int .u32 c.ins,.arr 7 0 f c_1,y],d,.dead,.dead,.cells a,g,gy,.cells (List.take (c.rows.length*4) (List.drop 0 (flR c.rows++J))++a++List.flatten (List.replicate (c_1-f) [.int .i64 0,.list [] .exact,.int .i64 0,.int .i64 0]))]))→Holds (wpc br Tryd.prog gl [] [] (fun o=>match o.op with| .load t _=>(match t with|43=>1|_=>0)|_=>match o.dst with|some 37=>2|_=>0) (cw [1,1,0,1,0,0,1,1,0,0,1,1,1] (ai Tryd.f33)) [] (av [2,4,6,11,12,13] b) [.cells [.int .u32 c.id,.int .i64 c.md,.int .u32 c.ins,.arr 5 0 c.rows.length cap,y],d,.dead,.dead,.cells (rrc r),g,gy] (fun ex e H=>R ex (List.map e [2,4,6,11,12,13]) H)):Prop):=fun R h=>ag (by kernel_rfl) h
theorem EF (c:Mt) (x y:PV) (gx gy:Ob):(by refine(?_:_→_→Prop) [PV.int .u32 c.id,.int .i64 c.md,.int .u32 c.ins,x,y] [PV.ptr 0 0,.ptr 1 0]; exact fun a b=>∀(R:Ex→List PV→ae→Prop),(br (5 == 5 && List.all a PV.one && true && true) (R .normal b [.cells a,.cells a,.dead,.dead,gx,gy]) False)→Holds (wpc br Tryd.prog gl [] [] (fun o=>match o.dst with|some 40=>1|_=>0) (cw [1,1,1,0] (ai Tryd.f33)) [] (av [2,4] b) [.cells a,.cells [.int .u32 0,.int .i64 0,.int .u32 0,.list [] .exact,.list [] .exact],.dead,.dead,gx,gy] (fun ex e H=>R ex (List.map e [2,4]) H)):Prop):=fun R h=>ag (by kernel_rfl) h
theorem gS (n:Nat):aJ (List.replicate n [PV.int .i64 0,.list [] .exact,.int .i64 0,.int .i64 0]).flatten (n*4):=by
 refine(aJ.pX (z:=[PV.int .i64 0,.list [] .exact,.int .i64 0,.int .i64 0]) (fun y hy=>?_) (kY (.int _ _) (aI NT.exact (by simp)) (.int _ _) (.int _ _)) n).cast (by simp)
 simp only[List.mem_cons,List.not_mem_nil,or_false] at hy
 rcases hy with rfl|rfl|rfl|rfl<;>rfl
theorem bJ (l:List Rr):(flR l).length=l.length*4:=bq fb l
theorem AV (l:List Rr) (r:Rr):flR (l++[r])=flR l++rrc r:=by unfold flR; simp
def BC:LSp:=fun e H Q=>∃(c:Mt) (l:List Rr) (r:Rr) (i:Nat),r.pl.length≤1000000∧c.aa.length+r.pl.length≤1000000∧ak (List.map e [2,4,6,11,12,13,18,19,20]) [.ptr 0 0,.ptr 1 0,.ptr 4 0,.list (l.map rrc) .no,.int .i64 l.length,.int .i64 i,.list (r.pl.map u1) .no,.int .i64 r.pl.length,.int .i64 0]∧az H [.abs (mw c),.cells [.int .u32 0,.int .i64 0,.int .u32 0,.list [] .exact,.list [] .exact],.dead,.dead,.cells (rrc r)]∧Q (.exit 2) (av [2,4,6,11,12,13,18,19,20] [.ptr 0 0,.ptr 1 0,.ptr 4 0,.list (l.map rrc) .no,.int .i64 l.length,.int .i64 i,.list (r.pl.map u1) .no,.int .i64 r.pl.length,.int .i64 r.pl.length]) [.abs (mw (cF c r.pl r.tm)),.cells [.int .u32 0,.int .i64 0,.int .u32 0,.list [] .exact,.list [] .exact],.dead,.dead,.cells (rrc r)]
theorem By:∀ e H Q,BC e H Q→AW Tryd.prog gl Tryd.f33.ntmps (.loop (an [1,1,0,1,0,0,1,1,0,0,1,0,1,0] (ai Tryd.f33))) Q e H:=by
 rintro e H Q ⟨c,l,r,i,hr,hl,he,hH,hQ⟩
 refine aG (hn:=fun _=>0) aq uy (.nil _ _ _ _ _) (σ:=Nat) [2,4,6,11,12,13,18,19,20] (fun k=>k≤r.pl.length) (fun k=>[.ptr 0 0,.ptr 1 0,.ptr 4 0,.list (l.map rrc) .no,.int .i64 l.length,.int .i64 i,.list (r.pl.map u1) .no,.int .i64 r.pl.length,.int .i64 k]) (fun k=>[.abs (mw (cF c (r.pl.take k) r.tm)),.cells [.int .u32 0,.int .i64 0,.int .u32 0,.list [] .exact,.list [] .exact],.dead,.dead,.cells (rrc r)]) (fun k=>r.pl.length-k) 0 (Nat.zero_le _) he hH ?_
 intro k hk
 have hk:k≤r.pl.length:=hk
 refine IP (cF c (r.pl.take k) r.tm) l r i k _ ?_
 simp only[ay,dt,au,ec]
 by_cases h:k<r.pl.length
 ·rw[if_pos (by omega)]
  simp only[getD_map 0 h]
  refine⟨h,?_⟩
  rw[if_pos (by rfl)]
  have cid:cI (u1 (r.pl.getD k 0)) 0=r.pl.getD k 0:=rfl
  simp only[cid]
  refine⟨cF c (r.pl.take k) r.tm,r.pl.getD k 0,r.tm,rfl,rfl,?_,k+1,(show r.pl.length-(k+1)<r.pl.length-k by omega),h,by rw[ax h (by omega)],[],?_,Nat.le_refl _,.inl rfl⟩
  ·rw[eU,List.length_take]; omega
  ·rw[← xh h]; rfl
 ·rw[if_neg (by omega)]
  have:k=r.pl.length:=by omega
  subst this
  rw[List.take_length]
  exact hQ
theorem GP:an [1,1,0,0,1,0,1,0] (an [1,1,0,1,0] (ai Tryd.f33))=an [1,1,0,1,0,0,1,1,0,0,1,0,1,0] (ai Tryd.f33):=by kernel_rfl
theorem yI:∀ e H Q,BC e H Q→AW Tryd.prog gl Tryd.f33.ntmps (.loop (an [1,1,0,0,1,0,1,0] (an [1,1,0,1,0] (ai Tryd.f33)))) Q e H:=by
 rw[GP]; exact By
theorem C7 {c:Mt} {H:ae} {x y:PV} {gx gy:Ob} (hx:ArR 1 c.rows x gx) (hy:ArS 2 c.aa y gy):∃ x' y',ArR H.length c.rows x' gx∧ArS (H.length+1) c.aa y' gy∧Nm (c8 0 H.length) 3 x x'∧Nm (c8 0 H.length) 3 y y':=by
 obtain⟨x',h1,h2⟩:=hx.nm H.length (ρ:=c8 0 H.length) (n:=3) (by decide) rfl
 obtain⟨y',h3,h4⟩:=hy.nm (H.length+1) (ρ:=c8 0 H.length) (n:=3) (by decide) (by rfl)
 exact⟨x',y',h1,h3,h2,h4⟩
theorem HZ {g:Ob} {ρ:Nat→Nat} {n q:Nat} {H2:ae} (hg:g = .dead∨∃ cs,g = .cells cs) (hl:∀ cs,g = .cells cs→∀ x∈cs,Low 0 x) (h:H2[q]?=some g):g = .dead∧H2[q]?=some .dead∨∃ cs cs',g = .cells cs∧H2[q]?=some (.cells cs')∧NmL ρ n cs cs':=by
 rcases hg with rfl|⟨cs,rfl⟩
 ·exact .inl ⟨rfl,h⟩
 ·exact .inr ⟨cs,cs,rfl,h,NmL.low (hl cs rfl)⟩
theorem sD {c:Mt} {T:ae} {x y x' y':PV} {gx gy:Ob} (hx:ArR 1 c.rows x gx) (hy:ArS 2 c.aa y gy) (h1:Nm (c8 0 (.abs (mw c)::T:ae).length) 3 x x') (h2:Nm (c8 0 (.abs (mw c)::T:ae).length) 3 y y'):
  OpenH 0 [.cells [.int .u32 c.id,.int .i64 c.md,.int .u32 c.ins,x,y],gx,gy] (.abs (mw c)::T) (.cells [.int .u32 c.id,.int .i64 c.md,.int .u32 c.ins,x',y']::(T++[gx,gy])):=by
 refine⟨by simp,fun o h3 h4=>?_,fun k a hk=>?_⟩
 ·obtain⟨o,rfl⟩:=Nat.exists_eq_succ_of_ne_zero h4
  simp only[List.length_cons] at h3
  show(T++[gx,gy])[o]?=T[o]?
  rw[List.getElem?_append_left (by omega)]
 ·have k1:=(List.getElem?_eq_some_iff.1 hk).1
  simp at k1
  have:k=0∨k=1∨k=2:=by omega
  rcases this with rfl|rfl|rfl
  ·cases hk
   exact .inr ⟨_,_,rfl,rfl,.cons (.low (.int _ _)) (.cons (.low (.int _ _)) (.cons (.low (.int _ _)) (.cons h1 (.cons h2 .nil))))⟩
  ·cases hk
   refine HZ hx.ob hx.mi ?_
   show(_::(T++[gx,gy]))[(T.length+1)+0]?=_
   simp
  ·cases hk
   refine HZ hy.ob hy.mi ?_
   show(_::(T++[gx,gy]))[(T.length+1)+1]?=_
   simp
theorem uf {c:Mt} {x y:PV} {gx gy:Ob} {i k:Nat} {T T2:ae} (hi:(.cells [.int .u32 c.id,.int .i64 c.md,.int .u32 c.ins,x,y]::T:ae)[i]?=some gx) (hk:(.cells [.int .u32 c.id,.int .i64 c.md,.int .u32 c.ins,x,y]::T:ae)[k]?=some gy) (h1:0≠i) (h2:0≠k) (h3:i≠k) (hx:ArR i c.rows x gx) (hy:ArS k c.aa y gy)
  (hl:T2.length=T.length) (ho:∀(o:Nat) (b:Ob),T2[o]?=some b→b.alive=true→T[o]?=some b∧o+1≠i∧o+1≠k):
  ∃(ρ:Nat→Nat) (hh:ae),ShutH ρ hh 0 (MW c) (.cells [.int .u32 c.id,.int .i64 c.md,.int .u32 c.ins,x,y]::T) (.abs (mw c)::T2):=by
 obtain⟨Z,k1,k2,k3,k4,k5⟩:=H9 (r:=0) rfl hi hk h1 h2 h3 hx hy
 refine⟨_,Z,k1,k4,k2,?_,rfl,by simp[hl],rfl,fun o b h4 h5 h6=>?_⟩
 ·rw[← k3]; exact iz _
 ·obtain⟨o,rfl⟩:=Nat.exists_eq_succ_of_ne_zero h4
  obtain⟨j1,j2,j3⟩:=ho o b h5 h6
  refine⟨j1,fun n hn=>?_⟩
  rw[k5] at hn
  have:n=0∨n=1∨n=2:=by omega
  rcases this with rfl|rfl|rfl
  ·show(0:Nat)≠o+1; omega
  ·exact fun e=>j2 e.symm
  ·exact fun e=>j3 e.symm
def BP:LSp:=fun e H Q=>∃(c:Mt) (l:List Rr) (r:Rr) (i:Nat),c.rows.length+1≤1000000∧ak (List.map e [2,4,6,11,12,13]) [.ptr 0 0,.ptr 1 0,.ptr 4 0,.list (l.map rrc) .no,.int .i64 l.length,.int .i64 i]∧az H [.abs (mw c),.cells [.int .u32 0,.int .i64 0,.int .u32 0,.list [] .exact,.list [] .exact],.dead,.dead,.cells (rrc r)]∧∀(G:ae),Q .normal (av [2,4,6,11,12,13] [.ptr 0 0,.ptr 1 0,.ptr 4 0,.list (l.map rrc) .no,.int .i64 l.length,.int .i64 i]) ([.abs (mw (sx c r)),.cells [.int .u32 0,.int .i64 0,.int .u32 0,.list [] .exact,.list [] .exact],.dead,.dead,.cells (rrc r)]++G)
theorem Av:∀ e H Q,BP e H Q→AW Tryd.prog gl Tryd.f33.ntmps (cw [1,1,0,1,0,0,1,1,0,0,1,1,1] (ai Tryd.f33)) Q e H:=by
 rintro e H Q ⟨c,l,r,i,hl,he,hH,hQ⟩
 have hH:H=_:=hH
 have he:List.map e [2,4,6,11,12,13]=_:=he
 subst hH
 refine AW.v5 (q:=0) (I:=MW c) rfl fun hh h _=>?_
 obtain⟨x,y,gx,gy,hx,hy,rfl⟩:=h
 obtain⟨x',y',hx',hy',h1,h2⟩:=C7 (H:=[.abs (mw c),.cells [.int .u32 0,.int .i64 0,.int .u32 0,.list [] .exact,.list [] .exact],.dead,.dead,.cells (rrc r)]) hx hy
 refine⟨_,sD hx hy h1 h2,?_⟩
 obtain⟨cap,J,rfl,rfl,hcap,hJ⟩:=hx'
 have hn:=hcap
 refine AW.K3 (dQ (T:=[]) (slots:=[2,4,6,11,12,13]) (outs:=[2,4,6,11,12,13]) (hn:=fun o=>match o.op with| .load t _=>(match t with|43=>1|_=>0)|_=>match o.dst with|some 37=>2|_=>0) (.nil _ _) (.nil _ _ _ _ _) he rfl (Js c l r i cap J y' gy (fun ex vs H'=>∃(ρ:Nat→Nat) (hh:ae) (q:Nat) (I:ae→Prop) (H2:ae),ShutH ρ hh q I H' H2∧Q ex (av [2,4,6,11,12,13] vs) H2) ?_))
 have hlen:(flR c.rows++J).length=cap*4:=by rw[List.length_append,bJ,hJ.len,← Nat.add_mul]; congr 1; omega
 have e3:(c.rows++[r]).length=c.rows.length+1:=by simp
 refine⟨⟨hcap,by rw[hlen]; omega,rfl,rfl,by omega⟩,fun h=>?_,fun h c' hc'=>?_⟩
 ·have e4:=ny fb r (l:=c.rows) (J:=J) (by rw[hJ.len]; omega)
  rw[jh] at e4
  obtain⟨ρ,hh,hs⟩:=uf (c:=sx c r) (x:= .arr 5 0 (c.rows.length+1) cap) (y:=y') (i:=5) (k:=6) (gx:= .cells (flR (c.rows++[r])++J.drop 4)) (gy:=gy) (T:=[.cells [.int .u32 0,.int .i64 0,.int .u32 0,.list [] .exact,.list [] .exact],.dead,.dead,.cells (rrc r),.cells (flR (c.rows++[r])++J.drop 4),gy]) (T2:=[.cells [.int .u32 0,.int .i64 0,.int .u32 0,.list [] .exact,.list [] .exact],.dead,.dead,.cells (rrc r),.dead,.dead]) rfl rfl (by decide) (by decide) (by decide) ⟨cap,J.drop 4,by show PV.arr 5 0 _ cap = .arr 5 0 (c.rows++[r]).length cap; rw[e3],rfl,by show(c.rows++[r]).length≤cap; rw[e3]; exact h,by show aJ _ ((cap-(c.rows++[r]).length)*4); rw[e3]; exact hJ.drop.cast (by omega)⟩ hy' rfl (fun o b h1 h2=>by
   have k1:=(List.getElem?_eq_some_iff.1 h1).1
   simp at k1
   have:o=0∨o=1∨o=2∨o=3∨o=4∨o=5:=by omega
   rcases this with rfl|rfl|rfl|rfl|rfl|rfl<;>first|(exact⟨h1,by decide,by decide⟩)|(cases h1; cases h2))
  refine⟨ρ,hh,0,MW (sx c r),_,?_,hQ [.dead,.dead]⟩
  rw[Nat.zero_add]
  have e5:over (flR c.rows++J) (c.rows.length*4) [PV.int .i64 r.tm,.list (List.map u1 r.pl) .no,.int .i64 r.rt,.int .i64 r.wd]=flR (c.rows++[r])++J.drop 4:=e4
  rw[e5]
  exact hs
 ·obtain⟨ρ,hh,hs⟩:=uf (c:=sx c r) (x:= .arr 7 0 (c.rows.length+1) c') (y:=y') (i:=7) (k:=6) (gx:= .cells (flR (c.rows++[r])++(List.replicate (c'-(c.rows.length+1)) [PV.int .i64 0,.list [] .exact,.int .i64 0,.int .i64 0]).flatten)) (gy:=gy) (T:=[.cells [.int .u32 0,.int .i64 0,.int .u32 0,.list [] .exact,.list [] .exact],.dead,.dead,.cells (rrc r),.cells (flR c.rows++J),gy,.cells (flR (c.rows++[r])++(List.replicate (c'-(c.rows.length+1)) [PV.int .i64 0,.list [] .exact,.int .i64 0,.int .i64 0]).flatten)]) (T2:=[.cells [.int .u32 0,.int .i64 0,.int .u32 0,.list [] .exact,.list [] .exact],.dead,.dead,.cells (rrc r),.dead,.dead,.dead]) rfl rfl (by decide) (by decide) (by decide) ⟨c',_,by show PV.arr 7 0 _ c' = .arr 7 0 (c.rows++[r]).length c'; rw[e3],rfl,by show(c.rows++[r]).length≤c'; rw[e3]; exact hc',by show aJ _ ((c'-(c.rows++[r]).length)*4); rw[e3]; exact gS _⟩ hy' rfl (fun o b h1 h2=>by
   have k1:=(List.getElem?_eq_some_iff.1 h1).1
   simp at k1
   have:o=0∨o=1∨o=2∨o=3∨o=4∨o=5∨o=6:=by omega
   rcases this with rfl|rfl|rfl|rfl|rfl|rfl|rfl<;>first|(exact⟨h1,by decide,by decide⟩)|(cases h1; cases h2))
  refine⟨ρ,hh,0,MW (sx c r),_,?_,hQ [.dead,.dead,.dead]⟩
  have e5:List.take (c.rows.length*4) (List.drop 0 (flR c.rows++J))++[PV.int .i64 r.tm,.list (List.map u1 r.pl) .no,.int .i64 r.rt,.int .i64 r.wd]=flR (c.rows++[r]):=by
   rw[List.drop_zero,List.take_left' (bJ _),AV]; rfl
  rw[e5]
  exact hs
theorem E6:cw [1,1,0,0,1,1,1] (an [1,1,0,1,0] (ai Tryd.f33))=cw [1,1,0,1,0,0,1,1,0,0,1,1,1] (ai Tryd.f33):=by kernel_rfl
theorem xC:∀ e H Q,BP e H Q→AW Tryd.prog gl Tryd.f33.ntmps (cw [1,1,0,0,1,1,1] (an [1,1,0,1,0] (ai Tryd.f33))) Q e H:=by
 rw[E6]; exact Av
def Co:LSp:=fun e H Q=>∃(c:Mt),ak (List.map e [2,4]) [.ptr 0 0,.ptr 1 0]∧az H [.abs (mw c),.cells [.int .u32 0,.int .i64 0,.int .u32 0,.list [] .exact,.list [] .exact],.dead,.dead]∧∀(x y:PV) (gx gy:Ob),ArR 4 c.rows x gx→ArS 5 c.aa y gy→Q .normal (av [2,4] [.ptr 0 0,.ptr 1 0]) [.cells [.int .u32 c.id,.int .i64 c.md,.int .u32 c.ins,x,y],.cells [.int .u32 c.id,.int .i64 c.md,.int .u32 c.ins,x,y],.dead,.dead,gx,gy]
theorem xk:∀ e H Q,Co e H Q→AW Tryd.prog gl Tryd.f33.ntmps (cw [1,1,1,0] (ai Tryd.f33)) Q e H:=by
 rintro e H Q ⟨c,he,hH,hQ⟩
 have hH:H=_:=hH
 subst hH
 refine AW.v5 (q:=0) (I:=MW c) rfl fun hh h _=>?_
 obtain⟨x,y,gx,gy,hx,hy,rfl⟩:=h
 obtain⟨x',y',hx',hy',h1,h2⟩:=C7 (H:=[.abs (mw c),.cells [.int .u32 0,.int .i64 0,.int .u32 0,.list [] .exact,.list [] .exact],.dead,.dead]) hx hy
 refine⟨_,sD hx hy h1 h2,?_⟩
 refine dQ (T:=[]) (slots:=[2,4]) (outs:=[2,4]) (hn:=fun o=>match o.dst with|some 40=>1|_=>0) (.nil _ _) (.nil _ _ _ _ _) he rfl (EF c x' y' gx gy (fun ex vs H'=>Q ex (av [2,4] vs) H') ?_)
 rw[ay,if_pos (by simp only[List.all_cons,hx'.one,hy'.one]; rfl)]
 exact hQ x' y' gx gy hx' hy'
theorem Kb (c:Mt) (l:List Rr) (i:Nat):(by refine(?_:_→_→_→_→Prop) (Ob.cells [.int .u32 0,.int .i64 0,.int .u32 0,.list [] .exact,.list [] .exact]) (List.getD (l.map rrc) (Int.toNat (i:Int)) []) (PV.list (l.map rrc) .no) (PV.int .i64 l.length); exact fun j k p q=>by refine(?_:_→_→_→Prop) [PV.ptr 0 0,.ptr 1 0,p,q,.int .i64 i] [Ob.abs (mw c),j,.dead,.dead] (PV.list (cL k 1) (cT k 1)); exact fun m n o=>∀(R:Ex→List PV→ae→Prop),(br (decide ((i:Int)<(l.length:Int))) (InL (l.map rrc) 4 (i:Int)∧br (true && aP [.int .i64,.list,.int .i64,.int .i64] 0 k) (∃(c_1:Mt) (l_1:List Rr) (r:Rr) (i_1:Nat),by refine(?_:_→_→_→Prop) (PV.list (r.pl.map u1) .no) (PV.list (l_1.map rrc) .no) (PV.int .i64 l_1.length); exact fun f g h=>r.pl.length≤1000000∧c_1.aa.length+r.pl.length≤1000000∧ak [.ptr 0 0,.ptr 1 0,.ptr 4 0,p,q,.int .i64 i,o,.int .i64 (↑(List.length (cL k 1)):Int),.int .i64 0] [.ptr 0 0,.ptr 1 0,.ptr 4 0,g,h,.int .i64 i_1,f,.int .i64 r.pl.length,.int .i64 0]∧az [.abs (mw c),j,.dead,.dead,.cells [.int .i64 (cI k 0),o,.int .i64 (cI k 2),.int .i64 (cI k 3)]] [.abs (mw c_1),j,.dead,.dead,.cells [.int .i64 r.tm,f,.int .i64 r.rt,.int .i64 r.wd]]∧∃(l:List Int) (tl:Tail),ak [f] [.list (l.map u1) tl]∧l.length≤1000000∧∃(c:Mt) (l_2:List Rr) (r_1:Rr) (i:Nat),by refine(?_:_→_→_→Prop) (Ob.cells [.int .i64 r_1.tm,.list (r_1.pl.map u1) .no,.int .i64 r_1.rt,.int .i64 r_1.wd]) (PV.list (l_2.map rrc) .no) (PV.int .i64 l_2.length); exact fun a b d=>c.rows.length+1≤1000000∧ak [.ptr 0 0,.ptr 1 0,.ptr 4 0,g,h,.int .i64 i_1] [.ptr 0 0,.ptr 1 0,.ptr 4 0,b,d,.int .i64 i]∧az [.abs (mw (cF c_1 r.pl r.tm)),j,.dead,.dead,.cells [.int .i64 r.tm,.list (l.map u1) .no,.int .i64 r.rt,.int .i64 r.wd]] [.abs (mw c),j,.dead,.dead,a]∧∀(G:ae),R .normal [.ptr 0 0,.ptr 1 0,b,d,.int .i64 (wI ((i:Int)+1))] ([.abs (mw (sx c r_1)),j,.dead,.dead,a]++G)) False) (R (.exit 0) m n))→Holds (wpc br Tryd.prog gl TSD [([1,1,0,0,1,0,1,0],BC),([1,1,0,0,1,1,1],BP)] (fun _=>0) (an [1,1,0,1,0] (ai Tryd.f33)) [] (av [2,4,11,12,13] m) n (fun ex e H=>R ex (List.map e [2,4,11,12,13]) H)):Prop):=fun R h=>ag (by kernel_rfl) h
theorem wT {c:Mt}:gQ 4 [.abs (mw c),.cells [.int .u32 0,.int .i64 0,.int .u32 0,.list [] .exact,.list [] .exact],.dead,.dead]:=by
 intro o cs ho
 have k1:=(List.getElem?_eq_some_iff.1 ho).1
 simp at k1
 have:o=0∨o=1∨o=2∨o=3:=by omega
 rcases this with rfl|rfl|rfl|rfl
 ·cases ho
 ·cases ho; exact fun x hx=> .low (qq x hx)
 ·cases ho
 ·cases ho
def H7:LSp:=fun e H Q=>∃(c:Mt) (l:List Rr) (x y:PV) (g gx:Ob),l.length≤1000000∧c.rows.length+l.length≤1000000∧(∀ r∈l,r.pl.length≤1000000)∧c.aa.length+tot l≤1000000∧ArR 3 c.rows x gx∧ArS 2 c.aa y g∧ak (List.map e [2,4,11,12,13]) [.ptr 0 0,.ptr 1 0,.list (l.map rrc) .no,.int .i64 l.length,.int .i64 0]∧az H [.cells [.int .u32 c.id,.int .i64 c.md,.int .u32 c.ins,x,y],.cells [.int .u32 0,.int .i64 0,.int .u32 0,.list [] .exact,.list [] .exact],g,gx]∧Q (.exit 0) (av [2,4,11,12,13] [.ptr 0 0,.ptr 1 0,.list (l.map rrc) .no,.int .i64 l.length,.int .i64 l.length]) [.abs (mw (aA c l)),.cells [.int .u32 0,.int .i64 0,.int .u32 0,.list [] .exact,.list [] .exact],.dead,.dead]
theorem AB:∀ e H Q,H7 e H Q→AW Tryd.prog gl Tryd.f33.ntmps (.loop (an [1,1,0,1,0] (ai Tryd.f33))) Q e H:=by
 rintro e H Q ⟨c,l,x,y,g,gx,hl,hrl,hpl,hst,hx,hy,he,hH,hQ⟩
 have hH:H=_:=hH
 subst hH
 obtain⟨ρ,hh,hs⟩:=uf (c:=c) (x:=x) (y:=y) (i:=3) (k:=2) (gx:=gx) (gy:=g) (T:=[.cells [.int .u32 0,.int .i64 0,.int .u32 0,.list [] .exact,.list [] .exact],g,gx]) (T2:=[.cells [.int .u32 0,.int .i64 0,.int .u32 0,.list [] .exact,.list [] .exact],.dead,.dead]) rfl rfl (by decide) (by decide) (by decide) hx hy rfl (fun o b h1 h2=>by
  have k1:=(List.getElem?_eq_some_iff.1 h1).1
  simp at k1
  have:o=0∨o=1∨o=2:=by omega
  rcases this with rfl|rfl|rfl<;>first|(exact⟨h1,by decide,by decide⟩)|(cases h1; cases h2))
 refine AW.shut hs ?_
 have lidv:∀ i:Nat,∀ v∈([.ptr 0 0,.ptr 1 0,.list (l.map rrc) .no,.int .i64 l.length,.int .i64 i]:List PV),Lid 4 v:=by
  intro i v hv
  simp only[List.mem_cons,List.not_mem_nil,or_false] at hv
  rcases hv with rfl|rfl|rfl|rfl|rfl
  ·exact .ptr _ _ (by decide)
  ·exact .ptr _ _ (by decide)
  ·exact .low (aQ _)
  ·exact .low (.int _ _)
  ·exact .low (.int _ _)
 refine fe (hn:=fun _=>0) aq uy (.cons (aH (by kernel_rfl)) yI (.cons (jz (by kernel_rfl)) xC (.nil _ _ _ _ _))) (σ:=Nat) [2,4,11,12,13] (fun i=>i≤l.length) (fun i=>[.ptr 0 0,.ptr 1 0,.list (l.map rrc) .no,.int .i64 l.length,.int .i64 i]) (fun i=>[.abs (mw (aA c (l.take i))),.cells [.int .u32 0,.int .i64 0,.int .u32 0,.list [] .exact,.list [] .exact],.dead,.dead]) (fun i=>l.length-i) 0 (Nat.zero_le _) he rfl ?_
 intro i hi
 have hi:i≤l.length:=hi
 have e1:=cQ (l.take i) c
 have e2:=fS (l.take i) c
 have e3:=fC (l:=l) i
 refine Kb (aA c (l.take i)) l i _ ?_
 simp only[ay,dt,au,dF]
 by_cases h:i<l.length
 ·rw[if_pos (by omega)]
  have e4:=j7 h
  have e5:=fC (l:=l) (i+1)
  obtain⟨r,hr⟩:∃ r,r=l.getD i default:=⟨_,rfl⟩
  simp only[getD_map default h,← hr]
  rw[← hr] at e4
  refine⟨h,?_⟩
  rw[if_pos (by rfl)]
  have hrl:r.pl.length≤1000000:=hpl r (by rw[hr]; exact bj h)
  refine⟨aA c (l.take i),l,r,i,hrl,by omega,?_,rfl,r.pl,.no,rfl,hrl,cF (aA c (l.take i)) r.pl r.tm,l,r,i,?_,rfl,rfl,fun G=>?_⟩
  ·show _=_
   have c1:cL (rrc r) 1=r.pl.map u1:=rfl
   have c2:cT (rrc r) 1 = .no:=rfl
   rw[c1,c2,List.length_map]
  ·rw[pK,e1,List.length_append,List.length_take]; omega
  ·refine⟨i+1,(show l.length-(i+1)<l.length-i by omega),h,?_⟩
   have e6:sx (cF (aA c (l.take i)) r.pl r.tm) r=aA c (l.take (i+1)):=by rw[qQ h,← hr]; rfl
   rw[e6,ax h (by omega)]
   exact ed (X:=[.abs (mw (aA c (l.take (i+1)))),.cells [.int .u32 0,.int .i64 0,.int .u32 0,.list [] .exact,.list [] .exact],.dead,.dead]) (G:= .cells (rrc r)::G) wT (lidv (i+1)) (Nat.le_refl _)
 ·rw[if_neg (by omega)]
  have:i=l.length:=by omega
  subst this
  rw[List.take_length]
  exact⟨_,_,ed (X:=[.abs (mw (aA c l)),.cells [.int .u32 0,.int .i64 0,.int .u32 0,.list [] .exact,.list [] .exact],.dead,.dead]) (G:=[]) wT (lidv l.length) (Nat.le_refl _),hQ⟩
theorem Il (c:Mt) (l:List Rr):(by refine(?_:_→_→_→Prop) (Ob.cells [.int .u32 0,.int .i64 0,.int .u32 0,.list [] .exact,.list [] .exact]) (PV.list (l.map rrc) .no) [PV.ptr 0 0,.ptr 1 0]; exact fun d e f=>∀(K:PV→ae→Prop),(∃(c_1:Mt) (t1:Tail) (t2:Tail),ak [.agg [.int .u32 c.id,.int .i64 c.md,.int .u32 c.ins,.list (c.rows.map rrc) .no,.list (c.aa.map stc) .no]] [.agg [.int .u32 c_1.id,.int .i64 c_1.md,.int .u32 c_1.ins,.list (c_1.rows.map rrc) t1,.list (c_1.aa.map stc) t2]]∧Mt.Sm c_1∧∀(y:PV),by refine(?_:_→Prop) [PV.int .u32 c_1.id,.int .i64 c_1.md,.int .u32 c_1.ins,.arr 3 0 c_1.rows.length c_1.rows.length,y]; exact fun b=>∀(g:Ob),ArS 2 c_1.aa y g→br (5 == 5 && List.all b PV.one && decide (5≤5) && true) (∃(c:Mt) (l_1:List Rr) (x:PV) (y_1:PV) (g_1:Ob) (gx:Ob),l_1.length≤1000000∧c.rows.length+l_1.length≤1000000∧(∀(r:Rr),r∈l_1→r.pl.length≤1000000)∧c.aa.length+tot l_1≤1000000∧ArR 3 c.rows x gx∧ArS 2 c.aa y_1 g_1∧ak [.ptr 0 0,.ptr 1 0,e,.int .i64 (↑(List.length (l.map rrc)):Int),.int .i64 0] [.ptr 0 0,.ptr 1 0,.list (l_1.map rrc) .no,.int .i64 l_1.length,.int .i64 0]∧az [.cells b,d,g,.cells (flR c_1.rows)] [.cells [.int .u32 c.id,.int .i64 c.md,.int .u32 c.ins,x,y_1],d,g_1,gx]∧∃(c_2:Mt),ak f f∧az [.abs (mw (aA c l_1)),d,.dead,.dead] [.abs (mw c_2),d,.dead,.dead]∧∀(x y:PV),by refine(?_:_→Prop) [PV.int .u32 c_2.id,.int .i64 c_2.md,.int .u32 c_2.ins,x,y]; exact fun a=>∀(gx gy:Ob),ArR 4 c_2.rows x gx→ArS 5 c_2.aa y gy→K (.agg a) [.cells a,.cells a,.dead,.dead,gx,gy]) False)→aj Tryd.prog gl 33 [c.pv,e] [] K:Prop):=fun K h=>ah (T:=TSD) (L:=[([1,1,0,1,0],H7),([1,1,1,0],Co)]) (fun o=>match o.dst with|some 7=>1|_=>0) Tryd.func33 (by kernel_rfl) (by kernel_rfl) (by kernel_rfl) (uy) (.cons (aH (by kernel_rfl)) AB (.cons (jz (by kernel_rfl)) xk (.nil _ _ _ _ _))) (ag (by kernel_rfl) h)
theorem DV {f:FuncId} {args:List PV} {H:ae} {c:Mt} {k m:Nat} {K:PV→ae→Prop}
  (h:aj Tryd.prog gl f args H (fun z H'=>∃(x y:PV) (gx gy:Ob),ArR k c.rows x gx∧ArS m c.aa y gy∧k≠m∧z=dR c x y∧H'[k]?=some gx∧H'[m]?=some gy∧∀ H2:ae,H2.length=H'.length→H2[m]?=some gy→(∀ i b,i≠m→H2[i]?=some b→b = .dead)→K (dR c (.list (c.rows.map rrc) .no) y) H2)):aj Tryd.prog gl f args H K:=by
 refine bS (aM h fun z H' hh=>?_)
 obtain⟨x,y,gx,gy,⟨cap,J,rfl,rfl,hc,hJ⟩,hy,hne,rfl,hk,hm,hK⟩:=hh
 have hml:=(List.getElem?_eq_some_iff.1 hm).1
 have g1:((List.replicate H'.length Ob.dead).set m gy)[m]?=some gy:=by rw[List.getElem?_set_self (by simpa using hml)]
 have g2:∀ i b,i≠m→((List.replicate H'.length Ob.dead).set m gy)[i]?=some b→b = .dead:=by
  intro i b hi hb
  rw[List.getElem?_set_ne (Ne.symm hi),List.getElem?_replicate] at hb
  split at hb
  ·cases hb; rfl
  ·cases hb
 refine⟨k,0,4,[],J,c.rows.map rrc,dR c (.list (c.rows.map rrc) .no) y,(List.replicate H'.length Ob.dead).set m gy,hk,rfl,b9 fb _,⟨by simp,fun i b hb=>?_⟩,?_,hK _ (by simp) g1 g2⟩
 ·by_cases e:i=m
  ·subst e
   rw[g1] at hb; cases hb
   exact .inr (.inl ⟨Ne.symm hne,hm⟩)
  ·exact .inl (g2 i b e hb)
 ·have:=Fz.arr (o:=k) (off:=0) (es:=c.rows.map rrc) cap (by rw[List.length_map]; exact hc)
  rw[List.length_map] at this
  exact Fz.gW (.cons (.refl _) (.cons (.refl _) (.cons (.refl _) (.cons this (.cons (.refl _) .nil)))))
theorem CL (c:Mt) (l:List Rr) (h:c.Sm) (hl:c.rows.length+l.length≤1000000) (hp:∀ r∈l,r.pl.length≤1000000) (hs:c.aa.length+tot l≤1000000):aj Tryd.prog gl 33 [c.pv,.list (l.map rrc) .no] [] (fun x _=>x=(aA c l).pv):=by
 obtain⟨d,hd⟩:∃ d,d=aA c l:=⟨_,rfl⟩
 rw[← hd]
 have h1:aj Tryd.prog gl 33 [c.pv,.list (l.map rrc) .no] [] (fun z H'=>∃(y:PV) (gy:Ob),ArS 5 d.aa y gy∧z=dR d (.list (d.rows.map rrc) .no) y∧H'[5]?=some gy∧(∀ i b,i≠5→H'[i]?=some b→b = .dead)):=by
  refine DV (c:=d) (k:=4) (m:=5) (Il c l _ ⟨c,.no,.no,rfl,h,fun y g hA=>?_⟩)
  rw[ay,if_pos (by simp only[List.all_cons,hA.one]; rfl)]
  refine⟨c,l,_,y,g,_,by omega,hl,hp,hs,⟨c.rows.length,[],rfl,?_,Nat.le_refl _,(gS 0).cast (by simp)⟩,hA,?_,rfl,d,rfl,by rw[← hd]; rfl,fun x y gx gy hx hy=>⟨x,y,gx,gy,hx,hy,by decide,rfl,rfl,rfl,fun H2 _ k2 k3=>⟨y,gy,hy,rfl,k2,k3⟩⟩⟩
  ·rw[List.append_nil]
  ·show _=_; rw[List.length_map]
 by_cases e:d.aa=[]
 ·refine bA (aM h1 fun z H' hh=>?_)
  obtain⟨y,gy,hy,rfl,_⟩:=hh
  rcases hy with⟨_,rfl,rfl⟩|⟨hn,_⟩
  ·refine⟨d.pv,?_,rfl⟩
   have:=iF (c:=d) (t1:= .no) (t2:= .exact)
   rw[e] at this
   exact this
  ·exact absurd e hn
 ·refine bS (aM h1 fun z H' hh=>?_)
  obtain⟨y,gy,hy,rfl,h5,hr⟩:=hh
  rcases hy with⟨h0,_⟩|⟨_,cap,J,rfl,rfl,hc,hJ⟩
  ·exact absurd h0 e
  ·refine⟨5,0,6,[],J,d.aa.map stc,d.pv,List.replicate H'.length .dead,h5,rfl,b9 bK _,⟨by simp,fun i b hb=> .inl ?_⟩,?_,rfl⟩
   ·rw[List.getElem?_replicate] at hb
    split at hb
    ·cases hb; rfl
    ·cases hb
   ·have:=Fz.arr (o:=5) (off:=0) (es:=d.aa.map stc) cap (by rw[List.length_map]; exact hc)
    rw[List.length_map] at this
    exact Fz.gW (.cons (.refl _) (.cons (.refl _) (.cons (.refl _) (.cons (.refl _) (.cons this .nil)))))
def s3 (args:List PV) (K:PV→Prop):Prop:=∃(c:Mt) (l:List Rr) (t1 t2 t3:Tail),ak args [.agg [.int .u32 c.id,.int .i64 c.md,.int .u32 c.ins,.list (c.rows.map rrc) t1,.list (c.aa.map stc) t2],.list (l.map rrc) t3]∧c.Sm∧c.rows.length+l.length≤1000000∧(∀ r∈l,r.pl.length≤1000000)∧c.aa.length+tot l≤1000000∧K (aA c l).pv
theorem xm:aO Tryd.prog gl 33 (.pure s3):=by
 rintro args K ⟨c,l,t1,t2,t3,he,h,hl,hp,hs,hk⟩
 have he:args=_:=he
 subst he
 exact bH aq (.cons iF (.cons (.list _ _) .nil)) (bF c.low (aQ _)) (aA c l).low (CL c l h hl hp hs) hk
end Go.Proofs.YtenaelaapdhbdaaDoor
