/-
  Matches found.
-/
import Derived.Test.YtenaelaapdhbdaaSi
import Derived.Test.YtenaelaapdhbdaaSe
import Derived.Test.YtenaelaapdhbdaaProg
namespace Go.Proofs.Ytenaelaapdhbdaa
open Go Go.AM Go.Proofs
abbrev rowsM (w:List Mt):List RwM:=rowsOf Mt.id w
def inM (c:Mt) (p:Int):Bool:=c.seats.any (isP p)
def ofM (w:List Mt) (p:Int):Int:=if w.findIdx (fun c=>inM c p)<w.length then(w.getD (w.findIdx fun c=>inM c p) default).id else 0
def pairs (l:List Rr):List (Int×Int):=l.flatMap fun r=>r.pl.map fun p=>(p,r.tm)
def pairS (l:List Se):List (Int×Int):=l.map fun s=>(s.pl,s.tm)
def taken (l:List Rr) (t:Int):Nat:=((l.filter fun r=>r.tm == t).map fun r=>r.pl.length).sum
structure Mt.Ok (c:Mt):Prop where
 rt:rightS c.id=true
 sn:c.seats.Pairwise fun a b=>a.nu<b.nu
 lo:∀ s∈c.seats,0≤s.nu∧s.nu<8
 tm:∀ r∈c.rows,r.tm=1∨r.tm=2
 ne:∀ r∈c.rows,r.pl≠[]
 pm:(pairS c.seats).Perm (pairs c.rows)
 nd:(c.seats.map Se.pl).Nodup
 t1:taken c.rows 1≤4
 t2:taken c.rows 2≤4
theorem tot_taken {l:List Rr} (h:∀ r∈l,r.tm=1∨r.tm=2):tot l=taken l 1+taken l 2:=by
 induction l with
 | nil=>rfl
 | cons r l ih=>
  have ih:=ih fun a ha=>h a (by simp[ha])
  unfold tot taken at *
  rcases h r (by simp) with e|e<;>simp[e]<;>omega
theorem tot_pairs (l:List Rr):(pairs l).length=tot l:=by
 unfold pairs tot; simp[List.length_flatMap]
theorem len_tot {l:List Rr} (h:∀ r∈l,r.pl≠[]):l.length≤tot l:=by
 induction l with
 | nil=>exact Nat.le_refl _
 | cons r l ih=>
  have ih:=ih fun a ha=>h a (by simp[ha])
  have:=List.length_pos_iff.2 (h r (by simp))
  unfold tot at *
  simp only[List.map_cons,List.sum_cons,List.length_cons]; omega
theorem pl_tot {l:List Rr} {r:Rr} (h:r∈l):r.pl.length≤tot l:=by
 induction l with
 | nil=>cases h
 | cons a l ih=>
  unfold tot at *
  simp only[List.map_cons,List.sum_cons]
  rcases List.mem_cons.1 h with rfl|h
  ·omega
  ·have:=ih h; omega
theorem Mt.Ok.tot {c:Mt} (h:c.Ok):tot c.rows≤8:=by have:=tot_taken h.tm; have:=h.t1; have:=h.t2; omega
theorem Mt.Ok.seats {c:Mt} (h:c.Ok):c.seats.length=Go.Proofs.Ytenaelaapdhbdaa.tot c.rows:=by
 have:=h.pm.length_eq
 rw[tot_pairs] at this
 unfold pairS at this
 rwa [List.length_map] at this
theorem Mt.Ok.sm {c:Mt} (h:c.Ok):c.Sm:=by
 have h1:=h.tot
 refine⟨?_,?_,fun r hr=>?_⟩
 ·have:=len_tot h.ne; omega
 ·have:=h.seats; omega
 ·have:=pl_tot hr; omega
structure MO (w:List Mt) (m:Int):Prop where
 rise:Rise Mt.id w
 full:(w.length:Int)≤m
 big:m≤1000000
 cs:∀ c∈w,c.Ok
 one:∀ a∈w,∀ b∈w,∀ p,inM a p=true→inM b p=true→a=b
theorem MO.sm {w:List Mt} {m:Int} (h:MO w m) (c:Mt) (hc:c∈w):c.Sm:=(h.cs c hc).sm
theorem MO.ok {w:List Mt} {m:Int} (h:MO w m):Ok (rowsM w) m:=h.rise.ok h.full h.big
theorem MO.len {w:List Mt} {m:Int} (h:MO w m):w.length≤1000000:=by have:=h.full; have:=h.big; omega
abbrev mt0:Mt:=⟨0,0,0,[],[]⟩
theorem mt0_sm:mt0.Sm:=⟨(show(0:Nat)≤1000000 by decide),(show(0:Nat)≤1000000 by decide),fun _ h=>nomatch h⟩
abbrev gM (w:List Mt) (t:Int):Mt:=getG Mt.id w t
theorem MO.getsm {w:List Mt} {m:Int} (h:MO w m) (t:Int):(gM w t).Sm:=by
 cases c:hasG Mt.id w t with
 | true=>exact h.sm _ (getG_mem c).1
 | false=>rw[show gM w t=_ from getG_none c]; exact mt0_sm
theorem low_mtb {n:Nat} (c:Mt) (b:Bool):Low n (.tup [c.pv,.bool b]):= .tup _ (low_two c.low (.bool _))
theorem idsMw (w:List Mt):idsL (rowsM w)=(w.map Mt.id).map u1:=by simp[idsL,rowsOf,u1,Function.comp_def]
theorem ixS_any (l:List Se) (p:Int):decide (ixS l p≥0)=l.any (isP p):=by
 unfold ixS
 by_cases c:l.findIdx (isP p)<l.length
 ·rw[if_pos c,decide_eq_true (by omega)]
  exact(List.any_eq_true.2 ⟨_,List.getElem_mem c,List.findIdx_getElem (w:=c)⟩).symm
 ·rw[if_neg c,decide_eq_false (by omega)]
  symm
  rw[List.any_eq_false]
  intro x hx hp
  exact c (List.findIdx_lt_length_of_exists ⟨x,hx,hp⟩)
theorem lowH_book (R:Rep):LowH [.cells [.ptr 1 0],.abs R]:=lowH_of (by
 intro ob hob
 simp only[List.mem_cons,List.not_mem_nil,or_false] at hob
 rcases hob with rfl|rfl
 ·exact fun x hx=>low_nm hx
 ·trivial)
def TT0:Tab:=TMM [(38,.read at_s),(39,.pure ownP_s)]
theorem TT0_ok:TabOk Try.prog gl TT0:=TMM_ok (.cons at_ok (.cons ownP_ok (.nil _ _)))
theorem tids1_vc (l:List RwM) (m:Int)  (K:PV→Heap→Prop) (h:∃(q:Nat) (l_1:List RwM) (most:Int),SlIs [.ptr 1 0] [.ptr q 0]∧AbIs [.cells [.ptr 1 0],.abs (rkM l m)] q (rkM l_1 most)∧Ok l_1 most∧K (.list (idsL l_1) .no) [.cells [.ptr 1 0],.abs (rkM l m)]):ACalls Try.prog gl 10 [.ptr 0 0] [.cells [.ptr 1 0],.abs (rkM l m)] K:=
 acalls_of_wpc2 (T:=TT0) (L:=[]) (fun _=>0) Try.func10 (by kernel_rfl) (by kernel_rfl) (by kernel_rfl) (TT0_ok) (LOk.nil _ _ _ _ _) (holds_of_eq (by kernel_rfl) h)
def tids_s (args:List PV) (H:Heap) (K:PV→Prop):Prop:=∃(q r:Nat) (w:List Mt) (m:Int),SlIs args [.ptr q 0]∧BkIs H q r (rkM (rowsM w) m)∧MO w m∧K (.list ((w.map Mt.id).map u1) .no)
theorem tids_ok:SpOk Try.prog gl 10 (.read tids_s):=by
 rintro args H K ⟨q,r,w,m,he,hb,ro,hk⟩
 have he:args=_:=he
 subst he
 refine⟨_,book_read gl_low hb low_zero (low_us _) (tids1_vc (rowsM w) m _ ⟨1,rowsM w,m,rfl,rfl,ro.ok,?_⟩),hk⟩
 exact⟨by rw[idsMw],_,rfl⟩
def TT1:Tab:=(10,.read tids_s)::TT0
theorem TT1_ok:TabOk Try.prog gl TT1:= .cons tids_ok TT0_ok
theorem tof_vc (w:List Mt) (m p:Int) (i:Nat):(by refine(?_:_→_→_→_→Prop) (List.map u1 (w.map Mt.id)) (PV.int .i64 w.length) (Ob.abs (rkM (rowsM w) m)) (Ob.cells [.ptr 1 0]); exact fun f j k r=>by refine(?_:_→_→Prop) [r,k] (List.getD f (Int.toNat (i:Int)) []); exact fun g h=>by refine(?_:_→Prop) (PV.int .u32 (cI h 0)); exact fun s=>∀(R:Ex→List PV→Heap→Prop),(br (decide ((i:Int)<(w.length:Int))) (InL f 1 (i:Int)∧br (true && fitX [.int .u32] 0 h) (∃(q:Nat) (l:List RwM) (most:Int) (t:Int),by refine(?_:_→Prop) [PV.int .u32 (Mt.id (getR l t)),.int .i64 (Mt.md (getR l t)),.int .u32 (Mt.ins (getR l t)),.list (List.map rrc (Mt.rows (getR l t))) .no,.list (List.map stc (Mt.seats (getR l t))) .no]; exact fun b=>by refine(?_:_→Prop) [r,k,.cells b]; exact fun d=>SlIs [.ptr 1 0,s] [.ptr q 0,.int .u32 t]∧AbIs g q (rkM l most)∧Ok l most∧∃(c:Mt) (x:PV) (y:PV) (p_1:Int),by refine(?_:_→Prop) (∃(t:Tail),x = .list (c.rows.map rrc) t); exact fun a=>SlIs [.agg b,.int .u32 p] [.agg [.int .u32 c.id,.int .i64 c.md,.int .u32 c.ins,x,y],.int .u32 p_1]∧c.seats.length≤1000000∧((a∧∃(t:Tail),y = .list (c.seats.map stc) t)∨(a∧∃(o:Nat) (cap:Nat) (J:List PV),y = .arr o 0 c.seats.length cap∧c.seats.length≤cap∧CeIs d o (flS c.seats++J))∨(∃(o:Nat) (n:Nat) (cap:Nat),x = .arr o 0 n cap∧o<3)∧∃(o:Nat) (cap:Nat) (J:List PV),y = .arr o 0 c.seats.length cap∧c.seats.length≤cap∧CeIs d o (flS c.seats++J))∧br (decide (ixS c.seats p_1≥0)) (R .ret [.ptr 0 0,.int .u32 p,s,.list f .no,j,.int .i64 i] d) (R .normal [.ptr 0 0,.int .u32 p,.int .u32 0,.list f .no,j,.int .i64 (wI ((i:Int)+1))] d)) False) (R (.exit 0) [.ptr 0 0,.int .u32 p,.int .u32 0,.list f .no,j,.int .i64 i] g))→Holds (wpc br Try.prog gl TT1 [] (fun _=>0) (subOf [1,0,1,0] (bodyOf Try.f12)) [] (envS [0,1,4,10,11,12] [.ptr 0 0,.int .u32 p,.int .u32 0,.list ((w.map Mt.id).map u1) .no,j,.int .i64 i]) g (fun ex e H=>R ex (List.map e [0,1,4,10,11,12]) H)):Prop):=fun R h=>holds_of_eq (by kernel_rfl) h
theorem mids_at {w:List Mt} {i:Nat} (h:i<w.length):((w.map Mt.id).map u1).getD i []=u1 (w.getD i default).id:=by
 rw[List.map_map,getD_map default h]; rfl
theorem mids_in (w:List Mt) (i:Nat):InL ((w.map Mt.id).map u1) 1 (i:Int)=(i<w.length):=by rw[inL_u1,List.length_map]
def tof_l:LSp:=fun e H Q=>∃(w:List Mt) (m p:Int),MO w m∧SlIs (List.map e [0,1,4,10,11,12]) [.ptr 0 0,.int .u32 p,.int .u32 0,.list ((w.map Mt.id).map u1) .no,.int .i64 w.length,.int .i64 0]∧HpIs H [.cells [.ptr 1 0],.abs (rkM (rowsM w) m)]∧
 (w.findIdx (fun c=>inM c p)<w.length→∀ G,Q .ret (envS [0,1,4,10,11,12] [.ptr 0 0,.int .u32 p,.int .u32 (ofM w p),.list ((w.map Mt.id).map u1) .no,.int .i64 w.length,.int .i64 (w.findIdx (fun c=>inM c p))]) ([.cells [.ptr 1 0],.abs (rkM (rowsM w) m)]++G))∧
 (w.findIdx (fun c=>inM c p)=w.length→Q (.exit 0) (envS [0,1,4,10,11,12] [.ptr 0 0,.int .u32 p,.int .u32 0,.list ((w.map Mt.id).map u1) .no,.int .i64 w.length,.int .i64 w.length]) [.cells [.ptr 1 0],.abs (rkM (rowsM w) m)])
theorem tof_l_ok:∀ e H Q,tof_l e H Q→AW Try.prog gl Try.f12.ntmps (.loop (subOf [1,0,1,0] (bodyOf Try.f12))) Q e H:=by
 rintro e H Q ⟨w,m,p,ro,he,hH,hQ1,hQ2⟩
 have hfl:w.findIdx (fun c=>inM c p)≤w.length:=List.findIdx_le_length
 have hlen:=ro.len
 refine aw_loop4 (hn:=fun _=>0) gl_low TT1_ok (.nil _ _ _ _ _) (σ:=Nat) [0,1,4,10,11,12] (fun i=>i≤w.findIdx (fun c=>inM c p)) (fun i=>[.ptr 0 0,.int .u32 p,.int .u32 0,.list ((w.map Mt.id).map u1) .no,.int .i64 w.length,.int .i64 i]) (fun _=>[.cells [.ptr 1 0],.abs (rkM (rowsM w) m)]) (fun i=>w.length-i) 0 (Nat.zero_le _) he hH ?_
 intro i hi
 have hi':i≤w.findIdx (fun c=>inM c p):=hi
 refine tof_vc w m p i _ ?_
 simp only[br_if,dt,mids_in,toNat_nat]
 by_cases h:i<w.length
 ·rw[if_pos (by omega),mids_at h]
  refine⟨h,?_⟩
  rw[if_pos (by rfl)]
  obtain⟨c,hcd⟩:∃ c,c=w.getD i default:=⟨_,rfl⟩
  have hcm:c∈w:=by rw[hcd]; exact getD_mem h
  have hid:cI (u1 (w.getD i default).id) 0=c.id:=by rw[← hcd]; rfl
  rw[hid]
  have hg:getR (rowsM w) c.id=c:=by rw[rowsOf_get ro.ok]; exact getG_of ro.rise hcm
  refine⟨1,rowsM w,m,c.id,rfl,rfl,ro.ok,?_⟩
  rw[hg]
  refine⟨c,_,_,p,rfl,(ro.sm c hcm).seats,.inl ⟨⟨_,rfl⟩,_,rfl⟩,?_⟩
  have hany:(ixS c.seats p≥0)↔inM c p=true:=by rw[inM,← ixS_any,decide_eq_true_eq]
  by_cases k:ixS c.seats p≥0
  ·have hge:w.findIdx (fun c=>inM c p)=i:=fidx_stop default hi' h (by rw[← hcd]; exact hany.1 k)
   rw[if_pos k]
   have:=hQ1 (by omega)
   unfold ofM at this
   rw[hge,if_pos h,← hcd] at this
   exact this [_]
  ·have hlt:i<w.findIdx (fun c=>inM c p):=fidx_step default hi' h (by rw[← hcd]; exact Bool.eq_false_iff.2 fun e=>k (hany.2 e))
   rw[if_neg k]
   exact⟨i+1,(show w.length-(i+1)<w.length-i by omega),hlt,by rw[wI_succ h (by omega)],[_],rfl,Nat.le_refl _,.inr ⟨by
    intro v hv
    simp only[List.mem_cons,List.not_mem_nil,or_false] at hv
    rcases hv with rfl|rfl|rfl|rfl|rfl|rfl
    ·exact .ptr _ _ (by simp)
    ·exact .int _ _
    ·exact .int _ _
    ·exact low_us _
    ·exact .int _ _
    ·exact .int _ _,lowH_book _⟩⟩
 ·rw[if_neg (by omega)]
  have:i=w.length:=by omega
  subst this
  exact hQ2 (by omega)
theorem tof1_vc (w:List Mt) (m p:Int):(by refine(?_:_→Prop) (Ob.cells [.ptr 1 0]); exact fun e=>by refine(?_:_→Prop) [e,.abs (rkM (rowsM w) m)]; exact fun d=>∀(K:PV→Heap→Prop),(∃(q:Nat) (r:Nat) (w_1:List Mt) (m_1:Int),SlIs [.ptr 0 0] [.ptr q 0]∧BkIs d q r (rkM (rowsM w_1) m_1)∧MO w_1 m_1∧∃(w_2:List Mt) (m_2:Int) (p_1:Int),by refine(?_:_→_→Prop) [e,.abs (rkM (rowsM w_2) m_2)] (fun(c:Mt)=>inM c p_1); exact fun a b=>MO w_2 m_2∧SlIs [.ptr 0 0,.int .u32 p,.int .u32 0,.list (List.map u1 (w_1.map Mt.id)) .no,.int .i64 (↑(List.length (List.map u1 (w_1.map Mt.id))):Int),.int .i64 0] [.ptr 0 0,.int .u32 p_1,.int .u32 0,.list (List.map u1 (w_2.map Mt.id)) .no,.int .i64 w_2.length,.int .i64 0]∧HpIs d a∧(List.findIdx b w_2<w_2.length→∀(G:List Ob),K (.int .u32 (ofM w_2 p_1)) (a++G))∧(List.findIdx b w_2=w_2.length→K (.int .u32 0) a))→ACalls Try.prog gl 12 [.ptr 0 0,.int .u32 p] d K:Prop):=fun K h=>acalls_of_wpc2 (T:=TT1) (L:=[([1,0,1,0],tof_l)]) (fun _=>0) Try.func12 (by kernel_rfl) (by kernel_rfl) (by kernel_rfl) (TT1_ok) (.cons (sub_of (by kernel_rfl)) tof_l_ok (.nil _ _ _ _ _)) (holds_of_eq (by kernel_rfl) h)
def tof_s (args:List PV) (H:Heap) (K:PV→Prop):Prop:=∃(q r:Nat) (w:List Mt) (m p:Int),SlIs args [.ptr q 0,.int .u32 p]∧BkIs H q r (rkM (rowsM w) m)∧MO w m∧K (.int .u32 (ofM w p))
theorem tof_ok:SpOk Try.prog gl 12 (.read tof_s):=by
 rintro args H K ⟨q,r,w,m,p,he,hb,ro,hk⟩
 have he:args=_:=he
 subst he
 refine⟨_,book_read gl_low hb low0_int (.int _ _) (tof1_vc w m p _ ⟨0,1,w,m,rfl,⟨rfl,rfl⟩,ro,w,m,p,ro,(by show _=_; simp only[List.length_map]),rfl,fun h G=>?_,fun h=>?_⟩),hk⟩
 ·exact⟨rfl,_,rfl⟩
 ·refine⟨?_,[],rfl⟩
  unfold ofM
  rw[if_neg (by omega)]
theorem tma1_vc (w:List Mt) (m t:Int):∀(K:PV→Heap→Prop),(∃(q:Nat) (l:List RwM) (most:Int) (t_1:Int),by refine(?_:_→Prop) [PV.int .u32 (Mt.id (getR l t_1)),.int .i64 (Mt.md (getR l t_1)),.int .u32 (Mt.ins (getR l t_1)),.list (List.map rrc (Mt.rows (getR l t_1))) .no,.list (List.map stc (Mt.seats (getR l t_1))) .no]; exact fun b=>SlIs [.ptr 1 0,.int .u32 t] [.ptr q 0,.int .u32 t_1]∧AbIs [.cells [.ptr 1 0],.abs (rkM (rowsM w) m),.cells [.int .u32 0,.int .i64 0,.int .u32 0,.list [] .exact,.list [] .exact]] q (rkM l most)∧Ok l most∧∃(c:Mt) (t1:Tail) (t2:Tail),by refine(?_:_→Prop) [PV.int .u32 c.id,.int .i64 c.md,.int .u32 c.ins,.list (c.rows.map rrc) .no,.list (c.seats.map stc) .no]; exact fun a=>SlIs [.agg b] [.agg [.int .u32 c.id,.int .i64 c.md,.int .u32 c.ins,.list (c.rows.map rrc) t1,.list (c.seats.map stc) t2]]∧Mt.Sm c∧K (.tup [.agg a,.bool (has l t_1)]) [.cells [.ptr 1 0],.abs (rkM (rowsM w) m),.cells a,.cells b])→ACalls Try.prog gl 14 [.ptr 0 0,.int .u32 t] [.cells [.ptr 1 0],.abs (rkM (rowsM w) m)] K:=fun K h=>acalls_of_wpc2 (T:=TT0) (L:=[]) (fun o=>match o.dst with|some 21=>1|_=>0) Try.func14 (by kernel_rfl) (by kernel_rfl) (by kernel_rfl) (TT0_ok) (LOk.nil _ _ _ _ _) (holds_of_eq (by kernel_rfl) h)
end Go.Proofs.Ytenaelaapdhbdaa
