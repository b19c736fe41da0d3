/-
  What the program's and the document's functions do, over plain values, part 7.
-/
import Derived.Test.YtenaelaapdhbdaaGreatDoorB3
import Derived.Test.YtenaelaapdhbdaaGreatDoorProg
namespace Go.Proofs.YtenaelaapdhbdaaGreatDoor
open Go Go.AM Go.Proofs
namespace CI
theorem EN (l:List Int):(l.map i1).flatten.length=l.length:=by rw[bp px,Nat.mul_one]
theorem ec {n:Nat} (l:List Int):Low n (.list (l.map i1) .no):=bn gO l
theorem qZ (l:List Int):∀(K:PV→ae→Prop),(∀(b:Bool),(List.flatten (l.map i1)≠[]→b=false)→br b (K (.E) []) (aS [] (l.map i1) 1 8∧List.all (List.flatten (l.map i1)) PV.one=true∧(l.map i1=[]→K (.E) [])∧(l.map i1≠[]→K (.list ([]++l.map i1) (.tok 0)) [.tok])))→AcK 44 [.list (l.map i1) .no] [] K:=fun K h=>acW (T:=[]) (L:=[]) (fun o=>match o.dst with|some 7=>4|_=>0) Tryz.func44 (aV.nil _ _) (LOk.nil _ _ _ _ _) h
theorem v5 (H:ae)  (K:PV→ae→Prop) (h:∀(b:Bool),(([]:List PV)≠[]→b=false)→br b (K (.E) H) (aS [] [] 1 8∧K (.list [] .no) H)):AcK 44 [.list [] .no] H K:=
 acW (T:=[]) (L:=[]) (fun _=>0) Tryz.func44 (aV.nil _ _) (LOk.nil _ _ _ _ _) h
theorem wW (H:ae) (l:List Int):∀(K:PV→ae→Prop),(∀(b:Bool),(List.flatten (l.map i1)≠[]→b=false)→br b (K (.E) H) (List.length (List.flatten (l.map i1))=List.length (l.map i1)*1∧List.length (l.map i1)*8≤140737488355328∧0<List.length (l.map i1)∧∀(c:Nat),List.length (l.map i1)≤c→K (.arr H.length 0 (List.length (l.map i1)) c) (H++[.cells (List.flatten (l.map i1)++List.flatten (List.replicate (c-List.length (l.map i1)) [.I 0]))])))→AcK 44 [.list (l.map i1) .no] H K:=fun K h=>acW (T:=[]) (L:=[]) (fun o=>match o.dst with|some 7=>2|_=>0) Tryz.func44 (aV.nil _ _) (LOk.nil _ _ _ _ _) h
theorem we {l:List Int} (h:l≠[]):(l.map i1).flatten≠[]:=by
 cases l with
 | nil=>exact absurd rfl h
 | cons a l=>simp[i1]
def AH (args:List PV) (K:List (List PV)→Prop):Prop:=∃(l:List Int) (tl:Tail),ah args [.list (l.map i1) tl]∧l.length≤1000000∧K (l.map i1)
theorem z9:SpK 44 (.mk AH):=by
 rintro args K ⟨l,tl,he,hl,hk⟩
 have he:args=_:=he
 subst he
 refine⟨l.map i1,hk,IC ai (.cons (.list _ _) .nil) (bu (ec l)) (bg fun a _=>gO a) (qZ l _ ?_)⟩
 intro b hb
 rw[ar]
 cases b with
 | true=>
  rw[if_pos rfl]
  have hn:l=[]:=Classical.byContradiction fun h=>absurd (hb (we h)) (by decide)
  subst hn
  exact⟨fun _=>rfl,fun h=>absurd rfl h⟩
 | false=>
  rw[if_neg (by decide)]
  refine⟨⟨(fun _ h=>nomatch h),bZ px l,by simp; omega⟩,?_,fun h=>?_,fun h=>?_⟩
  ·exact List.all_eq_true.2 (by have:=EN l; intro y hy; obtain⟨c,h2,h3⟩:=List.mem_flatten.1 hy; obtain⟨a,_,rfl⟩:=List.mem_map.1 h2; exact ij a y h3)
  ·exact⟨fun _=>rfl,fun h2=>absurd h h2⟩
  ·exact⟨fun h2=>absurd h2 h,fun _=>⟨0,rfl,rfl⟩⟩
def HF (args:List PV) (K:PV→Prop):Prop:=∃(l:List Int) (tl:Tail),ah args [.list (l.map i1) tl]∧l.length≤1000000∧K (.list (l.map i1) .no)
theorem F4:SpK 44 (.pure HF):=by
 rintro args K ⟨l,tl,he,hl,hk⟩
 obtain⟨es,rfl,h⟩:=z9 [.list (l.map i1) .no] (fun es=>es=l.map i1) ⟨l,.no,rfl,hl,rfl⟩
 have he:args=_:=he
 subst he
 refine bw ai (.cons (.list _ _) .nil) (bu (ec l)) (ec l) (bh ((h []).mono fun x H' k=>?_)) hk
 by_cases c:l.map i1=[]
 ·obtain⟨rfl,_⟩:=k.1 c
  rw[c]; exact⟨_,.list _ _,rfl⟩
 ·obtain⟨rfl,_⟩:=k.2 c
  exact⟨_,.list _ _,rfl⟩
end CI
def B2 (args:List PV) (K:PV→Prop):Prop:=∃(a b:List Int) (r:Int),ah args [.list (a.map i1) .no,.list (b.map i1) .no,.I r]∧a.length≤1000000∧b.length≤1000000∧(let v:=Elo.upd a b r; K (.tup [.list (v.1.map i1) .no,.list (v.2.1.map i1) .no,.I v.2.2]))
theorem G8:SpK 45 (.pure B2):=by
 rintro args K ⟨a,b,r,he,ha,hb,hk⟩
 have he:args=_:=he
 subst he
 exact Elo.zu _ K ⟨a,b,rfl,rfl,by unfold Elo.ek; omega,by unfold Elo.ek; omega,NT.no,NT.no,hk⟩
def TJU:Tab:=[(41,.read xw),(42,.pure CU.mP),(43,.pure CI.mP),(44,.pure CI.HF),(45,.pure B2)]
theorem KC:TbK TJU:= .cons DA (.cons CU.oU (.cons CI.oU (.cons CI.F4 (.cons G8 (.nil _ _)))))
theorem Ky (ra:List RwI) (most:Int) (c:Mt) (r:Int):∀(R:Ex→List PV→ae→Prop),(R .normal [.ptr 0 0,.I r,.ptr 1 0,.ptr 2 0,.ptr 3 0] [.abs (rkI ra most),.cells [.U c.id,.I c.md,.U c.ins,.list (c.rows.map rrc) .no,.list (c.aa.map stc) .no],.cells [.U 0,.U 0,.I 0,.E,.E,.E],.cells [.I 0]])→Holds (wpK [] [] (fun _=>0) (b5 [0] (ag Tryz.f16)) [] (an [0,1,2] [.ptr 0 0,c.pv,.I r]) [.abs (rkI ra most)] (fun ex e H=>R ex (List.map e [0,2,4,6,7]) H)):=fun R h=>hoE h
theorem IQ (ra:List RwI) (most:Int) (c:Mt) (r:Int):(by refine(?_:_→_→_→_→_→Prop) [PV.U c.id,.I c.md,.U c.ins,.list (c.rows.map rrc) .no,.list (c.aa.map stc) .no] (Ob.cells [.U 0,.U 0,.I 0,.E,.E,.E]) (Ob.abs (rkI ra most)) [PV.ptr 2 0,.ptr 3 0] (Ob.cells [.I 0]); exact fun w x y z A=>∀(R:Ex→List PV→ae→Prop),by refine(?_:_→Prop) (R .ret z [y,.cells w,x,.cells [.I 2]]); exact fun v=>(br (decide (r<0) == false) (br (decide (r≥3)) v (∃(q:Nat) (ra_1:List RwI) (most_1:Int) (c_1:Mt) (t1:Tail) (t2:Tail) (k:Int),by refine(?_:_→Prop) (bz ra_1 c_1.aa k); exact fun u=>by refine(?_:_→Prop) (Prod.snd u); exact fun s=>by refine(?_:_→_→Prop) [Ob.abs (rkI ra most),.cells w,x,.cells [.I (Prod.snd s)]] (List.map i1 (Prod.fst s)); exact fun p t=>ah [.ptr 0 0,.agg w,.I 1] [.ptr q 0,.agg [.U c_1.id,.I c_1.md,.U c_1.ins,.list (c_1.rows.map rrc) t1,.list (c_1.aa.map stc) t2],.I k]∧bP [y,.cells w,x,A] q (rkI ra_1 most_1)∧Ok ra_1 most_1∧c_1.aa.length≤1000000∧br (Prod.snd s != 0) (R .ret z p) (∃(q:Nat) (ra_2:List RwI) (most_2:Int) (c_2:Mt) (t1:Tail) (t2:Tail) (k_1:Int),by refine(?_:_→Prop) (bz ra_2 c_2.aa k_1); exact fun n=>by refine(?_:_→Prop) (Prod.snd n); exact fun j=>by refine(?_:_→Prop) (List.map i1 (Prod.fst j)); exact fun m=>ah [.ptr 0 0,.agg w,.I 2] [.ptr q 0,.agg [.U c_2.id,.I c_2.md,.U c_2.ins,.list (c_2.rows.map rrc) t1,.list (c_2.aa.map stc) t2],.I k_1]∧bP p q (rkI ra_2 most_2)∧Ok ra_2 most_2∧c_2.aa.length≤1000000∧br (Prod.snd j != 0) (R .ret z [y,.cells w,x,.cells [.I (Prod.snd j)]]) (∃(a:List Int) (b:List Int),ah [.list [[PV.list (List.map u1 (Prod.fst u)) .no],[.list (List.map u1 (Prod.fst n)) .no]] .exact] [.list [[PV.list (a.map u1) .no],[.list (b.map u1) .no]] .exact]∧a.length+b.length≤1000000∧∃(a_1:List Int) (b_1:List Int),by refine(?_:_→Prop) (PV.list (List.map i1 (a_1++b_1)) .no); exact fun i=>ah [.list [[PV.list t .no],[.list m .no]] .exact] [.list [[PV.list (a_1.map i1) .no],[.list (b_1.map i1) .no]] .exact]∧a_1.length+b_1.length≤1000000∧∃(l:List Int) (tl:Tail),by refine(?_:_→Prop) (Ob.cells [.U c.id,.U c.ins,.I r,.list (List.map u1 (a++b)) .no,i,.list (l.map i1) .no]); exact fun h=>by refine(?_:_→Prop) (R .ret z [y,.cells w,h,A]); exact fun g=>ah [i] [.list (l.map i1) tl]∧l.length≤1000000∧br (decide ((↑(List.length t):Int)>0) == true) (br (decide ((↑(List.length m):Int)>0)) (∃(a_2:List Int) (b_2:List Int) (r_1:Int),by refine(?_:_→Prop) (Elo.upd a_2 b_2 r_1); exact fun f=>by refine(?_:_→Prop) (Prod.snd f); exact fun d=>ah [.list t .no,.list m .no,.I r] [.list (a_2.map i1) .no,.list (b_2.map i1) .no,.I r_1]∧a_2.length≤1000000∧b_2.length≤1000000∧br (Prod.snd d != 0) (R .ret z [y,.cells w,h,.cells [.I (Prod.snd d)]]) (∃(a_3:List Int) (b_3:List Int),ah [.list [[PV.list (List.map i1 (Prod.fst f)) .no],[.list (List.map i1 (Prod.fst d)) .no]] .exact] [.list [[PV.list (a_3.map i1) .no],[.list (b_3.map i1) .no]] .exact]∧a_3.length+b_3.length≤1000000∧R .ret z [y,.cells w,.cells [.U c.id,.U c.ins,.I r,.list (List.map u1 (a++b)) .no,i,.list (List.map i1 (a_3++b_3)) .no],A])) g) g)))) v)→Holds (wpK TJU [] (fun o=>match o.dst with|some 22=>1|some 81=>1|some 25=>1|some 36=>1|some 32=>201006|some 33=>301001|some 43=>201006|some 44=>301001|some 46=>101001|some 48=>101201|some _=>0|none=>match o.op with| .store _ (.tmp 6) _=>201006| .store _ (.tmp 7) _=>301001|_=>0) (b5 [1,1] (ag Tryz.f16)) [] (an [0,2,4,6,7] [.ptr 0 0,.I r,.ptr 1 0,.ptr 2 0,.ptr 3 0]) [y,.cells (mtc c),x,A] (fun ex e H=>R ex (List.map e [6,7]) H)):Prop):=fun R h=>hoE h
theorem J3 (R0 B0:Ob) (m i r e:Int) (x y z:PV)  (K:PV→ae→Prop) (h:br (e != 0) (K (.tup []) [R0,B0,.cells [.U 0,.U 0,.I 0,.E,.E,.E],.cells [.I e]]) (K (.tup []) [R0,B0,.cells [.U m,.U i,.I r,x,y,z],.cells [.I e]])):gL Tryz.prog gl 40 [.ptr 3 0,.ptr 2 0] [R0,B0,.cells [.U m,.U i,.I r,x,y,z],.cells [.I e]] K:=
 pQ (T:=[]) (L:=[]) (fun _=>0) Tryz.func40 (by kernel_rfl) (by kernel_rfl) (by kernel_rfl) (aV.nil _ _) (LOk.nil _ _ _ _ _) (hoE h)
structure Vd where
 m:Int
 i:Int
 r:Int
 ps:List Int
 old:List Int
 new:List Int
def vd0:Vd:=⟨0,0,0,[],[],[]⟩
def vdC (v:Vd):List PV:=[.U v.m,.U v.i,.I v.r,.list (v.ps.map u1) .no,.list (v.old.map i1) .no,.list (v.new.map i1) .no]
theorem kE {n:Nat} (v:Vd):∀ y∈vdC v,Low n y:=by
 intro y hy
 simp only[vdC,List.mem_cons,List.not_mem_nil,or_false] at hy
 rcases hy with rfl|rfl|rfl|rfl|rfl|rfl<;>first|exact .int _ _|exact bn bG _|exact bn gO _
def bO (ra:List RwI) (c:Mt) (r:Int):Vd×Int:=
 if r<0∨3≤r then(vd0,2) else if(bz ra c.aa 1).2.2≠0 then(vd0,(bz ra c.aa 1).2.2) else if(bz ra c.aa 2).2.2≠0 then(vd0,(bz ra c.aa 2).2.2)
 else if 0<(bz ra c.aa 1).2.1.length∧0<(bz ra c.aa 2).2.1.length then
  (if(Elo.upd (bz ra c.aa 1).2.1 (bz ra c.aa 2).2.1 r).2.2≠0 then(vd0,(Elo.upd (bz ra c.aa 1).2.1 (bz ra c.aa 2).2.1 r).2.2)
   else(⟨c.id,c.ins,r,(bz ra c.aa 1).1++(bz ra c.aa 2).1,(bz ra c.aa 1).2.1++(bz ra c.aa 2).2.1,(Elo.upd (bz ra c.aa 1).2.1 (bz ra c.aa 2).2.1 r).1++(Elo.upd (bz ra c.aa 1).2.1 (bz ra c.aa 2).2.1 r).2.1⟩,0))
 else(⟨c.id,c.ins,r,(bz ra c.aa 1).1++(bz ra c.aa 2).1,(bz ra c.aa 1).2.1++(bz ra c.aa 2).2.1,(bz ra c.aa 1).2.1++(bz ra c.aa 2).2.1⟩,0)
theorem ji (ra:List RwI) (l:List Se) (k:Int):(bz ra l k).1.length≤l.length∧(bz ra l k).2.1.length=(bz ra l k).1.length:=by
 unfold bz
 split
 ·exact⟨by rw[List.length_map]; exact List.length_filter_le _ _,by rw[List.length_map,List.length_map]⟩
 ·exact⟨Nat.zero_le _,rfl⟩
theorem CT (a b:List Int) (r:Int):(Elo.upd a b r).1.length≤4∧(Elo.upd a b r).2.1.length≤4:=by
 unfold Elo.upd
 split
 ·exact⟨Nat.zero_le _,Nat.zero_le _⟩
 ·split
  ·exact⟨Nat.zero_le _,Nat.zero_le _⟩
  ·simp only[Elo.gI]; omega
def xm (K:PV→ae→Prop):Ex→List PV→ae→Prop:=fun ex vs H3=>(ex = .normal∨ex = .ret)∧gL Tryz.prog gl 40 [.ptr 3 0,.ptr 2 0] H3 fun _ H4=>jO Tryz.prog Tryz.f16.results.toList K ex (an [6,7] vs) H4
set_option maxRecDepth 10000 in
theorem HG {K:PV→ae→Prop} {R0 B0:Ob} {m i r e:Int} {x y z:PV} (h:e≠0→K (.tup [.agg [.U 0,.U 0,.I 0,.E,.E,.E],.I e]) [R0,B0,.cells [.U 0,.U 0,.I 0,.E,.E,.E],.cells [.I e]])
  (h0:e=0→K (.tup [.agg [.U m,.U i,.I r,x,y,z],.I e]) [R0,B0,.cells [.U m,.U i,.I r,x,y,z],.cells [.I e]]):xm K .ret [.ptr 2 0,.ptr 3 0] [R0,B0,.cells [.U m,.U i,.I r,x,y,z],.cells [.I e]]:=by
 refine⟨.inr rfl,J3 R0 B0 m i r e x y z _ ?_⟩
 rw[ar]
 by_cases c:e=0
 ·rw[if_neg (by simp[c])]
  exact Eq.mpr (by kernel_rfl) (h0 c)
 ·rw[if_pos (by simp[c])]
  exact Eq.mpr (by kernel_rfl) (h c)
def rB (v:Vd×Int):PV:= .tup [.agg (vdC v.1),.I v.2]
theorem vp {n:Nat} (v:Vd×Int):Low n (rB v):= .tup _ (be (.agg _ (kE _)) (.int _ _))
def jK (ra:List RwI) (most:Int) (v:Vd×Int):PV→ae→Prop:=fun x H'=>Wk x (rB v)∧∃ G,H' = .abs (rkI ra most)::G
theorem Kx {e:Int}:Wk (.tup [.agg [.U 0,.U 0,.I 0,.E,.E,.E],.I e]) (rB (vd0,e)):= .tup (.cons (.agg (xs':=vdC vd0) (.cons (.refl _) (.cons (.refl _) (.cons (.refl _) (.cons (.list _ _) (.cons (.list _ _) (.cons (.list _ _) .nil))))))) (.cons (.refl _) .nil))
theorem Bt {ra:List RwI} {most:Int} {c:Mt} {v:Vd×Int} {m i r e:Int} {x y z:PV} (h:v=(vd0,e)) (he:e≠0):xm (jK ra most v) .ret [.ptr 2 0,.ptr 3 0] [.abs (rkI ra most),.cells (mtc c),.cells [.U m,.U i,.I r,x,y,z],.cells [.I e]]:=
 HG (fun _=>by rw[h]; exact⟨Kx,_,rfl⟩) (fun h0=>absurd h0 he)
theorem EC {ra:List RwI} {most:Int} {c:Mt} {v:Vd×Int} {w:Vd} (h:v=(w,0)):xm (jK ra most v) .ret [.ptr 2 0,.ptr 3 0] [.abs (rkI ra most),.cells (mtc c),.cells (vdC w),.cells [.I 0]]:=
 HG (fun h0=>absurd rfl h0) (fun _=>by rw[h]; exact⟨.refl _,_,rfl⟩)
theorem K9 [Dfr] {ra:List RwI} {most:Int} {c:Mt} {r:Int} (ok:Ok ra most) (hl:c.aa.length≤100000) {e:Env} (he:ah (List.map e [0,2,4,6,7]) [.ptr 0 0,.I r,.ptr 1 0,.ptr 2 0,.ptr 3 0]):AwK Tryz.f16.ntmps (b5 [1,1] (ag Tryz.f16)) (fun ex e3 H3=>(ex = .normal∨ex = .ret)∧gL Tryz.prog gl 40 [.ptr 3 0,.ptr 2 0] H3 fun _ H4=>jO Tryz.prog Tryz.f16.results.toList (jK ra most (bO ra c r)) ex e3 H4) e [.abs (rkI ra most),.cells (mtc c),.cells [.U 0,.U 0,.I 0,.E,.E,.E],.cells [.I 0]]:=by
 refine dU (T:=TJU) (slots:=[0,2,4,6,7]) (outs:=[6,7]) (hn:=fun o=>match o.dst with|some 22=>1|some 81=>1|some 25=>1|some 36=>1|some 32=>201006|some 33=>301001|some 43=>201006|some 44=>301001|some 46=>101001|some 48=>101201|some _=>0|none=>match o.op with| .store _ (.tmp 6) _=>201006| .store _ (.tmp 7) _=>301001|_=>0) KC (.nil _ _ _ _ _) he rfl (IQ ra most c r (xm (jK ra most (bO ra c r))) ?_)
 simp only[ar,List.length_map]
 by_cases c1:r<0
 ·rw[if_neg (by simpa using c1)]
  exact Bt (by unfold bO; rw[if_pos (.inl c1)]) (by decide)
 rw[if_pos (by simpa using c1)]
 by_cases c2:3≤r
 ·rw[if_pos (by simpa using c2)]
  exact Bt (by unfold bO; rw[if_pos (.inr c2)]) (by decide)
 rw[if_neg (by simpa using c2)]
 have n0:¬ (r<0∨3≤r):=by omega
 refine⟨0,ra,most,c,.no,.no,1,rfl,rfl,ok,by omega,?_⟩
 obtain⟨l1,l2⟩:=ji ra c.aa 1
 obtain⟨l3,l4⟩:=ji ra c.aa 2
 by_cases c3:(bz ra c.aa 1).2.2=0
 ·rw[if_neg (by simpa using c3)]
  refine⟨0,ra,most,c,.no,.no,2,rfl,rfl,ok,by omega,?_⟩
  by_cases c4:(bz ra c.aa 2).2.2=0
  ·rw[if_neg (by simpa using c4)]
   refine⟨_,_,rfl,by omega,_,_,rfl,by omega,_,.no,rfl,by rw[List.length_append]; omega,?_⟩
   have good:∀ w e,0<(bz ra c.aa 1).2.1.length∧0<(bz ra c.aa 2).2.1.length→_:=fun(_:Unit) (_:Unit) h=>h
   clear good
   by_cases c5:0<(bz ra c.aa 1).2.1.length
   ·rw[if_pos (by rw[decide_eq_true (by omega)]; try rfl)]
    by_cases c6:0<(bz ra c.aa 2).2.1.length
    ·rw[if_pos (by rw[decide_eq_true (by omega)]; try rfl)]
     refine⟨_,_,r,rfl,by omega,by omega,?_⟩
     obtain⟨l5,l6⟩:=CT (bz ra c.aa 1).2.1 (bz ra c.aa 2).2.1 r
     by_cases c7:(Elo.upd (bz ra c.aa 1).2.1 (bz ra c.aa 2).2.1 r).2.2=0
     ·rw[if_neg (by simpa using c7)]
      refine⟨_,_,rfl,by omega,?_⟩
      exact EC (w:=⟨c.id,c.ins,r,_,_,_⟩) (by unfold bO; rw[if_neg n0,if_neg (by simpa using c3),if_neg (by simpa using c4),if_pos ⟨c5,c6⟩,if_neg (by simpa using c7)])
     ·rw[if_pos (by simpa using c7)]
      exact Bt (by unfold bO; rw[if_neg n0,if_neg (by simpa using c3),if_neg (by simpa using c4),if_pos ⟨c5,c6⟩,if_pos c7]) c7
    ·rw[if_neg (by rw[decide_eq_false (by omega)]; decide)]
     exact EC (w:=⟨c.id,c.ins,r,_,_,_⟩) (by unfold bO; rw[if_neg n0,if_neg (by simpa using c3),if_neg (by simpa using c4),if_neg (fun h=>c6 h.2)])
   ·rw[if_neg (by rw[decide_eq_false (by omega)]; decide)]
    exact EC (w:=⟨c.id,c.ins,r,_,_,_⟩) (by unfold bO; rw[if_neg n0,if_neg (by simpa using c3),if_neg (by simpa using c4),if_neg (fun h=>c5 h.1)])
  ·rw[if_pos (by simpa using c4)]
   exact Bt (by unfold bO; rw[if_neg n0,if_neg (by simpa using c3),if_pos c4]) c4
 ·rw[if_pos (by simpa using c3)]
  exact Bt (by unfold bO; rw[if_neg n0,if_pos c3]) c3
def wS (args:List PV) (H:ae) (K:PV→Prop):Prop:=∃(q:Nat) (ra:List RwI) (most:Int) (c:Mt) (t1 t2:Tail) (r:Int),ah args [.ptr q 0,.agg [.U c.id,.I c.md,.U c.ins,.list (c.rows.map rrc) t1,.list (c.aa.map stc) t2],.I r]∧bP H q (rkI ra most)∧Ok ra most∧c.aa.length≤100000∧
 (let v:=bO ra c r; K (.tup [.agg [.U v.1.m,.U v.1.i,.I v.1.r,.list (v.1.ps.map u1) .no,.list (v.1.old.map i1) .no,.list (v.1.new.map i1) .no],.I v.2]))
theorem CS:SpK 16 (.read wS):=by
 rintro args H K ⟨q,ra,most,c,t1,t2,r,he,hA,ok,hl,hk⟩
 have he:args=_:=he
 subst he
 refine⟨rB (bO ra c r),?_,hk⟩
 refine aY (.cons (.refl _) (.cons (.agg (xs':=mtc c) (.cons (.refl _) (.cons (.refl _) (.cons (.refl _) (.cons (.list _ _) (.cons (.list _ _) .nil)))))) (.cons (.refl _) .nil))) ?_
 refine tJ ai hA (args0:=[.ptr 0 0,c.pv,.I r]) (.cons (Ren.ptr (ρ:=fun _=>q) (n:=1) 0 0 (by omega)) (.cons (.low c.low) (.cons (.low (.int _ _)) .nil))) (vp _) ?_
 refine bh (av.mono (K:=jK ra most (bO ra c r)) ?_ fun x H' ⟨h1,h2⟩=>⟨_,h1,rfl,h2⟩)
 refine mz (t:=15) 0 Tryz.func16 (by kernel_rfl) (by kernel_rfl) (by kernel_rfl) (by kernel_rfl) (by kernel_rfl) ?_
 refine dU (T:=[]) (slots:=[0,1,2]) (mA:=[.ptr 0 0,c.pv,.I r]) (outs:=[0,2,4,6,7]) (hn:=fun _=>0) (.nil _ _) (.nil _ _ _ _ _) rfl rfl (Ky ra most c r (fun ex vs H'=>ex = .normal∧opw Tryz.prog gl (Jn (ag Tryz.f16)).op 0 (ev gl (an [0,2,4,6,7] vs)) H' fun x H2=>∃ F caps,x = .fn F caps∧cG Tryz.prog F=true∧
   ∀ D:Dfr,@AW D Tryz.prog gl Tryz.f16.ntmps (b5 [1,1] (ag Tryz.f16)) (fun ex e3 H3=>(ex = .normal∨ex = .ret)∧gL Tryz.prog gl F caps H3 fun _ H4=>jO Tryz.prog Tryz.f16.results.toList (jK ra most (bO ra c r)) ex e3 H4) (upd (an [0,2,4,6,7] vs) (some 15) x) H2) ?_)
 refine⟨rfl,?_⟩
 have hmk:(Jn (ag Tryz.f16)).op = .makeFunc (.func 40) #[] #[.tmp 7,.tmp 6]:=by kernel_rfl
 rw[hmk]
 have key:∀ K':PV→ae→Prop,K' (.fn 40 [.ptr 3 0,.ptr 2 0]) [.abs (rkI ra most),.cells (mtc c),.cells [.U 0,.U 0,.I 0,.E,.E,.E],.cells [.I 0]]→opw Tryz.prog gl (.makeFunc (.func 40) #[] #[.tmp 7,.tmp 6]) 0 (ev gl (an [0,2,4,6,7] [.ptr 0 0,.I r,.ptr 1 0,.ptr 2 0,.ptr 3 0])) [.abs (rkI ra most),.cells (mtc c),.cells [.U 0,.U 0,.I 0,.E,.E,.E],.cells [.I 0]] K':=fun K' h=>⟨rfl,Eq.mpr (by kernel_rfl) h⟩
 exact key _ ⟨40,[.ptr 3 0,.ptr 2 0],rfl,by kernel_rfl,fun D=> @K9 D ra most c r ok hl _ rfl⟩
def dz (ra:List RwI) (most:Int) (xs:List (Int×Int)):List RwI:=xs.foldl (fun l x=>(cF l most x.1 x.2).1) ra
def TAP:Tab:=[(33,.read nX),(22,.heap uE)]
theorem vt:TbK TAP:= .cons nD (.cons qE (.nil _ _))
theorem Jf (ra:List RwI) (most:Int) (v:Vd) (i:Nat):(by refine(?_:_→_→_→Prop) (PV.list (v.ps.map u1) .no) (List.getD (v.ps.map u1) (Int.toNat (i:Int)) []) (PV.I v.ps.length); exact fun c d f=>by refine(?_:_→_→Prop) [Ob.abs (rkI ra most),.cells [.U v.m,.U v.i,.I v.r,c,.list (v.old.map i1) .no,.list (v.new.map i1) .no]] [PV.ptr 0 0,.ptr 1 0,.I 0,c,f,.I i]; exact fun a b=>∀(R:Ex→List PV→ae→Prop),(br (decide ((i:Int)<(v.ps.length:Int))) (InL (v.ps.map u1) 1 (i:Int)∧br (true && aE [.int .u32] 0 d) (∃(q:Nat) (l:List RwI) (most_1:Int) (t:Int),ah [.ptr 0 0,.U (cI d 0)] [.ptr q 0,.U t]∧bP a q (rkI l most_1)∧Ok l most_1∧br (!has l t) (R .ret [.ptr 0 0,.ptr 1 0,.I 12,c,f,.I i] a) (R .normal [.ptr 0 0,.ptr 1 0,.I 0,c,f,.I (wI ((i:Int)+1))] a)) False) (R (.exit 0) b a))→Holds (wpK TAP [] (fun _=>0) (aj [1,1,0,1,0] (ag Tryz.f18)) [] (an [0,3,4,19,20,21] b) [.abs (rkI ra most),.cells (vdC v)] (fun ex e H=>R ex (List.map e [0,3,4,19,20,21]) H)):Prop):=fun R h=>hoE h
theorem KK (ra:List RwI) (most:Int) (v:Vd) (i:Nat):(by refine(?_:_→_→_→_→Prop) (Int.toNat (i:Int)) (PV.list (v.ps.map u1) .no) (Ob.abs (rkI ra most)) (PV.I v.ps.length); exact fun c d f j=>by refine(?_:_→_→_→_→Prop) (Ob.cells [.U v.m,.U v.i,.I v.r,d,.list (v.old.map i1) .no,.list (v.new.map i1) .no]) [PV.ptr 0 0,.ptr 1 0,d,j,.I i] (List.getD (v.new.map i1) c []) (List.getD (v.ps.map u1) c []); exact fun a b g h=>∀(R:Ex→List PV→ae→Prop),(br (decide ((i:Int)<(v.ps.length:Int))) (InL (v.ps.map u1) 1 (i:Int)∧br (true && aE [.int .u32] 0 h) (InL (v.new.map i1) 1 (i:Int)∧br (true && aE [.int .i64] 0 g) (∃(l:List RwI) (most_1:Int) (t:Int) (v_1:Int),ah [.U (cI h 0),.I (cI g 0)] [.U t,.I v_1]∧bP [f,a] 0 (rkI l most_1)∧Ok l most_1∧R .normal [.ptr 0 0,.ptr 1 0,d,j,.I (wI ((i:Int)+1))] [.abs (rkI (Prod.fst (cF l most_1 t v_1)) most_1),a]) False) False) (R (.exit 2) b [f,a]))→Holds (wpK TAP [] (fun _=>0) (aj [1,1,1,0,1,0] (ag Tryz.f18)) [] (an [0,3,35,36,37] b) [f,.cells (vdC v)] (fun ex e H=>R ex (List.map e [0,3,35,36,37]) H)):Prop):=fun R h=>hoE h
def hasAll (ra:List RwI) (l:List Int):Bool:=l.all fun p=>has ra p
def ct (ra:List RwI) (most:Int) (v:Vd):List RwI×Int:=if v.new.length≠v.ps.length then(ra,21) else if hasAll ra v.ps=true then(dz ra most (v.ps.zip v.new),0) else(ra,12)
theorem oE {ra:List RwI} {most:Int} (ok:Ok ra most) (xs:List (Int×Int)):Ok (dz ra most xs) most:=by
 unfold dz
 induction xs generalizing ra with
 | nil=>exact ok
 | cons x xs ih=>exact ih (ok.put _ _)
theorem yx {ra:List RwI} {most:Int} (ok:Ok ra most) (v:Vd):Ok (ct ra most v).1 most:=by
 unfold ct
 split
 ·exact ok
 ·split
  ·exact oE ok _
  ·exact ok
theorem tV {ra:List RwI} {most:Int} {ps ns:List Int} {i:Nat} (h:i<ps.length) (hl:ns.length=ps.length):dz ra most ((ps.zip ns).take (i+1))=(cF (dz ra most ((ps.zip ns).take i)) most (ps.getD i 0) (ns.getD i 0)).1:=by
 have hz:i<(ps.zip ns).length:=by rw[List.length_zip]; omega
 unfold dz
 rw[aK (0,0) hz,List.foldl_append]
 rw[List.getD_eq_getElem?_getD,List.getD_eq_getElem?_getD,List.getD_eq_getElem?_getD,List.getElem?_eq_getElem hz,List.getElem?_eq_getElem h,List.getElem?_eq_getElem (by omega),List.getElem_zip]
 rfl
def HM:LSp:=fun e H Q=>∃(ra:List RwI) (most:Int) (v:Vd),Ok ra most∧v.ps.length≤1000000∧ah (List.map e [0,3,4,19,20,21]) [.ptr 0 0,.ptr 1 0,.I 0,.list (v.ps.map u1) .no,.I v.ps.length,.I 0]∧ax H [.abs (rkI ra most),.cells (vdC v)]∧(hasAll ra v.ps=true→Q (.exit 0) (an [0,3,4,19,20,21] [.ptr 0 0,.ptr 1 0,.I 0,.list (v.ps.map u1) .no,.I v.ps.length,.I v.ps.length]) [.abs (rkI ra most),.cells (vdC v)])∧(hasAll ra v.ps=false→∀ i:Nat,Q .ret (an [0,3,4,19,20,21] [.ptr 0 0,.ptr 1 0,.I 12,.list (v.ps.map u1) .no,.I v.ps.length,.I i]) [.abs (rkI ra most),.cells (vdC v)])
theorem Ax:∀ e H Q,HM e H Q→AwK Tryz.f18.ntmps (.loop (aj [1,1,0,1,0] (ag Tryz.f18))) Q e H:=by
 rintro e H Q ⟨ra,most,v,ok,hl,he,hH,hQ0,hQ1⟩
 refine aB (hn:=fun _=>0) ai vt (.nil _ _ _ _ _) (σ:=Nat) [0,3,4,19,20,21] (fun i=>i≤v.ps.length∧hasAll ra (v.ps.take i)=true) (fun i=>[.ptr 0 0,.ptr 1 0,.I 0,.list (v.ps.map u1) .no,.I v.ps.length,.I i]) (fun _=>[.abs (rkI ra most),.cells (vdC v)]) (fun i=>v.ps.length-i) 0 ⟨Nat.zero_le _,rfl⟩ he hH ?_
 rintro i ⟨hi,hall⟩
 refine Jf ra most v i _ ?_
 simp only[ar,dt,ak]
 by_cases h:i<v.ps.length
 ·rw[if_pos (by omega)]
  have inl:InL (v.ps.map u1) 1 (i:Int):=by rw[de]; exact h
  have cp:∀ z:Int,cI (u1 z) 0=z:=fun _=>rfl
  have cq:∀ z:Int,cI (i1 z) 0=z:=fun _=>rfl
  refine⟨inl,?_⟩
  simp only[getD_map 0 h,cp]
  rw[if_pos (by rfl)]
  refine⟨0,ra,most,v.ps.getD i 0,rfl,rfl,ok,?_⟩
  have hs:hasAll ra (v.ps.take (i+1))=(hasAll ra (v.ps.take i) && has ra (v.ps.getD i 0)):=by unfold hasAll; rw[aK 0 h,List.all_append]; simp
  by_cases c:has ra (v.ps.getD i 0)=true
  ·rw[if_neg (by rw[c]; decide)]
   exact⟨i+1,(show v.ps.length-(i+1)<v.ps.length-i by omega),⟨h,by rw[hs,hall,c]; rfl⟩,by rw[au h (by omega)],[],rfl,Nat.le_refl _,.inl rfl⟩
  ·rw[if_pos (by rw[eq_false_of_ne_true c]; rfl)]
   refine hQ1 ?_ i
   refine eq_false_of_ne_true fun hA=>c (List.all_eq_true.1 hA _ ?_)
   rw[List.getD_eq_getElem?_getD,List.getElem?_eq_getElem h]; exact List.getElem_mem h
 ·rw[if_neg (by omega)]
  have:i=v.ps.length:=by omega
  subst this
  rw[List.take_length] at hall
  exact hQ0 hall
def HN:LSp:=fun e H Q=>∃(ra:List RwI) (most:Int) (v:Vd),Ok ra most∧v.ps.length≤1000000∧v.new.length=v.ps.length∧ah (List.map e [0,3,35,36,37]) [.ptr 0 0,.ptr 1 0,.list (v.ps.map u1) .no,.I v.ps.length,.I 0]∧ax H [.abs (rkI ra most),.cells (vdC v)]∧Q (.exit 2) (an [0,3,35,36,37] [.ptr 0 0,.ptr 1 0,.list (v.ps.map u1) .no,.I v.ps.length,.I v.ps.length]) [.abs (rkI (dz ra most (v.ps.zip v.new)) most),.cells (vdC v)]
theorem DF:∀ e H Q,HN e H Q→AwK Tryz.f18.ntmps (.loop (aj [1,1,1,0,1,0] (ag Tryz.f18))) Q e H:=by
 rintro e H Q ⟨ra,most,v,ok,hl,hnl,he,hH,hQ⟩
 refine aB (hn:=fun _=>0) ai vt (.nil _ _ _ _ _) (σ:=Nat) [0,3,35,36,37] (fun i=>i≤v.ps.length) (fun i=>[.ptr 0 0,.ptr 1 0,.list (v.ps.map u1) .no,.I v.ps.length,.I i]) (fun i=>[.abs (rkI (dz ra most ((v.ps.zip v.new).take i)) most),.cells (vdC v)]) (fun i=>v.ps.length-i) 0 (Nat.zero_le _) he hH ?_
 intro i hi
 have hi':i≤v.ps.length:=hi
 refine KK _ most v i _ ?_
 simp only[ar,dt,ak]
 by_cases h:i<v.ps.length
 ·rw[if_pos (by omega)]
  have inl:InL (v.ps.map u1) 1 (i:Int):=by rw[de]; exact h
  have cp:∀ z:Int,cI (u1 z) 0=z:=fun _=>rfl
  have cq:∀ z:Int,cI (i1 z) 0=z:=fun _=>rfl
  refine⟨inl,?_⟩
  simp only[getD_map 0 h,cp]
  rw[if_pos (by rfl)]
  refine⟨by rw[uW]; omega,?_⟩
  simp only[getD_map 0 (show i<v.new.length by omega),cq]
  rw[if_pos (by rfl)]
  refine⟨_,most,v.ps.getD i 0,v.new.getD i 0,rfl,rfl,oE ok _,?_⟩
  rw[← tV h hnl]
  exact⟨i+1,(show v.ps.length-(i+1)<v.ps.length-i by omega),h,by rw[au h (by omega)],[],rfl,Nat.le_refl _,.inl rfl⟩
 ·rw[if_neg (by omega)]
  have:i=v.ps.length:=by omega
  subst this
  rw[List.take_of_length_le (by rw[List.length_zip]; omega)]
  exact hQ
theorem I3 (ra:List RwI) (most:Int) (v:Vd):(by refine(?_:_→_→Prop) (↑(List.length (v.ps.map u1)):Int) (PV.list (v.ps.map u1) .no); exact fun f g=>by refine(?_:_→Prop) [Ob.abs (rkI ra most),.cells [.U v.m,.U v.i,.I v.r,g,.list (v.old.map i1) .no,.list (v.new.map i1) .no]]; exact fun e=>∀(K:PV→ae→Prop),(br ((↑(List.length (v.new.map i1)):Int) != f) (K (.I 21) e) (∃(ra_1:List RwI) (most_1:Int) (v_1:Vd),by refine(?_:_→Prop) (PV.list (v_1.ps.map u1) .no); exact fun d=>by refine(?_:_→Prop) [Ob.abs (rkI ra_1 most_1),.cells [.U v_1.m,.U v_1.i,.I v_1.r,d,.list (v_1.old.map i1) .no,.list (v_1.new.map i1) .no]]; exact fun c=>Ok ra_1 most_1∧v_1.ps.length≤1000000∧ah [.ptr 0 0,.ptr 1 0,.I 0,g,.I f,.I 0] [.ptr 0 0,.ptr 1 0,.I 0,d,.I v_1.ps.length,.I 0]∧ax e c∧(hasAll ra_1 v_1.ps=true→∃(ra:List RwI) (most:Int) (v:Vd),by refine(?_:_→Prop) (PV.list (v.ps.map u1) .no); exact fun b=>by refine(?_:_→Prop) (Ob.cells [.U v.m,.U v.i,.I v.r,b,.list (v.old.map i1) .no,.list (v.new.map i1) .no]); exact fun a=>Ok ra most∧v.ps.length≤1000000∧v.new.length=v.ps.length∧ah [.ptr 0 0,.ptr 1 0,d,.I (↑(List.length (v_1.ps.map u1)):Int),.I 0] [.ptr 0 0,.ptr 1 0,b,.I v.ps.length,.I 0]∧ax c [.abs (rkI ra most),a]∧K (.I 0) [.abs (rkI (dz ra most (List.zip v.ps v.new)) most),a])∧(hasAll ra_1 v_1.ps=false→∀(_:Nat),K (.I 12) c)))→AcK 18 [.ptr 0 0,.agg (vdC v)] [.abs (rkI ra most)] K:Prop):=fun K h=>acW (T:=TAP) (L:=[([1,1,0,1,0],HM),([1,1,1,0,1,0],HN)]) (fun _=>0) Tryz.func18 (vt) (.cons suE Ax (.cons suE DF (.nil _ _ _ _ _))) h
def nF (args:List PV) (H:ae) (K:PV→ae→Prop):Prop:=match args with
 | .ptr q 0::rest=>∃(ra:List RwI) (most:Int) (v:Vd) (t1 t2 t3:Tail),ah rest [.agg [.int .u32 v.m,.int .u32 v.i,.int .i64 v.r,.list (v.ps.map u1) t1,.list (v.old.map i1) t2,.list (v.new.map i1) t3]]∧bP H q (rkI ra most)∧Ok ra most∧v.ps.length≤1000000∧K (.int .i64 (ct ra most v).2) (H.set q (.abs (rkI (ct ra most v).1 most)))
 | _=>False
theorem tE:SpK 18 (.heap nF):=by
 intro args H K h
 unfold nF at h
 split at h
 ·rename_i q rest
  obtain⟨ra,most,v,t1,t2,t3,he,hA,ok,hl,hk⟩:=h
  have he:rest=_:=he
  subst he
  refine aY (.cons (.refl _) (.cons (.agg (xs':=vdC v) (.cons (.refl _) (.cons (.refl _) (.cons (.refl _) (.cons (.list _ _) (.cons (.list _ _) (.cons (.list _ _) .nil))))))) .nil)) ?_
  refine s4 ai (R':=rkI (ct ra most v).1 most) hA (bu (.agg _ (kE v))) (.int _ _) ?_ hk
  refine I3 ra most v (fun x H'=>x = .I (ct ra most v).2∧∃ G,H' = .abs (rkI (ct ra most v).1 most)::G) ?_
  simp only[ar,List.length_map]
  by_cases c:v.new.length=v.ps.length
  ·rw[if_neg (by simp[c])]
   refine⟨ra,most,v,ok,hl,(by first|rfl|(show _=_; simp)),rfl,fun h1=>?_,fun h1 i=>?_⟩
   ·have e:ct ra most v=(dz ra most (v.ps.zip v.new),0):=by unfold ct; rw[if_neg (by simp[c]),if_pos h1]
    refine⟨ra,most,v,ok,hl,c,(by first|rfl|(show _=_; simp)),rfl,?_⟩
    rw[e]; exact⟨rfl,[_],rfl⟩
   ·have e:ct ra most v=(ra,12):=by unfold ct; rw[if_neg (by simp[c]),if_neg (by rw[h1]; decide)]
    rw[e]; exact⟨rfl,[_],rfl⟩
  ·rw[if_pos (by simp; omega)]
   have e:ct ra most v=(ra,21):=by unfold ct; rw[if_pos c]
   rw[e]; exact⟨rfl,[_],rfl⟩
 ·exact h.elim
theorem uG {c:Mt} (h:c.Ok):c.aa.length=tot c.rows:=by
 have e:=h.pm.length_eq
 unfold eP pairs at e
 rw[List.length_map,List.length_flatMap] at e
 rw[e]; unfold tot
 congr 1
 exact List.map_congr_left fun r _=>List.length_map _
theorem KT {c:Mt} (h:c.Ok):tot c.rows≤8:=by rw[mC h.tm]; have:=h.t1; have:=h.t2; omega
def DV (args:List PV) (H:ae) (K:PV→ae→Prop):Prop:=∃(w:List Mt) (m id:Int),ah args [.ptr 2 0,.U id]∧b8 H 2 1 (rkM (aq w) m)∧MO w m∧K (.tup [(gM w id).pv,.bool (bq Mt.id w id)]) (H.set 1 (.abs (rkM (aq (eO Mt.id w id)) m)))
theorem Gs:SpK 37 (.heap DV):=fun args H K ⟨w,m,id,he,hb,ro,hk⟩=>J9 args H K ⟨2,1,w,m,id,he,hb,ro,hk⟩
def TRP:Tab:=[(9,.read uI),(16,.read wS),(18,.heap nF),(37,.heap DV)]
theorem IS:TbK TRP:= .cons wZ (.cons CS (.cons tE (.cons Gs (.nil _ _))))
theorem Ks (ra:List RwI) (mb:Int) (w:List Mt) (m ins id r:Int):(by refine(?_:_→_→_→_→_→Prop) [PV.U 0,.U 0,.I 0,.E,.E,.E] [PV.U 0,.I 0,.U 0,.E,.E] (Ob.abs (rkM (aq w) m)) [PV.ptr 2 0,.U id] (Ob.abs (rkI ra mb)); exact fun j k l n o=>∀(K:PV→ae→Prop),(∃(q:Nat) (r_1:Nat) (w_1:List Mt) (m_1:Int) (t:Int),by refine(?_:_→Prop) [PV.U (Mt.id (gM w_1 t)),.I (Mt.md (gM w_1 t)),.U (Mt.ins (gM w_1 t)),.list (List.map rrc (Mt.rows (gM w_1 t))) .no,.list (List.map stc (Mt.aa (gM w_1 t))) .no]; exact fun g=>by refine(?_:_→Prop) [o,l,.cells [.ptr 1 0],.cells j,.cells k,.cells g]; exact fun h=>ah n [.ptr q 0,.U t]∧b8 [.abs (rkI ra mb),l,.cells [.ptr 1 0],.cells j,.cells k] q r_1 (rkM (aq w_1) m_1)∧MO w_1 m_1∧br (!bq Mt.id w_1 t) (K (.tup [.agg j,.agg k,.I 12]) h) (br (Mt.ins (gM w_1 t) != ins) (K (.tup [.agg j,.agg k,.I 13]) h) (∃(q:Nat) (ra_1:List RwI) (most:Int) (c:Mt) (t1:Tail) (t2:Tail) (r_2:Int),by refine(?_:_→Prop) (bO ra_1 c r_2); exact fun f=>by refine(?_:_→Prop) (Prod.fst f); exact fun e=>by refine(?_:_→Prop) [PV.U (Vd.m e),.U (Vd.i e),.I (Vd.r e),.list (List.map u1 (Vd.ps e)) .no,.list (List.map i1 (Vd.old e)) .no,.list (List.map i1 (Vd.new e)) .no]; exact fun b=>by refine(?_:_→Prop) [o,l,.cells [.ptr 1 0],.cells j,.cells k,.cells g,.cells b]; exact fun d=>ah [.ptr 0 0,.agg g,.I r] [.ptr q 0,.agg [.U c.id,.I c.md,.U c.ins,.list (c.rows.map rrc) t1,.list (c.aa.map stc) t2],.I r_2]∧bP h q (rkI ra_1 most)∧Ok ra_1 most∧c.aa.length≤100000∧br (Prod.snd f != 0) (K (.tup [.agg j,.agg k,.I (Prod.snd f)]) d) (∃(ra_2:List RwI) (most:Int) (v:Vd) (t1:Tail) (t2:Tail) (t3:Tail),by refine(?_:_→Prop) (Ob.abs (rkI (Prod.fst (ct ra_2 most v)) most)); exact fun a=>ah [.agg b] [.agg [.U v.m,.U v.i,.I v.r,.list (v.ps.map u1) t1,.list (v.old.map i1) t2,.list (v.new.map i1) t3]]∧bP d 0 (rkI ra_2 most)∧Ok ra_2 most∧v.ps.length≤1000000∧∃(w_2:List Mt) (m_2:Int) (id_1:Int),ah n [.ptr 2 0,.U id_1]∧b8 [a,l,.cells [.ptr 1 0],.cells j,.cells k,.cells g,.cells b] 2 1 (rkM (aq w_2) m_2)∧MO w_2 m_2∧K (.tup [.agg b,.agg g,.I 0]) [a,.abs (rkM (aq (eO Mt.id w_2 id_1)) m_2),.cells [.ptr 1 0],.cells b,.cells g,.cells g,.cells b]))))→AcK 10 [.ptr 0 0,.ptr 2 0,.U ins,.U id,.I r] [.abs (rkI ra mb),l,.cells [.ptr 1 0]] K:Prop):=fun K h=>acW (T:=TRP) (L:=[]) (fun o=>match o.dst with|some 37=>1|some 48=>1|some 53=>601006|some 54=>501005|some _=>0|none=>match o.op with| .store _ (.tmp 10) (.tmp 53)=>301006| .store _ (.tmp 11) (.tmp 54)=>401005|_=>0) Tryz.func10 (IS) (LOk.nil _ _ _ _ _) h
structure Rp where
 ra:List RwI
 w:List Mt
 v:Vd
 c:Mt
 e:Int
def bU (ra:List RwI) (mb:Int) (w:List Mt) (ins id r:Int):Rp:=
 if bq Mt.id w id=false then⟨ra,w,vd0,mt0,12⟩ else if(gM w id).ins≠ins then⟨ra,w,vd0,mt0,13⟩ else if(bO ra (gM w id) r).2≠0 then⟨ra,w,vd0,mt0,(bO ra (gM w id) r).2⟩
 else⟨(ct ra mb (bO ra (gM w id) r).1).1,eO Mt.id w id,(bO ra (gM w id) r).1,gM w id,0⟩
def Li (p:Rp):PV:= .tup [.agg (vdC p.v),p.c.pv,.I p.e]
theorem Aq {n:Nat} (p:Rp):Low n (Li p):= .tup _ (ef (.agg _ (kE _)) (p.c.low) (.int _ _))
theorem u7 {ra:List RwI} {c:Mt} {r:Int}:(bO ra c r).1.ps.length≤2*c.aa.length:=by
 have l1:=(ji ra c.aa 1).1
 have l2:=(ji ra c.aa 2).1
 have z:vd0.ps.length≤2*c.aa.length:=Nat.zero_le _
 unfold bO
 split
 ·exact z
 split
 ·exact z
 split
 ·exact z
 split
 ·split
  ·exact z
  ·show(_++_:List Int).length≤_; rw[List.length_append]; omega
 ·show(_++_:List Int).length≤_; rw[List.length_append]; omega
theorem q9 {e:Int}:Wk (.tup [.agg [.U 0,.U 0,.I 0,.E,.E,.E],.agg [.U 0,.I 0,.U 0,.E,.E],.I e]) (.tup [.agg (vdC vd0),mt0.pv,.I e]):=
 .tup (.cons (.agg (xs':=vdC vd0) (.cons (.refl _) (.cons (.refl _) (.cons (.refl _) (.cons (.list _ _) (.cons (.list _ _) (.cons (.list _ _) .nil))))))) (.cons (.agg (xs':=mtc mt0) (.cons (.refl _) (.cons (.refl _) (.cons (.refl _) (.cons (.list _ _) (.cons (.list _ _) .nil)))))) (.cons (.refl _) .nil)))
theorem sj {ra:List RwI} {mb:Int} {w:List Mt} {m:Int} (ok:Ok ra mb) (ro:MO w m) (ins id r:Int):AcK 10 [.ptr 0 0,.ptr 2 0,.U ins,.U id,.I r] [.abs (rkI ra mb),.abs (rkM (aq w) m),.cells [.ptr 1 0]] (fun x H'=>Wk x (Li (bU ra mb w ins id r))∧∃ G,H' = .abs (rkI (bU ra mb w ins id r).ra mb) :: .abs (rkM (aq (bU ra mb w ins id r).w) m) :: .cells [.ptr 1 0]::G):=by
 refine Ks ra mb w m ins id r _ ?_
 simp only[ar]
 refine⟨2,1,w,m,id,rfl,⟨rfl,rfl⟩,ro,?_⟩
 by_cases c1:bq Mt.id w id=true
 ·rw[if_neg (by rw[c1]; decide)]
  by_cases c2:(gM w id).ins=ins
  ·rw[if_neg (by simp[c2])]
   have hs:(gM w id).aa.length≤8:=by have h:=ro.cs _ (fH c1).1; rw[uG h]; exact KT h
   refine⟨0,ra,mb,gM w id,.no,.no,r,rfl,rfl,ok,by omega,?_⟩
   by_cases c3:(bO ra (gM w id) r).2=0
   ·rw[if_neg (by simp[c3])]
    have hl:=u7 (ra:=ra) (c:=gM w id) (r:=r)
    have e:bU ra mb w ins id r=⟨(ct ra mb (bO ra (gM w id) r).1).1,eO Mt.id w id,(bO ra (gM w id) r).1,gM w id,0⟩:=by unfold bU; rw[if_neg (by rw[c1]; decide),if_neg (by simp[c2]),if_neg (by simp[c3])]
    refine⟨ra,mb,(bO ra (gM w id) r).1,.no,.no,.no,rfl,rfl,ok,by omega,w,m,id,rfl,⟨rfl,rfl⟩,ro,?_⟩
    rw[e]
    exact⟨.refl _,_,rfl⟩
   ·rw[if_pos (by simpa using c3)]
    have e:bU ra mb w ins id r=⟨ra,w,vd0,mt0,(bO ra (gM w id) r).2⟩:=by unfold bU; rw[if_neg (by rw[c1]; decide),if_neg (by simp[c2]),if_pos c3]
    rw[e]; exact⟨q9,_,rfl⟩
  ·rw[if_pos (by simpa using c2)]
   have e:bU ra mb w ins id r=⟨ra,w,vd0,mt0,13⟩:=by unfold bU; rw[if_neg (by rw[c1]; decide),if_pos c2]
   rw[e]; exact⟨q9,_,rfl⟩
 ·rw[if_pos (by rw[eq_false_of_ne_true c1]; rfl)]
  have e:bU ra mb w ins id r=⟨ra,w,vd0,mt0,12⟩:=by unfold bU; rw[if_pos (eq_false_of_ne_true c1)]
  rw[e]; exact⟨q9,_,rfl⟩
theorem oW {ra:List RwI} {mb:Int} {w:List Mt} {m:Int} (ok:Ok ra mb) (ro:MO w m) (ins id r:Int):Ok (bU ra mb w ins id r).ra mb∧MO (bU ra mb w ins id r).w m:=by
 unfold bU
 split
 ·exact⟨ok,ro⟩
 split
 ·exact⟨ok,ro⟩
 split
 ·exact⟨ok,ro⟩
 ·exact⟨yx ok _,ro.drop _⟩
def oh (args:List PV) (H:ae) (K:PV→ae→Prop):Prop:=match args with
 | .ptr q 0 :: .ptr t 0::rest=>match Ik H t with
  | some a=>∃(ra:List RwI) (mb:Int) (w:List Mt) (m ins id r:Int),ah rest [.int .u32 ins,.int .u32 id,.int .i64 r]∧bP H q (rkI ra mb)∧b8 H t a (rkM (aq w) m)∧q≠a∧Ok ra mb∧MO w m∧
   (let p:=bU ra mb w ins id r; K (.tup [.agg [.U p.v.m,.U p.v.i,.I p.v.r,.list (p.v.ps.map u1) .no,.list (p.v.old.map i1) .no,.list (p.v.new.map i1) .no],.agg [.U p.c.id,.I p.c.md,.U p.c.ins,.list (p.c.rows.map rrc) .no,.list (p.c.aa.map stc) .no],.I p.e]) ((H.set q (.abs (rkI p.ra mb))).set a (.abs (rkM (aq p.w) m))))
  | none=>False
 | _=>False
theorem yy:SpK 10 (.heap oh):=by
 intro args H K h
 unfold oh at h
 split at h
 ·rename_i q t rest
  split at h
  ·rename_i a ha
   obtain⟨ra,mb,w,m,ins,id,r,he,hI,hB,hne,ok,ro,hk⟩:=h
   have he:rest=_:=he
   subst he
   exact oH ai hI hB hne (ef (.int _ _) (.int _ _) (.int _ _)) (Aq (bU ra mb w ins id r)) (bh ((sj ok ro ins id r).mono fun x H' ⟨h1,h2⟩=>⟨_,h1,rfl,h2⟩)) hk
  ·exact h.elim
 ·exact h.elim
theorem zg (w:List RwI) (m:Int) (t:Int) (i:Nat):(by refine(?_:_→_→_→Prop) [Ob.cells [.list (w.map csI) .no,.I m]] (List.drop 0 (List.getD (w.map csI) (Int.toNat (i:Int)) [])) [PV.U t,.ptr 0 0,.I 0,.I i]; exact fun a b c=>∀(R:Ex→List PV→ae→Prop),(br (decide ((i:Int)<(↑(List.length (w.map csI)):Int))) (InL (w.map csI) 2 (i:Int)∧br (true && aE [.int .u32] 0 b) (br (cI b 0 == t) (R .ret [.U t,.ptr 0 0,.I i,.I i] a) (R .normal [.U t,.ptr 0 0,.I 0,.I (wI ((i:Int)+1))] a)) False) (R (.exit 0) c a))→Holds (wpK [] [] (fun _=>0) (aj [1,0,1,0] (ag Tryz.f54)) [] (an [1,2,4,5] c) a (fun ex e H=>R ex (List.map e [1,2,4,5]) H)):Prop):=fun R h=>hoE h
theorem xT (w:List RwI) (m:Int) (t:Int) (i:Nat):(by refine(?_:_→_→_→_→_→Prop) (List.getD (w.map csI) (Int.toNat (i:Int)) []) [PV.U t,.ptr 0 0,.ptr 1 0,.ptr 2 0,.I (wI ((i:Int)+1))] [PV.U t,.ptr 0 0,.ptr 1 0,.ptr 2 0,.I i] (Ob.cells [.E,.I 0]) [PV.list (w.map csI) .no,.I m]; exact fun a d f g h=>by refine(?_:_→_→Prop) [Ob.cells h,g,.cells [.E,.I m]] (PV.I (cI a 1)); exact fun b j=>by refine(?_:_→Prop) [[PV.U (cI a 0),j]]; exact fun c=>∀(R:Ex→List PV→ae→Prop),(br (decide ((i:Int)<(↑(List.length (w.map csI)):Int))) (InL (w.map csI) 2 (i:Int)∧br (true && aE [.int .u32] 0 (List.drop 0 a)) (br (cI (List.drop 0 a) 0 != t) (InL (w.map csI) 2 (i:Int)∧br (true && aE [.int .u32,.int .i64] 0 a) (aS [] c 2 16∧(List.all [.U (cI a 0),j] PV.one=true∧c≠[])∧R .normal d [.cells h,g,.cells [.list c (.tok 3),.I m],.tok]) False) (R .normal d b)) False) (R (.exit 0) f b))→Holds (wpK [] [] (fun o=>match o.op with| .load t _=>(match t with|31=>1|_=>0)|_=>match o.dst with|some 33=>1|_=>0) (aj [1,1,0,1,0] (ag Tryz.f55)) [] (an [1,2,4,5,6] f) b (fun ex e H=>R ex (List.map e [1,2,4,5,6]) H)):Prop):=fun R h=>hoE h
theorem ya (w:List RwI) (m:Int) (t:Int) (es:List (List PV)) (i:Nat):(by refine(?_:_→_→_→_→_→Prop) (List.getD (w.map csI) (Int.toNat (i:Int)) []) [PV.U t,.ptr 0 0,.ptr 1 0,.ptr 2 0,.I (wI ((i:Int)+1))] [PV.U t,.ptr 0 0,.ptr 1 0,.ptr 2 0,.I i] (Ob.cells [.E,.I 0]) [PV.list (w.map csI) .no,.I m]; exact fun a d f g h=>by refine(?_:_→_→Prop) [Ob.cells h,g,.cells [.list es (.tok 3),.I m],.tok] (PV.I (cI a 1)); exact fun b j=>by refine(?_:_→Prop) [[PV.U (cI a 0),j]]; exact fun c=>∀(R:Ex→List PV→ae→Prop),(br (decide ((i:Int)<(↑(List.length (w.map csI)):Int))) (InL (w.map csI) 2 (i:Int)∧br (true && aE [.int .u32] 0 (List.drop 0 a)) (br (cI (List.drop 0 a) 0 != t) (InL (w.map csI) 2 (i:Int)∧br (true && aE [.int .u32,.int .i64] 0 a) (aS es c 2 16∧(List.all [.U (cI a 0),j] PV.one=true∧c≠[])∧R .normal d [.cells h,g,.cells [.list (es++c) (.tok 4),.I m],.dead,.tok]) False) (R .normal d b)) False) (R (.exit 0) f b))→Holds (wpK [] [] (fun o=>match o.op with| .load t _=>(match t with|31=>1|_=>0)|_=>match o.dst with|some 33=>1|_=>0) (aj [1,1,0,1,0] (ag Tryz.f55)) [] (an [1,2,4,5,6] f) b (fun ex e H=>R ex (List.map e [1,2,4,5,6]) H)):Prop):=fun R h=>hoE h
theorem iK (w:List RwI) (i:Nat):InL (w.map csI) 2 (i:Int)=(i<w.length):=dH eJ (by decide) w i
theorem ol {n:Nat} (w:List RwI):∀ x∈(w.map csI).flatten,Low n x:=bg fun a _=>lj a
theorem ta (w:List RwI):uni 2 (w.map csI):=by
 intro e he
 obtain⟨a,_,rfl⟩:=List.mem_map.1 he
 rfl
theorem gp {n:Nat} (w:List RwI) (m:Int):∀ x∈[PV.list (w.map csI) .no,.I m],Low n x:=by
 intro x hx
 simp only[List.mem_cons,List.not_mem_nil,or_false] at hx
 rcases hx with rfl|rfl
 ·exact aF NT.no (ol w)
 ·exact .int _ _
theorem da (w:List RwI) (m:Int):Low 0 (.agg [.list (w.map csI) .no,.I m]):= .agg _ (gp w m)
theorem tS (w:List RwI) (t:Int):fiW w t≤w.length:=List.findIdx_le_length
def tf:LSp:=fun e H Q=>∃(w:List RwI) (m t:Int),w.length≤1000000∧ah (List.map e [1,2,4,5]) [.U t,.ptr 0 0,.I 0,.I 0]∧ax H [.cells [.list (w.map csI) .no,.I m]]∧
 (fiW w t<w.length→Q .ret (an [1,2,4,5] [.U t,.ptr 0 0,.I (fiW w t),.I (fiW w t)]) [.cells [.list (w.map csI) .no,.I m]])∧
 (fiW w t=w.length→Q (.exit 0) (an [1,2,4,5] [.U t,.ptr 0 0,.I 0,.I w.length]) [.cells [.list (w.map csI) .no,.I m]])
theorem sE:∀ e H Q,tf e H Q→AwK Tryz.f54.ntmps (.loop (aj [1,0,1,0] (ag Tryz.f54))) Q e H:=by
 rintro e H Q ⟨w,m,t,hl,he,hH,hr,hx⟩
 have hle:=tS w t
 refine aB (hn:=fun _=>0) ai (.nil _ _) (.nil _ _ _ _ _) (σ:=Nat) [1,2,4,5] (fun i=>i≤fiW w t)
  (fun i=>[.U t,.ptr 0 0,.I 0,.I i]) (fun _=>[.cells [.list (w.map csI) .no,.I m]]) (fun i=>w.length-i) 0 (Nat.zero_le _) he hH ?_
 intro i hi
 refine zg w m t i _ ?_
 simp only[ar,dt,List.length_map]
 by_cases h:i<w.length
 ·rw[if_pos (by omega),iK,ak,getD_map default h]
  refine⟨h,?_⟩
  rw[if_pos (by rfl),List.drop_zero]
  have hc:cI (csI (w.getD i default)) 0=(w.getD i default).id:=rfl
  rw[hc]
  by_cases c:((w.getD i default).id == t)=true
  ·rw[if_pos c]
   have hge:fiW w t=i:=dJ default hi h c
   rw[hge] at hr
   exact hr h
  ·rw[if_neg c]
   have hlt:i<fiW w t:=dG default hi h (by simpa using c)
   exact⟨i+1,(show w.length-(i+1)<w.length-i by omega),hlt,by rw[au h (by omega)],[],rfl,Nat.le_refl _,.inl rfl⟩
 ·rw[if_neg (by omega)]
  have hi':i≤fiW w t:=hi
  have:i=w.length:=by omega
  subst this
  exact hx (by omega)
theorem uu (w:List RwI) (m:Int) (t:Int):∀(K:PV→Prop),(∃(w_1:List RwI) (m_1:Int) (t_1:Int),w_1.length≤1000000∧ah [.U t,.ptr 0 0,.I 0,.I 0] [.U t_1,.ptr 0 0,.I 0,.I 0]∧ax [.cells [.list (w.map csI) .no,.I m]] [.cells [.list (w_1.map csI) .no,.I m_1]]∧(fiW w_1 t_1<w_1.length→K (.I (↑(fiW w_1 t_1):Int)))∧(fiW w_1 t_1=w_1.length→K (.I (-1))))→AcK 54 [.agg [.list (w.map csI) .no,.I m],.U t] [] (fun x _=>K x):=fun K h=>acW (T:=[]) (L:=[([1,0,1,0],tf)]) (fun _=>0) Tryz.func54 (aV.nil _ _) (.cons suE sE (.nil _ _ _ _ _)) h
def si (args:List PV) (K:PV→Prop):Prop:=∃(w:List RwI) (m t:Int),ah args [.agg [.list (w.map csI) .no,.I m],.U t]∧w.length≤1000000∧K (.I (hM w t))
theorem yu:SpK 54 (.pure si):=by
 rintro args K ⟨w,m,t,he,hl,hk⟩
 have he:args=_:=he
 subst he
 have hle:=tS w t
 refine b9 ai (by intro x hx; simp only[List.mem_cons,List.not_mem_nil,or_false] at hx; rcases hx with rfl|rfl; exact da w m; exact .int _ _) (.int _ _) (uu w m t (fun x=>x = .I (hM w t)) ⟨w,m,t,hl,rfl,rfl,fun h=>?_,fun h=>?_⟩) hk
 ·unfold hM; rw[if_pos h]
 ·unfold hM; rw[if_neg (by omega)]
def s6 (w:List RwI) (m:Int) (acc:List RwI):ae:=match acc with
 | []=>[.cells [.list (w.map csI) .no,.int .i64 m],.cells [.list [] .exact,.int .i64 0],.cells [.list [] .exact,.int .i64 m]]
 | a::acc=>[.cells [.list (w.map csI) .no,.int .i64 m],.cells [.list [] .exact,.int .i64 0],.cells [.list ((a::acc).map csI) (.tok 3),.int .i64 m],.tok]
def xf:LSp:=fun e H Q=>∃(w:List RwI) (m t:Int),w.length≤1000000∧ah (List.map e [1,2,4,5,6]) [.U t,.ptr 0 0,.ptr 1 0,.ptr 2 0,.I 0]∧ax H [.cells [.list (w.map csI) .no,.I m],.cells [.E,.I 0],.cells [.E,.I m]]∧
 (bE w t=[]→Q (.exit 0) (an [1,2,4,5,6] [.U t,.ptr 0 0,.ptr 1 0,.ptr 2 0,.I w.length]) [.cells [.list (w.map csI) .no,.I m],.cells [.E,.I 0],.cells [.E,.I m]])∧
 (bE w t≠[]→Q (.exit 0) (an [1,2,4,5,6] [.U t,.ptr 0 0,.ptr 1 0,.ptr 2 0,.I w.length]) [.cells [.list (w.map csI) .no,.I m],.cells [.E,.I 0],.cells [.list ((bE w t).map csI) (.tok 3),.I m],.tok])
theorem l9 {n:Nat} (m:Int):∀ x∈[PV.E,.I m],Low n x:=by
 intro x hx
 simp only[List.mem_cons,List.not_mem_nil,or_false] at hx
 rcases hx with rfl|rfl
 ·exact aF NT.exact (fun _ h=>nomatch h)
 ·exact .int _ _
theorem y4 {ρ:Nat→Nat} {n:Nat} {es:List RwI} {m:Int} {k:Nat} (h3:ρ 3=k) (hn:3<n):dg ρ n (.cells [.list (es.map csI) (.tok 3),.I m]) (.cells [.list (es.map csI) (.tok k),.I m]):=by
 subst h3
 exact .cells (.cons (.ltok _ 3 hn (ol es)) (aT.low cK))
theorem tI {ρ:Nat→Nat} {n:Nat} {t i:Int} (h0:ρ 0=0) (h1:ρ 1=1) (h2:ρ 2=2) (hn:2<n):aT ρ n [.U t,.ptr 0 0,.ptr 1 0,.ptr 2 0,.I i] [.U t,.ptr 0 0,.ptr 1 0,.ptr 2 0,.I i]:=by
 have a0:=Ren.ptr (ρ:=ρ) (n:=n) 0 0 (by omega)
 have a1:=Ren.ptr (ρ:=ρ) (n:=n) 1 0 (by omega)
 have a2:=Ren.ptr (ρ:=ρ) (n:=n) 2 0 (by omega)
 rw[h0] at a0
 rw[h1] at a1
 rw[h2] at a2
 exact .cons (.low (.int _ _)) (.cons a0 (.cons a1 (.cons a2 (.cons (.low (.int _ _)) .nil))))
theorem xG (w:List RwI) (m t i:Int):dV 3 [.U t,.ptr 0 0,.ptr 1 0,.ptr 2 0,.I i] [.cells [.list (w.map csI) .no,.I m],.cells [.E,.I 0],.cells [.E,.I m]] [.U t,.ptr 0 0,.ptr 1 0,.ptr 2 0,.I i] [.cells [.list (w.map csI) .no,.I m],.cells [.E,.I 0],.cells [.E,.I m]]:=
 aO [0,1,2] (.refl _) (.cons rfl (kP (gp w m)) (.cons rfl (kP (l9 _)) (.cons rfl (kP (l9 _)) .nil))) (by decide) (Nat.le_refl _) (by decide) (tI rfl rfl rfl (by simp))
theorem nw (w es:List RwI) (m t i:Int) (k:Nat) (hk:3≤k) {er:List (List PV)} (hee:er=es.map csI) {X:ae} (hX:([.cells [.list (w.map csI) .no,.I m],.cells [.E,.I 0],.cells [.list er (.tok k),.I m]]++X:ae)[k]?=some .tok):
  dV 3 [.U t,.ptr 0 0,.ptr 1 0,.ptr 2 0,.I i] ([.cells [.list (w.map csI) .no,.I m],.cells [.E,.I 0],.cells [.list er (.tok k),.I m]]++X) [.U t,.ptr 0 0,.ptr 1 0,.ptr 2 0,.I i] [.cells [.list (w.map csI) .no,.I m],.cells [.E,.I 0],.cells [.list (es.map csI) (.tok 3),.I m],.tok]:=by
 subst hee
 exact aO [0,1,2,k] (.refl _) (.cons rfl (kP (gp w m)) (.cons rfl (kP (l9 _)) (.cons rfl (y4 rfl (by simp)) (.cons hX .tok .nil)))) (by simp; omega) (by simp) (by intro o ho; rcases (show o=0∨o=1∨o=2 by omega) with rfl|rfl|rfl<;>rfl) (tI rfl rfl rfl (by simp))
theorem vg:∀ e H Q,xf e H Q→AwK Tryz.f55.ntmps (.loop (aj [1,1,0,1,0] (ag Tryz.f55))) Q e H:=by
 rintro e H Q ⟨w,m,t,hl,he,hH,hx0,hx1⟩
 have hH2:H=_:=hH
 subst hH2
 refine fc (hn:=fun o=>match o.op with| .load t _=>(match t with|31=>1|_=>0)|_=>match o.dst with|some 33=>1|_=>0) ai (.nil _ _) (.nil _ _ _ _ _) (σ:=Nat) [1,2,4,5,6] (fun i=>i≤w.length)
  (fun i=>[.U t,.ptr 0 0,.ptr 1 0,.ptr 2 0,.I i]) (fun i=>s6 w m (bE (w.take i) t)) (fun i=>w.length-i) 0 (Nat.zero_le _) he rfl ?_
 intro i hi
 have hi':i≤w.length:=hi
 have hstep:∀ h:i<w.length,bE (w.take (i+1)) t=if((w.getD i default).id != t)=true then bE (w.take i) t++[w.getD i default] else bE (w.take i) t:=by
  intro h
  unfold bE
  rw[aK default h,List.filter_append,List.filter_cons]
  split<;>simp
 have hc:cI (csI (w.getD i default)) 0=(w.getD i default).id:=rfl
 have hlen:(bE (w.take i) t).length≤1000000:=Nat.le_trans (List.length_filter_le _ _) (by rw[List.length_take]; omega)
 cases hacc:bE (w.take i) t with
 | nil=>
  rw[hacc] at hstep
  refine xT w m t i _ ?_
  simp only[ar,dt,List.length_map]
  by_cases h:i<w.length
  ·rw[if_pos (by omega),iK,ak,getD_map default h]
   refine⟨h,?_⟩
   rw[if_pos (by rfl),List.drop_zero,hc]
   have hs:=hstep h
   by_cases c:((w.getD i default).id != t)=true
   ·rw[if_pos c] at hs
    rw[if_pos c]
    refine⟨h,?_⟩
    rw[if_pos (by rfl)]
    refine⟨⟨(by intro e he; simp at he),(by intro e he; simp at he; subst he; rfl),by simp⟩,⟨by rfl,by simp⟩,i+1,(show w.length-(i+1)<w.length-i by omega),h,?_⟩
    show dV 3 _ _ [PV.U t,.ptr 0 0,.ptr 1 0,.ptr 2 0,.I ((i+1:Nat):Int)] (s6 w m (bE (w.take (i+1)) t))
    rw[hs,au h (by omega)]
    exact nw w [w.getD i default] m t _ 3 (Nat.le_refl _) rfl (X:=[.tok]) rfl
   ·rw[if_neg c] at hs
    rw[if_neg c]
    refine⟨i+1,(show w.length-(i+1)<w.length-i by omega),h,?_⟩
    show dV 3 _ _ [PV.U t,.ptr 0 0,.ptr 1 0,.ptr 2 0,.I ((i+1:Nat):Int)] (s6 w m (bE (w.take (i+1)) t))
    rw[hs,au h (by omega)]
    exact xG w m t _
  ·rw[if_neg (by omega)]
   have:i=w.length:=by omega
   subst this
   rw[List.take_length] at hacc
   exact⟨_,_,xG w m t _,hx0 hacc⟩
 | cons a acc=>
  rw[hacc] at hstep hlen
  refine ya w m t ((a::acc).map csI) i _ ?_
  simp only[ar,dt,List.length_map]
  by_cases h:i<w.length
  ·rw[if_pos (by omega),iK,ak,getD_map default h]
   refine⟨h,?_⟩
   rw[if_pos (by rfl),List.drop_zero,hc]
   have hs:=hstep h
   by_cases c:((w.getD i default).id != t)=true
   ·rw[if_pos c] at hs
    rw[if_pos c]
    refine⟨h,?_⟩
    rw[if_pos (by rfl)]
    refine⟨⟨ta _,(by intro e he; simp at he; subst he; rfl),by rw[List.length_map,List.length_singleton]; omega⟩,⟨by rfl,by simp⟩,i+1,(show w.length-(i+1)<w.length-i by omega),h,?_⟩
    show dV 3 _ _ [PV.U t,.ptr 0 0,.ptr 1 0,.ptr 2 0,.I ((i+1:Nat):Int)] (s6 w m (bE (w.take (i+1)) t))
    rw[hs,au h (by omega)]
    exact nw w (a::acc++[w.getD i default]) m t _ 4 (by decide) (by rw[List.map_append]; rfl) (X:=[.dead,.tok]) rfl
   ·rw[if_neg c] at hs
    rw[if_neg c]
    refine⟨i+1,(show w.length-(i+1)<w.length-i by omega),h,?_⟩
    show dV 3 _ _ [PV.U t,.ptr 0 0,.ptr 1 0,.ptr 2 0,.I ((i+1:Nat):Int)] (s6 w m (bE (w.take (i+1)) t))
    rw[hs,au h (by omega)]
    exact nw w (a::acc) m t _ 3 (Nat.le_refl _) rfl (X:=[.tok]) rfl
  ·rw[if_neg (by omega)]
   have:i=w.length:=by omega
   subst this
   rw[List.take_length] at hacc
   rw[hacc] at hx1
   exact⟨_,_,nw w (a::acc) m t _ 3 (Nat.le_refl _) rfl (X:=[.tok]) rfl,hx1 (List.cons_ne_nil _ _)⟩
theorem sP (w:List RwI) (m:Int) (t:Int):∀(K:PV→ae→Prop),(∃(w_1:List RwI) (m_1:Int) (t_1:Int),by refine(?_:_→_→_→Prop) [PV.list (List.map csI (bE w_1 t_1)) (.tok 3),.I m_1] [PV.E,.I m_1] (Ob.cells [.list (w_1.map csI) .no,.I m_1]); exact fun a b c=>w_1.length≤1000000∧ah [.U t,.ptr 0 0,.ptr 1 0,.ptr 2 0,.I 0] [.U t_1,.ptr 0 0,.ptr 1 0,.ptr 2 0,.I 0]∧ax [.cells [.list (w.map csI) .no,.I m],.cells [.E,.I 0],.cells [.E,.I m]] [c,.cells [.E,.I 0],.cells b]∧(bE w_1 t_1=[]→K (.agg b) [c,.cells b,.cells b])∧(bE w_1 t_1≠[]→K (.agg a) [c,.cells a,.cells a,.tok]))→AcK 55 [.agg [.list (w.map csI) .no,.I m],.U t] [] K:=fun K h=>acW (T:=[]) (L:=[([1,1,0,1,0],xf)]) (fun o=>match o.op with| .load t _=>(match t with|31=>1|_=>0)|_=>match o.dst with|some 33=>1|_=>0) Tryz.func55 (aV.nil _ _) (.cons suE vg (.nil _ _ _ _ _)) h
theorem mT (w:List RwI) (m t:Int):∀ x∈[PV.agg [.list (w.map csI) .no,.I m],.U t],Low 0 x:=by
 intro x hx
 simp only[List.mem_cons,List.not_mem_nil,or_false] at hx
 rcases hx with rfl|rfl
 ·exact da w m
 ·exact .int _ _
theorem DS {x y:PV} {xs:List PV} (h:Wk x y):Wk (.agg (x::xs)) (.agg (y::xs)):= .agg (.cons h (.refl _))
def pX (args:List PV) (H:ae) (K:PV→ae→Prop):Prop:=∃(w:List RwI) (m t:Int),ah args [.agg [.list (w.map csI) .no,.I m],.U t]∧w.length≤1000000∧
 (bE w t=[]→K (.agg [.E,.I m]) H)∧(bE w t≠[]→K (.agg [.list ((bE w t).map csI) (.tok H.length),.I m]) (H++[.tok]))
theorem uJ:SpK 55 (.heap pX):=by
 rintro args H K ⟨w,m,t,he,hl,hk0,hk1⟩
 have he:args=_:=he
 subst he
 refine aJ (I2 ai (es:=(bE w t).map csI) (rest:=[.I m]) (.refl _) (mT w m t) (ol _) cK ?_ H) ?_
 ·refine sP w m t _ ⟨w,m,t,hl,rfl,rfl,fun h=>⟨fun _=>rfl,fun k=>absurd (by rw[h]; rfl) k⟩,fun h=>⟨fun k=>absurd (List.map_eq_nil_iff.1 k) h,fun _=>⟨3,rfl,rfl⟩⟩⟩
 ·rintro x H' ⟨h0,h1⟩
  by_cases c:bE w t=[]
  ·obtain⟨rfl,rfl⟩:=h0 (by rw[c]; rfl)
   exact hk0 c
  ·obtain⟨rfl,rfl⟩:=h1 (fun k=>c (List.map_eq_nil_iff.1 k))
   exact hk1 c
def Kn:Tab:=[(54,.pure si),(53,.pure xM),(55,.heap pX)]
theorem w9:TbK Kn:= .cons yu (.cons vj (.cons uJ (.nil _ _)))
theorem tW (w:List RwI) (m:Int) (t v:Int):(by refine(?_:_→_→Prop) (PV.agg [.list (w.map csI) .no,.I m]) [PV.U t,.I v]; exact fun b e=>by refine(?_:_→_→Prop) [e] e; exact fun c d=>∀(K:PV→Prop),by refine(?_:_→Prop) (∃(w_2:List RwI) (m_2:Int) (t_3:Int),ah [b,.U t] [.agg [.list (w_2.map csI) .no,.I m_2],.U t_3]∧w_2.length≤1000000∧(bE w_2 t_3=[]→aS [] c 2 16∧(List.all d PV.one=true∧c≠[])∧K (.tup [.agg [.list c (.tok 3),.I m_2],.I 0]))∧(bE w_2 t_3≠[]→aS (List.map csI (bE w_2 t_3)) c 2 16∧(List.all d PV.one=true∧c≠[])∧K (.tup [.agg [.list (List.map csI (bE w_2 t_3)++c) (.tok 4),.I m_2],.I 0]))); exact fun a=>(∃(t_1:Int),0≤t_1∧ah [.U t] [.U t_1]∧br (!aC t_1) (K (.tup [b,.I 14])) (∃(w_1:List RwI) (m_1:Int) (t_2:Int),ah [b,.U t] [.agg [.list (w_1.map csI) .no,.I m_1],.U t_2]∧w_1.length≤1000000∧br (decide (hM w_1 t_2<0) == true) (br (decide ((↑(List.length (w.map csI)):Int)≥m)) (K (.tup [b,.I 10])) a) a))→AcK 23 [b,.U t,.I v] [] (fun x _=>K x):Prop):=fun K h=>acW (T:=Kn) (L:=[]) (fun o=>match o.op with| .load t _=>(match t with|31=>1|_=>0)|_=>match o.dst with|some 35=>1|_=>0) Tryz.func23 (w9) (LOk.nil _ _ _ _ _) h
theorem mN (w:List RwI) (t:Int):decide (hM w t<0) = !eC w t:=by
 unfold hM eC
 by_cases c:fiW w t<w.length
 ·rw[if_pos c,decide_eq_true c,decide_eq_false (by omega)]; rfl
 ·rw[if_neg c,decide_eq_false c]; rfl
theorem tZ (w:List RwI) (m n:Int):Low 0 (.tup [.agg [.list (w.map csI) .no,.I m],.I n]):= .tup _ (by
 intro y hy
 simp only[List.mem_cons,List.not_mem_nil,or_false] at hy
 rcases hy with rfl|rfl
 ·exact da w m
 ·exact .int _ _)
def pe (args:List PV) (K:PV→Prop):Prop:=∃(w:List RwI) (m t v:Int),ah args [.agg [.list (w.map csI) .no,.I m],.U t,.I v]∧w.length≤1000000∧0≤t∧K (.tup [.agg [.list ((ic w m t v).1.map csI) .no,.I m],.I (ic w m t v).2])
theorem sU {rows:List (List PV)} {tl:Tail} {m n:Int}:Wk (.tup [.agg [.list rows tl,.I m],.I n]) (.tup [.agg [.list rows .no,.I m],.I n]):= .tup (.cons (DS (.list _ _)) (.refl _))
theorem nc (w:List RwI) (t:Int):(bE w t).length≤w.length:=List.length_filter_le _ _
theorem rz (w:List RwI) (m t v:Int):∀ x∈[PV.agg [.list (w.map csI) .no,.I m],.U t,.I v],Low 0 x:=by
 intro x hx
 simp only[List.mem_cons,List.not_mem_nil,or_false] at hx
 rcases hx with rfl|rfl|rfl
 ·exact da w m
 ·exact .int _ _
 ·exact .int _ _
theorem pT:SpK 23 (.pure pe):=by
 rintro args K ⟨w,m,t,v,he,hl,h0,hk⟩
 have he:args=_:=he
 subst he
 refine b9 ai (rz w m t v) (tZ _ _ _) (gS (aJ (tW w m t v (fun x=>Wk x (.tup [.agg [.list ((ic w m t v).1.map csI) .no,.I m],.I (ic w m t v).2])) ⟨t,h0,rfl,?_⟩) fun x H' h=>⟨_,H',h,.refl _,rfl⟩)) hk
 unfold ic
 rw[ar]
 by_cases c:aC t=true
 ·rw[if_neg (by simp[c]),if_pos c]
  refine⟨w,m,t,rfl,hl,?_⟩
  simp only[ar,bt,mN,List.length_map]
  have fin:∀ rs:List RwI×Int,rs=(bE w t++[⟨t,v⟩],0)→∃(w_2:List RwI),∃(m_2:Int),∃(t_3:Int),ah [PV.agg [PV.list (List.map csI w) Tail.no,PV.int IntKind.i64 m],PV.int IntKind.u32 t] [PV.agg [PV.list (List.map csI w_2) Tail.no,PV.int IntKind.i64 m_2],PV.int IntKind.u32 t_3]∧List.length w_2≤1000000∧(bE w_2 t_3=[]→aS [] [[PV.int IntKind.u32 t,PV.int IntKind.i64 v]] 2 16∧(List.all [PV.int IntKind.u32 t,PV.int IntKind.i64 v] PV.one=true∧[[PV.int IntKind.u32 t,PV.int IntKind.i64 v]]≠[])∧Wk (PV.tup [PV.agg [PV.list [[PV.int IntKind.u32 t,PV.int IntKind.i64 v]] (Tail.tok 3),PV.int IntKind.i64 m_2],PV.int IntKind.i64 0]) (.tup [.agg [.list (rs.1.map csI) .no,.I m],.I rs.2]))∧(bE w_2 t_3≠[]→aS (List.map csI (bE w_2 t_3)) [[PV.int IntKind.u32 t,PV.int IntKind.i64 v]] 2 16∧(List.all [PV.int IntKind.u32 t,PV.int IntKind.i64 v] PV.one=true∧[[PV.int IntKind.u32 t,PV.int IntKind.i64 v]]≠[])∧Wk (PV.tup [PV.agg [PV.list (List.map csI (bE w_2 t_3)++[[PV.int IntKind.u32 t,PV.int IntKind.i64 v]]) (Tail.tok 4),PV.int IntKind.i64 m_2],PV.int IntKind.i64 0]) (.tup [.agg [.list (rs.1.map csI) .no,.I m],.I rs.2])):=by
   rintro rs rfl
   refine⟨w,m,t,rfl,hl,fun h=>⟨⟨(by intro e he; simp at he),(by intro e he; simp at he; subst he; rfl),by simp⟩,⟨rfl,by simp⟩,?_⟩,fun _=>⟨⟨ta _,(by intro e he; simp at he; subst he; rfl),?_⟩,⟨rfl,by simp⟩,?_⟩⟩
   ·rw[h]; exact sU
   ·have:=nc w t; rw[List.length_map,List.length_singleton]; omega
   ·rw[List.map_append]; exact sU
  by_cases c2:eC w t=true
  ·rw[if_neg (by simp[c2]),if_neg (by simp[c2])]
   exact fin _ rfl
  ·have c2':eC w t=false:=by simpa using c2
   rw[if_pos (by simp[c2'])]
   by_cases c3:(w.length:Int)≥m
   ·rw[if_pos (decide_eq_true c3),if_pos ⟨c2',c3⟩]
    exact .refl _
   ·rw[if_neg (by simpa using c3),if_neg (fun h=>c3 h.2)]
    exact fin _ rfl
 ·rw[if_pos (by simpa using c),if_neg c]
  exact .refl _
structure Wd where
 ra:List (Int×Int)
 rows:List (List Rr)
 st:List Int
def prC (p:Int×Int):List PV:=[.U p.1,.I p.2]
theorem EM (p:Int×Int):(prC p).length=2:=rfl
theorem FZ {n:Nat} (p:Int×Int):∀ y∈prC p,Low n y:=be (.int _ _) (.int _ _)
def wdC (w:Wd):List PV:=[.list (w.ra.map prC) .no,.list (w.rows.map lcs) .no,.list (w.st.map i1) .no]
theorem wV {n:Nat} (w:Wd):∀ y∈wdC w,Low n y:=ef (bn FZ _) (bn iP _) (bn gO _)
def g8 (r:Rr):Bool:=decide (r.pl.length>8)
def Lw (l:List Rr):Bool:=decide (l.length>8) || l.any g8
def mu (w:Wd):Bool:=decide (w.ra.length>40) || decide (w.rows.length>6) || decide (w.st.length>60) || w.rows.any Lw
theorem zh {w:Wd} (h:mu w=false):w.ra.length≤40∧w.rows.length≤6∧w.st.length≤60∧∀ l∈w.rows,smR l:=by
 unfold mu at h
 simp only[Bool.or_eq_false_iff,decide_eq_false_iff_not] at h
 obtain⟨⟨⟨h1,h2⟩,h3⟩,h4⟩:=h
 refine⟨by omega,by omega,by omega,fun l hl=>?_⟩
 have:=List.any_eq_false.1 h4 l hl
 unfold Lw at this
 simp only[Bool.or_eq_true,decide_eq_true_eq,not_or,Bool.not_eq_true] at this
 refine⟨by omega,fun r hr=>?_⟩
 have:=List.any_eq_false.1 this.2 r hr
 unfold g8 at this
 have:=(by simpa using this:r.pl.length≤8)
 omega
def Bi (args:List PV) (H:ae) (K:PV→ae→Prop):Prop:=∃(l:List RwI) (most t v:Int),ah args [.ptr 2 0,.U t,.I v]∧bP H 2 (rkI l most)∧Ok l most∧K (.I (cF l most t v).2) (H.set 2 (.abs (rkI (cF l most t v).1 most)))
theorem Fj:SpK 22 (.chg Bi):=by
 rintro args H K ⟨l,most,t,v,he,hb,ok,hk⟩
 have he:args=_:=he
 subst he
 exact⟨_,_,qE _ H (fun x H1=>x=_∧H1=_) ⟨l,most,t,v,rfl,hb,ok,⟨rfl,rfl⟩⟩,hk⟩
def Bz (args:List PV) (H:ae) (K:PV→ae→Prop):Prop:=∃(w:List Mt) (m p st un no:Int),ah args [.ptr 4 0,.U p,.I st,.I un,.int .u64 no]∧b8 H 4 3 (rkM (aq w) m)∧MO w m∧K (.I (dK w p st un no).2) (H.set 3 (.abs (rkM (aq (dK w p st un no).1) m)))
theorem FM:SpK 26 (.chg Bz):=fun args H _ ⟨w,m,p,st,un,no,he,hb,ro,hk⟩=>⟨_,_,Cr args H (fun x H1=>x=_∧H1=_) ⟨4,3,w,m,p,st,un,no,he,hb,ro,⟨rfl,rfl⟩⟩,hk⟩
def v9 (args:List PV) (H:ae) (K:PV→ae→Prop):Prop:=∃(w:List Mt) (m id md ins:Int) (l:List Rr) (t:Tail),ah args [.ptr 4 0,.U id,.I md,.U ins,.list (l.map rrc) t]∧b8 H 4 3 (rkM (aq w) m)∧MO w m∧smR l∧K (.I (dw w m id md ins l).2) (H.set 3 (.abs (rkM (aq (dw w m id md ins l).1) m)))
theorem Dw:SpK 24 (.heap v9):=fun args H K ⟨w,m,id,md,ins,l,t,he,hb,ro,hl,hk⟩=>v8 args H K ⟨4,3,w,m,id,md,ins,l,t,he,hb,ro,hl,hk⟩
def TOP:Tab:=[(22,.chg Bi),(23,.pure pe),(26,.chg Bz),(27,.pure Db),(24,.heap v9),(25,.pure wH),(20,.heap vu),(21,.heap uy)]
theorem jV:TbK TOP:= .cons Fj (.cons pT (.cons FM (.cons Fg (.cons Dw (.cons z8 (.cons wL (.cons wB (.nil _ _))))))))
theorem Ki (d:Wd) (ra:List RwI) (r:List RwI) (i:Nat):(by refine(?_:_→_→_→_→_→Prop) (List.getD (d.ra.map prC) (Int.toNat (i:Int)) []) [PV.ptr 0 0,.ptr 1 0,.ptr 2 0,.ptr 4 0,.ptr 5 0,.E,.I i] [PV.list (d.ra.map prC) .no,.list (d.rows.map lcs) .no,.list (d.st.map i1) .no] [PV.list (r.map csI) .no,.I 40] (Ob.cells [.E,.I 0]); exact fun a c f g h=>by refine(?_:_→_→_→_→_→Prop) [Ob.cells f,h,.abs (rkI ra 40),.abs (rkM [] 6),.cells [.ptr 3 0],.cells g] (true && aE [.int .u32] 0 (List.drop 0 a)) (true && aE [.int .i64] 0 (List.drop 1 a)) (PV.U (cI (List.drop 0 a) 0)) (PV.I (cI (List.drop 1 a) 0)); exact fun b j k n p=>∀(R:Ex→List PV→ae→Prop),(br (decide ((i:Int)<(↑(List.length (d.ra.map prC)):Int))) (InL (d.ra.map prC) 2 (i:Int)∧br j (InL (d.ra.map prC) 2 (i:Int)∧br k (∃(l:List RwI) (most:Int) (t:Int) (v:Int),ah [.ptr 2 0,n,p] [.ptr 2 0,.U t,.I v]∧bP b 2 (rkI l most)∧Ok l most∧InL (d.ra.map prC) 2 (i:Int)∧br j (InL (d.ra.map prC) 2 (i:Int)∧br k (∃(w:List RwI) (m:Int) (t_1:Int) (v_1:Int),ah [.agg g,n,p] [.agg [.list (w.map csI) .no,.I m],.U t_1,.I v_1]∧w.length≤1000000∧0≤t_1∧R .normal [.ptr 0 0,.ptr 1 0,.ptr 2 0,.ptr 4 0,.ptr 5 0,.E,.I (wI ((i:Int)+1))] [.cells f,h,.abs (rkI (Prod.fst (cF l most t v)) most),.abs (rkM [] 6),.cells [.ptr 3 0],.cells [.list (List.map csI (Prod.fst (ic w m t_1 v_1))) .no,.I m]]) False) False) False) False) (R (.exit 0) c b))→Holds (wpK TOP [] (fun o=>match o.dst with|some 41=>7|some 30=>1001|some 36=>1001|some 34=>900|some 40=>900|some 43=>501002|some 45=>1001|some 51=>1001|some 49=>900|some 55=>900|some _=>0|none=>match o.op with| .store _ (.tmp 8) _=>501002|_=>0) (aj [1,1,1,1,0,1,0] (ag Tryz.f7)) [] (an [1,4,6,7,8,9,10] c) [.cells (wdC d),h,.abs (rkI ra 40),.abs (rkM (aq []) 6),.cells [.ptr 3 0],.cells g] (fun ex e H=>R ex (List.map e [1,4,6,7,8,9,10]) H)):Prop):=fun R h=>hoE h
theorem Jw (d:Wd) (ra r:List RwI) (w:List Mt) (at_ i k j:Nat):(by refine(?_:_→_→_→_→_→_→_→Prop) (List.getD (d.rows.map lcs) (Int.toNat (i:Int)) []) (List.getD (d.st.map i1) (Int.toNat (at_:Int)) []) (Ob.cells [.list (r.map csI) .no,.I 40]) [PV.list (d.ra.map prC) .no,.list (d.rows.map lcs) .no,.list (d.st.map i1) .no] (Ob.cells [.E,.I 0]) (Ob.abs (rkM (aq w) 6)) (PV.list (w.map mtc) .no); exact fun c g n q s y z=>by refine(?_:_→_→_→_→_→_→Prop) (List.drop 1 (List.getD (cL c 0) (Int.toNat (k:Int)) [])) [Ob.cells q,s,.abs (rkI ra 40),y,.cells [.ptr 3 0],n,.dead] [PV.ptr 0 0,.ptr 1 0,.ptr 2 0,.ptr 4 0,.ptr 5 0,z,.I at_,.I i,.I k,.I j] (true && aE [.list] 0 c) (true && aE [.int .i64] 0 g) (PV.I (cI g 0)); exact fun b f l t x B=>by refine(?_:_→_→Prop) (List.getD (cL b 0) (Int.toNat (j:Int)) []) (true && aE [.list] 0 b); exact fun h u=>by refine(?_:_→_→Prop) (true && aE [.int .u32] 0 h) (PV.U (cI h 0)); exact fun v A=>∀(R:Ex→List PV→ae→Prop),by refine(?_:_→Prop) (R (.exit 8) l f); exact fun a=>(InL (d.rows.map lcs) 1 (i:Int)∧br t (InL (cL c 0) 4 (k:Int)∧br u (br (decide ((j:Int)<(↑(List.length (cL b 0)):Int)) == true) (br (decide ((at_:Int)<(↑(List.length (d.st.map i1)):Int))) (InL (d.rows.map lcs) 1 (i:Int)∧br t (InL (cL c 0) 4 (k:Int)∧br u (InL (cL b 0) 1 (j:Int)∧br v (InL (d.st.map i1) 1 (at_:Int)∧br x (∃(w_1:List Mt) (m:Int) (p:Int) (st:Int) (un:Int) (no:Int),ah [.ptr 4 0,A,B,.I 0,.int .u64 0] [.ptr 4 0,.U p,.I st,.I un,.int .u64 no]∧b8 f 4 3 (rkM (aq w_1) m)∧MO w_1 m∧InL (d.rows.map lcs) 1 (i:Int)∧br t (InL (cL c 0) 4 (k:Int)∧br u (InL (cL b 0) 1 (j:Int)∧br v (InL (d.st.map i1) 1 (at_:Int)∧br x (∃(w_2:List Mt) (m_1:Int) (p_1:Int) (st_1:Int) (un_1:Int) (no_1:Int) (t0:Tail),ah [z,A,B,.I 0,.int .u64 0] [.list (w_2.map mtc) t0,.U p_1,.I st_1,.I un_1,.int .u64 no_1]∧MO w_2 m_1∧m_1≤100000∧R .normal [.ptr 0 0,.ptr 1 0,.ptr 2 0,.ptr 4 0,.ptr 5 0,.list (List.map mtc (Prod.fst (dK w_2 p_1 st_1 un_1 no_1))) .no,.I (wI ((at_:Int)+1)),.I i,.I k,.I (wI ((j:Int)+1))] [.cells q,s,.abs (rkI ra 40),.abs (rkM (aq (Prod.fst (dK w_1 p st un no))) m),.cells [.ptr 3 0],n,.dead]) False) False) False) False) False) False) False) False) a) a) False) False)→Holds (wpK TOP [] (fun o=>match o.dst with|some 172=>7|some 156=>1101|some 168=>1201|some 159=>900|some 163=>900|some 166=>900|some 171=>900|_=>0) (aj [1,1,1,1,1,1,0,1,0,0,1,0,0,1,1,1,1,1,0,0,1,0,0,1,0] (ag Tryz.f7)) [] (an [1,4,6,7,8,9,11,12,16,17] l) [.cells (wdC d),s,.abs (rkI ra 40),y,.cells [.ptr 3 0],n,.dead] (fun ex e H=>R ex (List.map e [1,4,6,7,8,9,11,12,16,17]) H)):Prop):=fun R h=>hoE h
def nh (xs:List (Int×Int)):List RwI:=xs.foldl (fun w x=>(ic w 40 x.1 x.2).1) []
theorem jm {α β:Type} {f:β→α→β} {b:β} {l:List α} {i:Nat} (d:α) (h:i<l.length):(l.take (i+1)).foldl f b=f ((l.take i).foldl f b) (l.getD i d):=by
 rw[aK d h,List.foldl_append]; rfl
theorem zJ (xs:List (Int×Int)):(nh xs).length≤xs.length:=by
 have:∀(xs:List (Int×Int)) (w:List RwI),(xs.foldl (fun w x=>(ic w 40 x.1 x.2).1) w).length≤w.length+xs.length:=by
  intro xs
  induction xs with
  | nil=>intro w; exact Nat.le_refl _
  | cons x xs ih=>
   intro w
   have h1:(ic w 40 x.1 x.2).1.length≤w.length+1:=by
    unfold ic
    split
    ·split
     ·exact Nat.le_succ _
     ·show(bE w x.1++[(⟨x.1,x.2⟩:RwI)]).length≤_
      have:=nc w x.1
      rw[List.length_append]; simp; omega
    ·exact Nat.le_succ _
   have:=ih (ic w 40 x.1 x.2).1
   rw[List.foldl_cons,List.length_cons]; omega
 have:=this xs []
 simpa[nh] using this
theorem DC {A:ae} {cs cs':List PV} (h:WkL cs cs'):WkH (A++[.cells cs]) (A++[.cells cs']):=by
 refine⟨by simp,fun o x ho=>?_⟩
 by_cases c:o<A.length
 ·rw[List.getElem?_append_left c] at ho
  exact⟨x,by rw[List.getElem?_append_left c]; exact ho,.refl x⟩
 ·have k:=(List.getElem?_eq_some_iff.1 ho).1
  simp at k
  have:o=A.length:=by omega
  subst this
  rw[at0] at ho; cases ho
  exact⟨_,at0 ..,.cells h⟩
theorem JO {z:List PV} (hz:∀ x∈z,Low 0 x):∀ v∈(.ptr 0 0 :: .ptr 1 0 :: .ptr 2 0 :: .ptr 4 0 :: .ptr 5 0::z:List PV),Low 6 v:=by
 intro v hv
 simp only[List.mem_cons] at hv
 rcases hv with rfl|rfl|rfl|rfl|rfl|hv
 ·exact .ptr _ _ (by decide)
 ·exact .ptr _ _ (by decide)
 ·exact .ptr _ _ (by decide)
 ·exact .ptr _ _ (by decide)
 ·exact .ptr _ _ (by decide)
 ·exact(hz v hv).up
def IF:LSp:=fun e H Q=>∃(d:Wd),d.ra.length≤1000∧(∀ p∈d.ra,0≤p.1)∧ah (List.map e [1,4,6,7,8,9,10]) [.ptr 0 0,.ptr 1 0,.ptr 2 0,.ptr 4 0,.ptr 5 0,.E,.I 0]∧ax H [.cells (wdC d),.cells [.E,.I 0],.abs (rkI [] 40),.abs (rkM (aq []) 6),.cells [.ptr 3 0],.cells [.E,.I 40]]∧Q (.exit 0) (an [1,4,6,7,8,9,10] [.ptr 0 0,.ptr 1 0,.ptr 2 0,.ptr 4 0,.ptr 5 0,.E,.I d.ra.length]) [.cells (wdC d),.cells [.E,.I 0],.abs (rkI (dz [] 40 d.ra) 40),.abs (rkM (aq []) 6),.cells [.ptr 3 0],.cells [.list ((nh d.ra).map csI) .no,.I 40]]
theorem BK:∀ e H Q,IF e H Q→AwK Tryz.f7.ntmps (.loop (aj [1,1,1,1,0,1,0] (ag Tryz.f7))) Q e H:=by
 rintro e H Q ⟨d,hl,hp,he,hH,hQ⟩
 have hH:H=_:=hH
 subst hH
 refine AW.IW (H1:=[.cells (wdC d),.cells [.E,.I 0],.abs (rkI [] 40),.abs (rkM (aq []) 6),.cells [.ptr 3 0],.cells [.list (([]:List RwI).map csI) .no,.I 40]]) (DC (A:=[.cells (wdC d),.cells [.E,.I 0],.abs (rkI [] 40),.abs (rkM (aq []) 6),.cells [.ptr 3 0]]) (.cons (.list _ _) (.cons (.refl _) .nil))) ?_
 refine aB (hn:=fun o=>match o.dst with|some 41=>7|some 30=>1001|some 36=>1001|some 34=>900|some 40=>900|some 43=>501002|some 45=>1001|some 51=>1001|some 49=>900|some 55=>900|some _=>0|none=>match o.op with| .store _ (.tmp 8) _=>501002|_=>0) ai jV (.nil _ _ _ _ _) (σ:=Nat) [1,4,6,7,8,9,10] (fun i=>i≤d.ra.length) (fun i=>[.ptr 0 0,.ptr 1 0,.ptr 2 0,.ptr 4 0,.ptr 5 0,.E,.I i]) (fun i=>[.cells (wdC d),.cells [.E,.I 0],.abs (rkI (dz [] 40 (d.ra.take i)) 40),.abs (rkM (aq []) 6),.cells [.ptr 3 0],.cells [.list ((nh (d.ra.take i)).map csI) .no,.I 40]]) (fun i=>d.ra.length-i) 0 (Nat.zero_le _) he rfl ?_
 intro i hi
 have hi':i≤d.ra.length:=hi
 refine Ki d (dz [] 40 (d.ra.take i)) (nh (d.ra.take i)) i _ ?_
 simp only[ar,dt,ak,List.length_map]
 by_cases h:i<d.ra.length
 ·rw[if_pos (by omega)]
  obtain⟨p,hpd⟩:∃ p,p=d.ra.getD i (0,0):=⟨_,rfl⟩
  have hpm:p∈d.ra:=by rw[hpd]; exact aU h
  have inl:InL (d.ra.map prC) 2 (i:Int):=by rw[dH EM (by decide)]; exact h
  have c0:∀ p:Int×Int,cI (List.drop 0 (prC p)) 0=p.1:=fun _=>rfl
  have c1:∀ p:Int×Int,cI (List.drop 1 (prC p)) 0=p.2:=fun _=>rfl
  have ok:Ok (dz [] 40 (d.ra.take i)) 40:=oE (Ok.none (by decide) (by decide)) _
  have hr:=zJ (d.ra.take i)
  rw[List.length_take] at hr
  have e1:dz [] 40 (d.ra.take (i+1))=(cF (dz [] 40 (d.ra.take i)) 40 p.1 p.2).1:=by rw[hpd]; exact jm (0,0) h
  have e2:nh (d.ra.take (i+1))=(ic (nh (d.ra.take i)) 40 p.1 p.2).1:=by rw[hpd]; exact jm (0,0) h
  simp only[getD_map (0,0) h,← hpd,c0,c1]
  refine⟨inl,?_⟩
  rw[if_pos (by rfl)]
  refine⟨inl,?_⟩
  rw[if_pos (by rfl)]
  refine⟨_,40,p.1,p.2,rfl,rfl,ok,inl,?_⟩
  rw[if_pos (by rfl)]
  refine⟨inl,?_⟩
  rw[if_pos (by rfl)]
  refine⟨_,40,p.1,p.2,rfl,by omega,hp p hpm,?_⟩
  rw[← e1,← e2]
  exact⟨i+1,(show d.ra.length-(i+1)<d.ra.length-i by omega),h,by rw[au h (by omega)],[],rfl,Nat.le_refl _,.inl rfl⟩
 ·rw[if_neg (by omega)]
  have:i=d.ra.length:=by omega
  subst this
  rw[List.take_length]
  exact hQ
def vsS (st:List Int) (x:List Mt×Nat) (p:Int):List Mt×Nat:=if x.2<st.length then((dK x.1 p (st.getD x.2 0) 0 0).1,x.2+1) else x
def vsP (st:List Int) (x:List Mt×Nat) (ps:List Int):List Mt×Nat:=ps.foldl (vsS st) x
def vsR (st:List Int) (x:List Mt×Nat) (rows:List Rr):List Mt×Nat:=rows.foldl (fun x r=>vsP st x r.pl) x
theorem Au {st:List Int} {x:List Mt×Nat} (h:¬ x.2<st.length):∀ ps:List Int,vsP st x ps=x:=by
 intro ps
 unfold vsP
 induction ps with
 | nil=>rfl
 | cons p ps ih=>rw[List.foldl_cons]; unfold vsS; rw[if_neg h]; exact ih
theorem Bb {st:List Int} {m:Int} {x:List Mt×Nat} (ro:MO x.1 m) (hx:x.2≤st.length) (ps:List Int):MO (vsP st x ps).1 m∧(vsP st x ps).2≤st.length:=by
 unfold vsP
 induction ps generalizing x with
 | nil=>exact⟨ro,hx⟩
 | cons p ps ih=>
  rw[List.foldl_cons]
  unfold vsS
  by_cases c:x.2<st.length
  ·rw[if_pos c]; exact ih (ro.set _ _ _ _) c
  ·rw[if_neg c]; exact ih ro hx
theorem DB {st:List Int} {m:Int} {x:List Mt×Nat} (ro:MO x.1 m) (hx:x.2≤st.length) (rows:List Rr):MO (vsR st x rows).1 m∧(vsR st x rows).2≤st.length:=by
 unfold vsR
 induction rows generalizing x with
 | nil=>exact⟨ro,hx⟩
 | cons r rows ih=>
  obtain⟨h1,h2⟩:=Bb ro hx r.pl
  exact ih h1 h2
def Al:LSp:=fun e H Q=>∃(d:Wd) (ra r:List RwI) (x:List Mt×Nat) (i k:Nat),i<d.rows.length∧k<(d.rows.getD i []).length∧((d.rows.getD i []).getD k default).pl.length≤1000000∧d.st.length≤1000000∧MO x.1 6∧x.2≤d.st.length∧ah (List.map e [1,4,6,7,8,9,11,12,16,17]) [.ptr 0 0,.ptr 1 0,.ptr 2 0,.ptr 4 0,.ptr 5 0,.list (x.1.map mtc) .no,.I x.2,.I i,.I k,.I 0]∧ax H [.cells (wdC d),.cells [.E,.I 0],.abs (rkI ra 40),.abs (rkM (aq x.1) 6),.cells [.ptr 3 0],.cells [.list (r.map csI) .no,.I 40],.dead]∧
 (∀ j:Nat,Q (.exit 8) (an [1,4,6,7,8,9,11,12,16,17] [.ptr 0 0,.ptr 1 0,.ptr 2 0,.ptr 4 0,.ptr 5 0,.list ((vsP d.st x ((d.rows.getD i []).getD k default).pl).1.map mtc) .no,.I (vsP d.st x ((d.rows.getD i []).getD k default).pl).2,.I i,.I k,.I j]) [.cells (wdC d),.cells [.E,.I 0],.abs (rkI ra 40),.abs (rkM (aq (vsP d.st x ((d.rows.getD i []).getD k default).pl).1) 6),.cells [.ptr 3 0],.cells [.list (r.map csI) .no,.I 40],.dead])
theorem Ac:∀ e H Q,Al e H Q→AwK Tryz.f7.ntmps (.loop (aj [1,1,1,1,1,1,0,1,0,0,1,0,0,1,1,1,1,1,0,0,1,0,0,1,0] (ag Tryz.f7))) Q e H:=by
 rintro e H Q ⟨d,ra,r,x,i,k,hi,hk,hpl,hst,ro,hx,he,hH,hQ⟩
 obtain⟨l,hl⟩:∃ l,l=d.rows.getD i []:=⟨_,rfl⟩
 rw[← hl] at hk hpl hQ
 obtain⟨s,hs⟩:∃ s,s=l.getD k default:=⟨_,rfl⟩
 rw[← hs] at hpl hQ
 have inl:InL (d.rows.map lcs) 1 (i:Int):=by rw[cP]; exact hi
 have inl2:InL (l.map rrc) 4 (k:Int):=by rw[dX]; exact hk
 have c0:cL (lcs l) 0=l.map rrc:=rfl
 have c1:cL (List.drop 1 (rrc s)) 0=s.pl.map u1:=rfl
 refine aB (hn:=fun o=>match o.dst with|some 172=>7|some 156=>1101|some 168=>1201|some 159=>900|some 163=>900|some 166=>900|some 171=>900|_=>0) ai jV (.nil _ _ _ _ _) (σ:=Nat) [1,4,6,7,8,9,11,12,16,17] (fun j=>j≤s.pl.length) (fun j=>[.ptr 0 0,.ptr 1 0,.ptr 2 0,.ptr 4 0,.ptr 5 0,.list ((vsP d.st x (s.pl.take j)).1.map mtc) .no,.I (vsP d.st x (s.pl.take j)).2,.I i,.I k,.I j]) (fun j=>[.cells (wdC d),.cells [.E,.I 0],.abs (rkI ra 40),.abs (rkM (aq (vsP d.st x (s.pl.take j)).1) 6),.cells [.ptr 3 0],.cells [.list (r.map csI) .no,.I 40],.dead]) (fun j=>s.pl.length-j) 0 (Nat.zero_le _) he hH ?_
 intro j hj
 have hj':j≤s.pl.length:=hj
 obtain⟨y,hy⟩:∃ y,y=vsP d.st x (s.pl.take j):=⟨_,rfl⟩
 obtain⟨ro2,hx2⟩:=Bb ro hx (s.pl.take j)
 rw[← hy] at ro2 hx2 ⊢
 refine Jw d ra r y.1 y.2 i k j _ ?_
 simp only[ar,dt,ak,getD_map [] hi,← hl,c0,getD_map default hk,← hs,c1,List.length_map]
 refine⟨inl,?_⟩
 rw[if_pos (by rfl)]
 refine⟨inl2,?_⟩
 rw[if_pos (by rfl)]
 have fin:vsP d.st x s.pl=y→Ek Q [1,4,6,7,8,9,11,12,16,17] (fun j=>j≤s.pl.length) (fun j=>[.ptr 0 0,.ptr 1 0,.ptr 2 0,.ptr 4 0,.ptr 5 0,.list ((vsP d.st x (s.pl.take j)).1.map mtc) .no,.I (vsP d.st x (s.pl.take j)).2,.I i,.I k,.I j]) (fun j=>[.cells (wdC d),.cells [.E,.I 0],.abs (rkI ra 40),.abs (rkM (aq (vsP d.st x (s.pl.take j)).1) 6),.cells [.ptr 3 0],.cells [.list (r.map csI) .no,.I 40],.dead]) (fun j=>s.pl.length-j) j (.exit 8) [.ptr 0 0,.ptr 1 0,.ptr 2 0,.ptr 4 0,.ptr 5 0,.list (y.1.map mtc) .no,.I y.2,.I i,.I k,.I j] [.cells (wdC d),.cells [.E,.I 0],.abs (rkI ra 40),.abs (rkM (aq y.1) 6),.cells [.ptr 3 0],.cells [.list (r.map csI) .no,.I 40],.dead]:=fun e=>by
  have:=hQ j
  rw[e] at this
  exact this
 by_cases h:j<s.pl.length
 ·rw[if_pos (by rw[decide_eq_true (by omega)]; rfl)]
  have hstep:vsP d.st x (s.pl.take (j+1))=vsS d.st y (s.pl.getD j 0):=by rw[hy]; exact jm 0 h
  by_cases c:y.2<d.st.length
  ·rw[if_pos (by omega)]
   have inl3:InL (s.pl.map u1) 1 (j:Int):=by rw[de]; exact h
   have inl4:InL (d.st.map i1) 1 (y.2:Int):=by rw[uW]; exact c
   have cu:∀ z:Int,cI (u1 z) 0=z:=fun _=>rfl
   have ci:∀ z:Int,cI (i1 z) 0=z:=fun _=>rfl
   simp only[getD_map 0 h,getD_map 0 c,cu,ci]
   refine⟨inl,?_⟩
   rw[if_pos (by rfl)]
   refine⟨inl2,?_⟩
   rw[if_pos (by rfl)]
   refine⟨inl3,?_⟩
   rw[if_pos (by rfl)]
   refine⟨inl4,?_⟩
   rw[if_pos (by rfl)]
   refine⟨y.1,6,s.pl.getD j 0,d.st.getD y.2 0,0,0,rfl,⟨rfl,rfl⟩,ro2,inl,?_⟩
   rw[if_pos (by rfl)]
   refine⟨inl2,?_⟩
   rw[if_pos (by rfl)]
   refine⟨inl3,?_⟩
   rw[if_pos (by rfl)]
   refine⟨inl4,?_⟩
   rw[if_pos (by rfl)]
   refine⟨y.1,6,s.pl.getD j 0,d.st.getD y.2 0,0,0,.no,rfl,ro2,by decide,?_⟩
   unfold vsS at hstep
   rw[if_pos c] at hstep
   exact⟨j+1,(show s.pl.length-(j+1)<s.pl.length-j by omega),h,by(try dsimp only); rw[hstep,au h (by omega),au c (by omega)],[],by(try dsimp only); rw[hstep]; rfl,Nat.le_refl _,.inl rfl⟩
  ·rw[if_neg (by omega)]
   refine fin ?_
   rw[← List.take_append_drop j s.pl]
   unfold vsP
   rw[List.foldl_append]
   show vsP d.st (vsP d.st x (s.pl.take j)) _=y
   rw[← hy]
   exact Au c _
 ·rw[if_neg (by rw[decide_eq_false (by omega)]; decide)]
  have:j=s.pl.length:=by omega
  subst this
  rw[List.take_length] at hy
  exact fin hy.symm
theorem Gj:aj [1,0,0,1,0] (aj [1,1,1,1,1,1,0,1,0,0,1,0,0,1,1,1,1,1,0] (ag Tryz.f7))=aj [1,1,1,1,1,1,0,1,0,0,1,0,0,1,1,1,1,1,0,0,1,0,0,1,0] (ag Tryz.f7):=by kernel_rfl
theorem za:∀ e H Q,Al e H Q→AwK Tryz.f7.ntmps (.loop (aj [1,0,0,1,0] (aj [1,1,1,1,1,1,0,1,0,0,1,0,0,1,1,1,1,1,0] (ag Tryz.f7)))) Q e H:=by rw[Gj]; exact Ac
theorem KL (d:Wd) (ra r:List RwI) (w:List Mt) (at_ i k:Nat):(by refine(?_:_→_→_→_→_→Prop) (Ob.cells [.E,.I 0]) (List.getD (d.rows.map lcs) (Int.toNat (i:Int)) []) (Ob.cells [.list (r.map csI) .no,.I 40]) (Ob.abs (rkM (aq w) 6)) (PV.list (w.map mtc) .no); exact fun m n o p q=>by refine(?_:_→_→Prop) [Ob.cells [.list (d.ra.map prC) .no,.list (d.rows.map lcs) .no,.list (d.st.map i1) .no],m,.abs (rkI ra 40),p,.cells [.ptr 3 0],o,.dead] [PV.ptr 0 0,.ptr 1 0,.ptr 2 0,.ptr 4 0,.ptr 5 0,q,.I at_,.I i,.I k]; exact fun j l=>∀(R:Ex→List PV→ae→Prop),(InL (d.rows.map lcs) 1 (i:Int)∧br (true && aE [.list] 0 n) (br (decide ((k:Int)<(↑(List.length (cL n 0)):Int))) (∃(d_1:Wd) (ra_1:List RwI) (r_1:List RwI) (x:List Mt×Nat) (i_1:Nat) (k_1:Nat),by refine(?_:_→_→_→_→Prop) (Ob.cells [.list (d_1.ra.map prC) .no,.list (d_1.rows.map lcs) .no,.list (d_1.st.map i1) .no]) (Ob.cells [.list (r_1.map csI) .no,.I 40]) (List.getD d_1.rows i_1 []) (Ob.abs (rkI ra_1 40)); exact fun b c f h=>by refine(?_:_→Prop) (Rr.pl (List.getD f k_1 default)); exact fun a=>by refine(?_:_→Prop) (Prod.fst (vsP d_1.st x a)); exact fun g=>i_1<d_1.rows.length∧k_1<List.length f∧List.length a≤1000000∧d_1.st.length≤1000000∧MO (Prod.fst x) 6∧Prod.snd x≤d_1.st.length∧ah [.ptr 0 0,.ptr 1 0,.ptr 2 0,.ptr 4 0,.ptr 5 0,q,.I at_,.I i,.I k,.I 0] [.ptr 0 0,.ptr 1 0,.ptr 2 0,.ptr 4 0,.ptr 5 0,.list (List.map mtc (Prod.fst x)) .no,.I (↑(Prod.snd x):Int),.I i_1,.I k_1,.I 0]∧ax j [b,m,h,.abs (rkM (aq (Prod.fst x)) 6),.cells [.ptr 3 0],c,.dead]∧∀(_:Nat),R .normal [.ptr 0 0,.ptr 1 0,.ptr 2 0,.ptr 4 0,.ptr 5 0,.list (List.map mtc g) .no,.I (↑(Prod.snd (vsP d_1.st x a)):Int),.I i_1,.I (wI ((k_1:Int)+1))] [b,m,h,.abs (rkM (aq g) 6),.cells [.ptr 3 0],c,.dead]) (R (.exit 6) l j)) False)→Holds (wpK TOP [([1,0,0,1,0],Al)] (fun _=>0) (aj [1,1,1,1,1,1,0,1,0,0,1,0,0,1,1,1,1,1,0] (ag Tryz.f7)) [] (an [1,4,6,7,8,9,11,12,16] l) [.cells (wdC d),m,.abs (rkI ra 40),p,.cells [.ptr 3 0],o,.dead] (fun ex e H=>R ex (List.map e [1,4,6,7,8,9,11,12,16]) H)):Prop):=fun R h=>hoE h
theorem Fp (d:Wd) (ra r:List RwI) (w:List Mt) (at_ i k:Nat):(by refine(?_:_→_→_→_→_→_→Prop) (List.getD (d.rows.map lcs) (Int.toNat (i:Int)) []) (Ob.cells [.list (r.map csI) .no,.I 40]) (Ob.cells [.list (d.ra.map prC) .no,.list (d.rows.map lcs) .no,.list (d.st.map i1) .no]) (Ob.cells [.E,.I 0]) (Ob.abs (rkM (aq w) 6)) (PV.list (w.map mtc) .no); exact fun b g h j l s=>by refine(?_:_→_→_→Prop) (List.getD (cL b 0) (Int.toNat (k:Int)) []) [PV.ptr 0 0,.ptr 1 0,.ptr 2 0,.ptr 4 0,.ptr 5 0,s,.I at_,.I i,.E,.I k] (true && aE [.list] 0 b); exact fun a f p=>by refine(?_:_→_→_→_→Prop) (PV.I (cI a 2)) (PV.I (cI a 3)) (PV.list ([]++cL a 1) .no) (PV.I (cI a 0)); exact fun m n q t=>by refine(?_:_→Prop) [[PV.I (cI a 0),q,m,n]]; exact fun c=>∀(R:Ex→List PV→ae→Prop),(InL (d.rows.map lcs) 1 (i:Int)∧br p (br (decide ((k:Int)<(↑(List.length (cL b 0)):Int))) (InL (d.rows.map lcs) 1 (i:Int)∧br p (InL (cL b 0) 4 (k:Int)∧br (true && aE [.int .i64,.list,.int .i64,.int .i64] 0 a) (aS [] (cL a 1) 1 4∧aS [] c 4 48∧(List.all [t,q,m,n] PV.one=true∧c≠[])∧R .normal [.ptr 0 0,.ptr 1 0,.ptr 2 0,.ptr 4 0,.ptr 5 0,s,.I at_,.I i,.list c (.tok 7),.I (wI ((k:Int)+1))] [h,j,.abs (rkI ra 40),l,.cells [.ptr 3 0],g,.cells [t,.list (cL a 1) (cT a 1),m,n],.tok]) False) False) (R (.exit 4) f [h,j,.abs (rkI ra 40),l,.cells [.ptr 3 0],g])) False)→Holds (wpK TOP [] (fun o=>match o.dst with|some 90=>0|some 97=>1|_=>0) (aj [1,1,1,1,1,1,0,1,0,0,1,0,0,1,0,1,0] (ag Tryz.f7)) [] (an [1,4,6,7,8,9,11,12,13,14] f) [.cells (wdC d),j,.abs (rkI ra 40),l,.cells [.ptr 3 0],g] (fun ex e H=>R ex (List.map e [1,4,6,7,8,9,11,12,13,14]) H)):Prop):=fun R h=>hoE h
theorem G0 (d:Wd) (ra r:List RwI) (w:List Mt) (b:List Rr) (at_ i k:Nat):(by refine(?_:_→_→_→_→_→_→Prop) (List.getD (d.rows.map lcs) (Int.toNat (i:Int)) []) (Ob.cells [.list (r.map csI) .no,.I 40]) (Ob.cells [.list (d.ra.map prC) .no,.list (d.rows.map lcs) .no,.list (d.st.map i1) .no]) (Ob.cells [.E,.I 0]) (Ob.abs (rkM (aq w) 6)) (PV.list (w.map mtc) .no); exact fun c h j l m t=>by refine(?_:_→_→_→Prop) (List.getD (cL c 0) (Int.toNat (k:Int)) []) [PV.ptr 0 0,.ptr 1 0,.ptr 2 0,.ptr 4 0,.ptr 5 0,t,.I at_,.I i,.list (b.map rrc) (.tok 6),.I k] (true && aE [.list] 0 c); exact fun a g q=>by refine(?_:_→_→_→_→Prop) (PV.I (cI a 2)) (PV.I (cI a 3)) (PV.list ([]++cL a 1) .no) (PV.I (cI a 0)); exact fun n p s u=>by refine(?_:_→Prop) [[PV.I (cI a 0),s,n,p]]; exact fun f=>∀(R:Ex→List PV→ae→Prop),(InL (d.rows.map lcs) 1 (i:Int)∧br q (br (decide ((k:Int)<(↑(List.length (cL c 0)):Int))) (InL (d.rows.map lcs) 1 (i:Int)∧br q (InL (cL c 0) 4 (k:Int)∧br (true && aE [.int .i64,.list,.int .i64,.int .i64] 0 a) (aS [] (cL a 1) 1 4∧aS (b.map rrc) f 4 48∧(List.all [u,s,n,p] PV.one=true∧f≠[])∧R .normal [.ptr 0 0,.ptr 1 0,.ptr 2 0,.ptr 4 0,.ptr 5 0,t,.I at_,.I i,.list (b.map rrc++f) (.tok 8),.I (wI ((k:Int)+1))] [j,l,.abs (rkI ra 40),m,.cells [.ptr 3 0],h,.dead,.cells [u,.list (cL a 1) (cT a 1),n,p],.tok]) False) False) (R (.exit 4) g [j,l,.abs (rkI ra 40),m,.cells [.ptr 3 0],h,.tok])) False)→Holds (wpK TOP [] (fun o=>match o.dst with|some 90=>0|some 97=>1|_=>0) (aj [1,1,1,1,1,1,0,1,0,0,1,0,0,1,0,1,0] (ag Tryz.f7)) [] (an [1,4,6,7,8,9,11,12,13,14] g) [.cells (wdC d),l,.abs (rkI ra 40),m,.cells [.ptr 3 0],h,.tok] (fun ex e H=>R ex (List.map e [1,4,6,7,8,9,11,12,13,14]) H)):Prop):=fun R h=>hoE h
theorem o7 {n:Nat}:Low n (.E):=aF NT.exact (by simp)
theorem wE {d:Wd} {ra r:List RwI} {w:List Mt}:∀(o:Nat) cs,([.cells (wdC d),.cells [.E,.I 0],.abs (rkI ra 40),.abs (rkM (aq w) 6),.cells [.ptr 3 0],.cells [.list (r.map csI) .no,.I 40]]:ae)[o]?=some (.cells cs)→∀ x∈cs,Low 6 x:=by
 intro o cs ho
 have k1:=(List.getElem?_eq_some_iff.1 ho).1
 simp at k1
 have:o=0∨o=1∨o=2∨o=3∨o=4∨o=5:=by omega
 rcases this with rfl|rfl|rfl|rfl|rfl|rfl<;>cases ho
 ·exact wV d
 ·exact be o7 (.int _ _)
 ·exact bu (.ptr _ _ (by decide))
 ·exact be (bn lj _) (.int _ _)
theorem EQ {w:List Mt} {at_ i k:Int} {T:PV} (hT:Low 6 T):∀ v∈[.ptr 0 0,.ptr 1 0,.ptr 2 0,.ptr 4 0,.ptr 5 0,.list (w.map mtc) .no,.I at_,.I i,T,.I k],Low 6 v:=by
 intro v hv
 simp only[List.mem_cons,List.not_mem_nil,or_false] at hv
 rcases hv with rfl|rfl|rfl|rfl|rfl|rfl|rfl|rfl|rfl|rfl
 ·exact .ptr _ _ (by decide)
 ·exact .ptr _ _ (by decide)
 ·exact .ptr _ _ (by decide)
 ·exact .ptr _ _ (by decide)
 ·exact .ptr _ _ (by decide)
 ·exact bF w
 ·exact .int _ _
 ·exact .int _ _
 ·exact hT
 ·exact .int _ _
theorem CB {a b c d e f g i T T' k:PV} (h:Wk T T'):WkL [a,b,c,d,e,f,g,i,T,k] [a,b,c,d,e,f,g,i,T',k]:= .cons (.refl _) (.cons (.refl _) (.cons (.refl _) (.cons (.refl _) (.cons (.refl _) (.cons (.refl _) (.cons (.refl _) (.cons (.refl _) (.cons h (.cons (.refl _) .nil)))))))))
def Cn:LSp:=fun e H Q=>∃(d:Wd) (ra r:List RwI) (w:List Mt) (at_ i:Nat),i<d.rows.length∧smR (d.rows.getD i [])∧ah (List.map e [1,4,6,7,8,9,11,12,13,14]) [.ptr 0 0,.ptr 1 0,.ptr 2 0,.ptr 4 0,.ptr 5 0,.list (w.map mtc) .no,.I at_,.I i,.E,.I 0]∧ax H [.cells (wdC d),.cells [.E,.I 0],.abs (rkI ra 40),.abs (rkM (aq w) 6),.cells [.ptr 3 0],.cells [.list (r.map csI) .no,.I 40]]∧Q (.exit 4) (an [1,4,6,7,8,9,11,12,13,14] [.ptr 0 0,.ptr 1 0,.ptr 2 0,.ptr 4 0,.ptr 5 0,.list (w.map mtc) .no,.I at_,.I i,.list ((d.rows.getD i []).map rrc) .no,.I (d.rows.getD i []).length]) [.cells (wdC d),.cells [.E,.I 0],.abs (rkI ra 40),.abs (rkM (aq w) 6),.cells [.ptr 3 0],.cells [.list (r.map csI) .no,.I 40],.dead]
set_option maxRecDepth 10000 in
theorem Eg:∀ e H Q,Cn e H Q→AwK Tryz.f7.ntmps (.loop (aj [1,1,1,1,1,1,0,1,0,0,1,0,0,1,0,1,0] (ag Tryz.f7))) Q e H:=by
 rintro e H Q ⟨d,ra,r,w,at_,i,hi,sm,he,hH,hQ⟩
 have hH:H=_:=hH
 obtain⟨l,hl⟩:∃ l,l=d.rows.getD i []:=⟨_,rfl⟩
 rw[← hl] at sm hQ
 have hll:=sm.1
 have inl:InL (d.rows.map lcs) 1 (i:Int):=by rw[cP]; exact hi
 have c0:cL (lcs l) 0=l.map rrc:=rfl
 refine jM (f:=rrc) (acc:=fun k=>l.take k) (I:=fun k=>k≤l.length) (m:=fun k=>l.length-k) ai [1,4,6,7,8,9,11,12,13,14] (fun T k=>[.ptr 0 0,.ptr 1 0,.ptr 2 0,.ptr 4 0,.ptr 5 0,.list (w.map mtc) .no,.I at_,.I i,T,.I k]) [.cells (wdC d),.cells [.E,.I 0],.abs (rkI ra 40),.abs (rkM (aq w) 6),.cells [.ptr 3 0],.cells [.list (r.map csI) .no,.I 40]] (0:Nat)
  wE (fun _ _ a _=>bD a) (fun es k j _ h=> .same (.ptr _ _ (by simp)) (.same (.ptr _ _ (by simp)) (.same (.ptr _ _ (by simp)) (.same (.ptr _ _ (by simp)) (.same (.ptr _ _ (by simp)) (.same (bF w) (.same (.int _ _) (.same (.int _ _) (.row h (.same (.int _ _) .nil)))))))))) (fun k _=>EQ o7) (Nat.zero_le _) rfl he hH ?_ ?_
 ·intro k hk ha
  have hk':k≤l.length:=hk
  have ha:l.take k=[]:=ha
  refine aZ jV (aj [1,1,1,1,1,1,0,1,0,0,1,0,0,1,0,1,0] (ag Tryz.f7)) [] (.nil _ _ _ _ _) _ _ _ (Fp d ra r w at_ i k _ ?_).out
  simp only[ar,dt,ak,getD_map [] hi,← hl,c0,List.length_map]
  refine⟨inl,?_⟩
  rw[if_pos (by rfl)]
  by_cases h:k<l.length
  ·rw[if_pos (by omega)]
   obtain⟨s,hs⟩:∃ s,s=l.getD k default:=⟨_,rfl⟩
   have hsucc:l.take (k+1)=l.take k++[s]:=by rw[aK default h,hs]
   have inl2:InL (l.map rrc) 4 (k:Int):=by rw[dX]; exact h
   have hsl:s.pl.length≤100:=sm.2 s (by rw[hs]; exact aU h)
   have r0:cI (rrc s) 0=s.tm:=rfl
   have r1:cL (rrc s) 1=s.pl.map u1:=rfl
   have r2:cI (rrc s) 2=s.rt:=rfl
   have r3:cI (rrc s) 3=s.wd:=rfl
   refine⟨inl,?_⟩
   rw[if_pos (by rfl)]
   refine⟨inl2,?_⟩
   simp only[getD_map default h,← hs]
   rw[if_pos (by rfl)]
   refine⟨⟨fun _ h=>(nomatch h),bZ dL s.pl,by show(0+(s.pl.map u1).length)*4≤_; rw[List.length_map]; omega⟩,aG (l:=[]) (by_:=48) eZ s (by show(0+1)*48≤_; decide),one_row rh s,?_⟩
   exact aX (k+1) (show l.length-(k+1)<l.length-k by omega) h (hsucc.trans (by rw[ha])) (by simp) [_,.tok] 7 rfl rfl (by simp) (by(try dsimp only); rw[au h (by omega)]; rfl)
  ·rw[if_neg (by omega)]
   have:k=l.length:=by omega
   subst this
   rw[List.take_length] at ha
   have hn:l=[]:=ha
   rw[hn] at hQ ⊢
   exact bV (CB (.list _ _)) (dS _) hQ
 ·intro k hk ha
  have hk':k≤l.length:=hk
  have ha:l.take k≠[]:=ha
  have hbl:(l.take k).length≤100:=by rw[List.length_take]; omega
  refine aZ jV (aj [1,1,1,1,1,1,0,1,0,0,1,0,0,1,0,1,0] (ag Tryz.f7)) [] (.nil _ _ _ _ _) _ _ _ (G0 d ra r w (l.take k) at_ i k _ ?_).out
  simp only[ar,dt,ak,getD_map [] hi,← hl,c0,List.length_map]
  refine⟨inl,?_⟩
  rw[if_pos (by rfl)]
  by_cases h:k<l.length
  ·rw[if_pos (by omega)]
   obtain⟨s,hs⟩:∃ s,s=l.getD k default:=⟨_,rfl⟩
   have hsucc:l.take (k+1)=l.take k++[s]:=by rw[aK default h,hs]
   have inl2:InL (l.map rrc) 4 (k:Int):=by rw[dX]; exact h
   have hsl:s.pl.length≤100:=sm.2 s (by rw[hs]; exact aU h)
   have r0:cI (rrc s) 0=s.tm:=rfl
   have r1:cL (rrc s) 1=s.pl.map u1:=rfl
   have r2:cI (rrc s) 2=s.rt:=rfl
   have r3:cI (rrc s) 3=s.wd:=rfl
   refine⟨inl,?_⟩
   rw[if_pos (by rfl)]
   refine⟨inl2,?_⟩
   simp only[getD_map default h,← hs]
   rw[if_pos (by rfl)]
   refine⟨⟨fun _ h=>(nomatch h),bZ dL s.pl,by show(0+(s.pl.map u1).length)*4≤_; rw[List.length_map]; omega⟩,aG (by_:=48) eZ (l.take k) s (by omega),one_row rh s,?_⟩
   exact aX (k+1) (show l.length-(k+1)<l.length-k by omega) h hsucc (by simp) [.dead,_,.tok] 8 rfl rfl (by simp) (by(try dsimp only); rw[au h (by omega),List.map_append]; rfl)
  ·rw[if_neg (by omega)]
   have:k=l.length:=by omega
   subst this
   rw[List.take_length]
   exact bV (CB (.list _ _)) (eL [.cells (wdC d),.cells [.E,.I 0],.abs (rkI ra 40),.abs (rkM (aq w) 6),.cells [.ptr 3 0],.cells [.list (r.map csI) .no,.I 40]] .tok) hQ
def z6:LSp:=fun e H Q=>∃(d:Wd) (ra r:List RwI) (x:List Mt×Nat) (i:Nat),i<d.rows.length∧smR (d.rows.getD i [])∧d.st.length≤1000000∧MO x.1 6∧x.2≤d.st.length∧ah (List.map e [1,4,6,7,8,9,11,12,16]) [.ptr 0 0,.ptr 1 0,.ptr 2 0,.ptr 4 0,.ptr 5 0,.list (x.1.map mtc) .no,.I x.2,.I i,.I 0]∧ax H [.cells (wdC d),.cells [.E,.I 0],.abs (rkI ra 40),.abs (rkM (aq x.1) 6),.cells [.ptr 3 0],.cells [.list (r.map csI) .no,.I 40],.dead]∧Q (.exit 6) (an [1,4,6,7,8,9,11,12,16] [.ptr 0 0,.ptr 1 0,.ptr 2 0,.ptr 4 0,.ptr 5 0,.list ((vsR d.st x (d.rows.getD i [])).1.map mtc) .no,.I (vsR d.st x (d.rows.getD i [])).2,.I i,.I (d.rows.getD i []).length]) [.cells (wdC d),.cells [.E,.I 0],.abs (rkI ra 40),.abs (rkM (aq (vsR d.st x (d.rows.getD i [])).1) 6),.cells [.ptr 3 0],.cells [.list (r.map csI) .no,.I 40],.dead]
theorem Ad:∀ e H Q,z6 e H Q→AwK Tryz.f7.ntmps (.loop (aj [1,1,1,1,1,1,0,1,0,0,1,0,0,1,1,1,1,1,0] (ag Tryz.f7))) Q e H:=by
 rintro e H Q ⟨d,ra,r,x,i,hi,sm,hst,ro,hx,he,hH,hQ⟩
 obtain⟨l,hl⟩:∃ l,l=d.rows.getD i []:=⟨_,rfl⟩
 rw[← hl] at sm hQ
 have hll:=sm.1
 have inl:InL (d.rows.map lcs) 1 (i:Int):=by rw[cP]; exact hi
 have c0:cL (lcs l) 0=l.map rrc:=rfl
 refine aB (hn:=fun _=>0) ai jV (.cons suE za (.nil _ _ _ _ _)) (σ:=Nat) [1,4,6,7,8,9,11,12,16] (fun k=>k≤l.length) (fun k=>[.ptr 0 0,.ptr 1 0,.ptr 2 0,.ptr 4 0,.ptr 5 0,.list ((vsR d.st x (l.take k)).1.map mtc) .no,.I (vsR d.st x (l.take k)).2,.I i,.I k]) (fun k=>[.cells (wdC d),.cells [.E,.I 0],.abs (rkI ra 40),.abs (rkM (aq (vsR d.st x (l.take k)).1) 6),.cells [.ptr 3 0],.cells [.list (r.map csI) .no,.I 40],.dead]) (fun k=>l.length-k) 0 (Nat.zero_le _) he hH ?_
 intro k hk
 have hk':k≤l.length:=hk
 obtain⟨y,hy⟩:∃ y,y=vsR d.st x (l.take k):=⟨_,rfl⟩
 obtain⟨ro2,hx2⟩:=DB ro hx (l.take k)
 rw[← hy] at ro2 hx2 ⊢
 refine KL d ra r y.1 y.2 i k _ ?_
 simp only[ar,dt,ak,getD_map [] hi,← hl,c0,List.length_map]
 refine⟨inl,?_⟩
 rw[if_pos (by rfl)]
 by_cases h:k<l.length
 ·rw[if_pos (by omega)]
  have hstep:vsR d.st x (l.take (k+1))=vsP d.st y (l.getD k default).pl:=by rw[hy]; exact jm default h
  have hpl:=sm.2 _ (aU (d:=default) h)
  refine⟨d,ra,r,y,i,k,hi,by rw[← hl]; exact h,by rw[← hl]; omega,hst,ro2,hx2,rfl,rfl,fun j=>?_⟩
  rw[← hl,← hstep]
  exact⟨k+1,(show l.length-(k+1)<l.length-k by omega),h,by rw[au h (by omega)],[],rfl,Nat.le_refl _,.inl rfl⟩
 ·rw[if_neg (by omega)]
  have:k=l.length:=by omega
  subst this
  rw[List.take_length] at hy
  rw[hy]; exact hQ
theorem Ho:aj [1,0,0,1,1,1,1,1,0] (aj [1,1,1,1,1,1,0,1,0] (ag Tryz.f7))=aj [1,1,1,1,1,1,0,1,0,0,1,0,0,1,1,1,1,1,0] (ag Tryz.f7):=by kernel_rfl
theorem F7:aj [1,0,0,1,0,1,0] (aj [1,1,1,1,1,1,0,1,0] (ag Tryz.f7))=aj [1,1,1,1,1,1,0,1,0,0,1,0,0,1,0,1,0] (ag Tryz.f7):=by kernel_rfl
theorem yf:∀ e H Q,z6 e H Q→AwK Tryz.f7.ntmps (.loop (aj [1,0,0,1,1,1,1,1,0] (aj [1,1,1,1,1,1,0,1,0] (ag Tryz.f7)))) Q e H:=by rw[Ho]; exact Ad
theorem xX:∀ e H Q,Cn e H Q→AwK Tryz.f7.ntmps (.loop (aj [1,0,0,1,0,1,0] (aj [1,1,1,1,1,1,0,1,0] (ag Tryz.f7)))) Q e H:=by rw[F7]; exact Eg
theorem JJ (d:Wd) (ra r:List RwI) (w:List Mt) (at_ i:Nat):(by refine(?_:_→_→_→_→Prop) (Ob.cells [.E,.I 0]) (Ob.cells [.list (r.map csI) .no,.I 40]) (Ob.abs (rkM (aq w) 6)) (PV.list (w.map mtc) .no); exact fun v A B C=>by refine(?_:_→_→Prop) [Ob.cells [.list (d.ra.map prC) .no,.list (d.rows.map lcs) .no,.list (d.st.map i1) .no],v,.abs (rkI ra 40),B,.cells [.ptr 3 0],A] [PV.ptr 0 0,.ptr 1 0,.ptr 2 0,.ptr 4 0,.ptr 5 0,C,.I at_,.I i]; exact fun y z=>∀(R:Ex→List PV→ae→Prop),(br (decide ((i:Int)<(↑(List.length (d.rows.map lcs)):Int))) (∃(d_1:Wd) (ra_1:List RwI) (r_1:List RwI) (w_1:List Mt) (at__1:Nat) (i_1:Nat),by refine(?_:_→_→_→_→_→_→_→_→Prop) (Ob.cells [.list (r_1.map csI) .no,.I 40]) (PV.U (IntKind.wrap .u32 (IntKind.wrap .u32 (i_1:Int)+11))) (PV.U (IntKind.wrap .u32 (IntKind.wrap .u32 (i_1:Int)+1))) (d_1.rows.map lcs) (Ob.abs (rkI ra_1 40)) (List.getD d_1.rows i_1 []) (Ob.abs (rkM (aq w_1) 6)) (PV.list (w_1.map mtc) .no); exact fun j k n o p q s u=>by refine(?_:_→_→Prop) (Ob.cells [.list (d_1.ra.map prC) .no,.list o .no,.list (d_1.st.map i1) .no]) (List.getD o (Int.toNat (i_1:Int)) []); exact fun g h=>i_1<d_1.rows.length∧smR q∧ah [.ptr 0 0,.ptr 1 0,.ptr 2 0,.ptr 4 0,.ptr 5 0,C,.I at_,.I i,.E,.I 0] [.ptr 0 0,.ptr 1 0,.ptr 2 0,.ptr 4 0,.ptr 5 0,u,.I at__1,.I i_1,.E,.I 0]∧ax y [g,v,p,s,.cells [.ptr 3 0],j]∧∃(w:List Mt) (m:Int) (id:Int) (md:Int) (ins:Int) (l:List Rr) (t:Tail),ah [.ptr 4 0,n,.I 0,k,.list (List.map rrc q) .no] [.ptr 4 0,.U id,.I md,.U ins,.list (l.map rrc) t]∧b8 [g,v,p,s,.cells [.ptr 3 0],j,.dead] 4 3 (rkM (aq w) m)∧MO w m∧smR l∧InL o 1 (i_1:Int)∧br (true && aE [.list] 0 h) (∃(w_2:List Mt) (m_1:Int) (id_1:Int) (md_1:Int) (ins_1:Int) (l_1:List Rr) (t0:Tail) (t1:Tail),ah [u,.I 6,n,.I 0,k,.list (cL h 0) (cT h 0)] [.list (w_2.map mtc) t0,.I m_1,.U id_1,.I md_1,.U ins_1,.list (l_1.map rrc) t1]∧MO w_2 m_1∧m_1≤100000∧0≤id_1∧Bm l_1∧smR l_1∧∃(d:Wd) (ra:List RwI) (r:List RwI) (x:List Mt×Nat) (i:Nat),by refine(?_:_→_→_→Prop) (Ob.cells [.list (d.ra.map prC) .no,.list (d.rows.map lcs) .no,.list (d.st.map i1) .no]) (Ob.cells [.list (r.map csI) .no,.I 40]) (List.getD d.rows i []); exact fun a c f=>by refine(?_:_→Prop) (vsR d.st x f); exact fun b=>i<d.rows.length∧smR f∧d.st.length≤1000000∧MO (Prod.fst x) 6∧Prod.snd x≤d.st.length∧ah [.ptr 0 0,.ptr 1 0,.ptr 2 0,.ptr 4 0,.ptr 5 0,.list (List.map mtc (Prod.fst (dw w_2 m_1 id_1 md_1 ins_1 l_1))) .no,.I at__1,.I i_1,.I 0] [.ptr 0 0,.ptr 1 0,.ptr 2 0,.ptr 4 0,.ptr 5 0,.list (List.map mtc (Prod.fst x)) .no,.I (↑(Prod.snd x):Int),.I i,.I 0]∧ax [g,v,p,.abs (rkM (aq (Prod.fst (dw w m id md ins l))) m),.cells [.ptr 3 0],j,.dead] [a,v,.abs (rkI ra 40),.abs (rkM (aq (Prod.fst x)) 6),.cells [.ptr 3 0],c,.dead]∧R .normal [.ptr 0 0,.ptr 1 0,.ptr 2 0,.ptr 4 0,.ptr 5 0,.list (List.map mtc (Prod.fst b)) .no,.I (↑(Prod.snd b):Int),.I (wI ((i:Int)+1))] [a,v,.abs (rkI ra 40),.abs (rkM (aq (Prod.fst b)) 6),.cells [.ptr 3 0],c,.dead]) False) (R (.exit 2) z y))→Holds (wpK TOP [([1,0,0,1,0,1,0],Cn),([1,0,0,1,1,1,1,1,0],z6)] (fun _=>0) (aj [1,1,1,1,1,1,0,1,0] (ag Tryz.f7)) [] (an [1,4,6,7,8,9,11,12] z) [.cells (wdC d),v,.abs (rkI ra 40),B,.cells [.ptr 3 0],A] (fun ex e H=>R ex (List.map e [1,4,6,7,8,9,11,12]) H)):Prop):=fun R h=>hoE h
theorem idN (i:Nat) (h:i≤6) (a:Int) (h0:0≤a) (h1:a≤100):IntKind.wrap .u32 (IntKind.wrap .u32 (i:Int)+a)=i+a:=by
 rw[wrap_u32 (n:=(i:Int)) (by omega) (by omega),wrap_u32 (by omega) (by omega)]
def opS (d:Wd) (x:List Mt×Nat) (i:Nat):List Mt×Nat:=vsR d.st ((dw x.1 6 (i+1) 0 (i+11) (d.rows.getD i [])).1,x.2) (d.rows.getD i [])
def eK (d:Wd):Nat→List Mt×Nat
 | 0=>([],0)
 | i+1=>opS d (eK d i) i
theorem lB (d:Wd):∀ i,MO (eK d i).1 6∧(eK d i).2≤d.st.length
 | 0=>⟨MO.nil (by decide) (by decide),Nat.zero_le _⟩
 | i+1=>DB (x:=((dw (eK d i).1 6 (i+1) 0 (i+11) (d.rows.getD i [])).1,(eK d i).2)) ((lB d i).1.make _ _ _ _) (lB d i).2 _
def Iu:LSp:=fun e H Q=>∃(d:Wd) (ra r:List RwI),d.rows.length≤6∧d.st.length≤1000000∧(∀ l∈d.rows,smR l∧Bm l)∧ah (List.map e [1,4,6,7,8,9,11,12]) [.ptr 0 0,.ptr 1 0,.ptr 2 0,.ptr 4 0,.ptr 5 0,.E,.I 0,.I 0]∧ax H [.cells (wdC d),.cells [.E,.I 0],.abs (rkI ra 40),.abs (rkM (aq []) 6),.cells [.ptr 3 0],.cells [.list (r.map csI) .no,.I 40]]∧Q (.exit 2) (an [1,4,6,7,8,9,11,12] [.ptr 0 0,.ptr 1 0,.ptr 2 0,.ptr 4 0,.ptr 5 0,.list ((eK d d.rows.length).1.map mtc) .no,.I (eK d d.rows.length).2,.I d.rows.length]) [.cells (wdC d),.cells [.E,.I 0],.abs (rkI ra 40),.abs (rkM (aq (eK d d.rows.length).1) 6),.cells [.ptr 3 0],.cells [.list (r.map csI) .no,.I 40]]
set_option maxRecDepth 10000 in
theorem CR:∀ e H Q,Iu e H Q→AwK Tryz.f7.ntmps (.loop (aj [1,1,1,1,1,1,0,1,0] (ag Tryz.f7))) Q e H:=by
 rintro e H Q ⟨d,ra,r,hn,hst,hr,he,hH,hQ⟩
 have hH:H=_:=hH
 subst hH
 have he:_=_:=he
 refine AW.LS (slots:=[1,4,6,7,8,9,11,12]) (vs:=[.ptr 0 0,.ptr 1 0,.ptr 2 0,.ptr 4 0,.ptr 5 0,.list (([]:List Mt).map mtc) .no,.I 0,.I 0]) (by rw[he]; exact .cons (.refl _) (.cons (.refl _) (.cons (.refl _) (.cons (.refl _) (.cons (.refl _) (.cons (.list _ _) (.cons (.refl _) (.cons (.refl _) .nil)))))))) ?_
 refine aB (hn:=fun _=>0) ai jV (.cons suE xX (.cons suE yf (.nil _ _ _ _ _))) (σ:=Nat) [1,4,6,7,8,9,11,12] (fun i=>i≤d.rows.length) (fun i=>[.ptr 0 0,.ptr 1 0,.ptr 2 0,.ptr 4 0,.ptr 5 0,.list ((eK d i).1.map mtc) .no,.I (eK d i).2,.I i]) (fun i=>[.cells (wdC d),.cells [.E,.I 0],.abs (rkI ra 40),.abs (rkM (aq (eK d i).1) 6),.cells [.ptr 3 0],.cells [.list (r.map csI) .no,.I 40]]) (fun i=>d.rows.length-i) 0 (Nat.zero_le _) rfl rfl ?_
 intro i hi
 have hi':i≤d.rows.length:=hi
 obtain⟨ro,hx⟩:=lB d i
 have hs:eK d (i+1)=opS d (eK d i) i:=rfl
 obtain⟨y,hy⟩:∃ y,y=eK d i:=⟨_,rfl⟩
 rw[← hy] at ro hx hs ⊢
 refine JJ d ra r y.1 y.2 i _ ?_
 simp only[ar,dt,ak,List.length_map]
 by_cases h:i<d.rows.length
 ·rw[if_pos (by omega)]
  have inl:InL (d.rows.map lcs) 1 (i:Int):=by rw[cP]; exact h
  have c0:∀ l:List Rr,cL (lcs l) 0=l.map rrc:=fun _=>rfl
  have ih:∀ a:Int,0≤a→a≤100→_:=idN i (by omega)
  obtain⟨sm,ps⟩:=hr _ (aU (d:=([]:List Rr)) h)
  refine⟨d,ra,r,y.1,y.2,i,h,sm,rfl,rfl,?_⟩
  rw[ih 1 (by decide) (by decide),ih 11 (by decide) (by decide)]
  refine⟨y.1,6,i+1,0,i+11,d.rows.getD i [],.no,rfl,⟨rfl,rfl⟩,ro,sm,inl,?_⟩
  simp only[getD_map ([]:List Rr) h,c0]
  rw[if_pos (by rfl)]
  refine⟨y.1,6,i+1,0,i+11,d.rows.getD i [],.no,_,rfl,ro,by decide,by omega,ps,sm,?_⟩
  refine⟨d,ra,r,((dw y.1 6 (i+1) 0 (i+11) (d.rows.getD i [])).1,y.2),i,h,sm,hst,ro.make _ _ _ _,hx,rfl,rfl,?_⟩
  have hs:vsR d.st ((dw y.1 6 (i+1) 0 (i+11) (d.rows.getD i [])).1,y.2) (d.rows.getD i [])=eK d (i+1):=hs.symm
  rw[hs]
  exact⟨i+1,(show d.rows.length-(i+1)<d.rows.length-i by omega),h,by rw[au h (by omega)],[.dead],rfl,Nat.le_refl _,.inr ⟨JO (ef (bF _) (.int _ _) (.int _ _)),wE⟩⟩
 ·rw[if_neg (by omega)]
  have:i=d.rows.length:=by omega
  subst this
  rw[hy]; exact hQ
theorem Je (d:Wd):(by refine(?_:_→_→_→_→Prop) (Ob.cells [.E,.I 0]) [PV.ptr 0 0,.ptr 1 0,.ptr 2 0,.ptr 4 0,.ptr 5 0,.E,.I 0,.I 0] [PV.ptr 0 0,.ptr 1 0,.ptr 2 0,.ptr 4 0,.ptr 5 0,.E,.I 0] (Ob.cells [.E,.I 40]); exact fun f g h i=>∀(K:PV→ae→Prop),(∃(n:Int),ah [.I 40] [.I n]∧∃(n_1:Int),ah [.I 6] [.I n_1]∧∃(d_1:Wd),by refine(?_:_→Prop) (Ob.cells [.list (d_1.ra.map prC) .no,.list (d_1.rows.map lcs) .no,.list (d_1.st.map i1) .no]); exact fun e=>d_1.ra.length≤1000∧(∀(p:Int×Int),p∈d_1.ra→0≤Prod.fst p)∧ah h h∧ax [.cells [.list (d.ra.map prC) .no,.list (d.rows.map lcs) .no,.list (d.st.map i1) .no],f,.abs (rkI [] (mxI 0 n)),.abs (rkM [] (mxI 0 n_1)),.cells [.ptr 3 0],i] [e,f,.abs (rkI [] 40),.abs (rkM [] 6),.cells [.ptr 3 0],i]∧∃(d:Wd) (ra:List RwI) (r:List RwI),by refine(?_:_→_→_→Prop) [PV.list (r.map csI) .no,.I 40] (Ob.cells [.list (d.ra.map prC) .no,.list (d.rows.map lcs) .no,.list (d.st.map i1) .no]) (Prod.fst (eK d d.rows.length)); exact fun a b c=>d.rows.length≤6∧d.st.length≤1000000∧(∀(l:List Rr),l∈d.rows→smR l∧Bm l)∧ah g g∧ax [e,f,.abs (rkI (dz [] 40 d_1.ra) 40),.abs (rkM [] 6),.cells [.ptr 3 0],.cells [.list (List.map csI (nh d_1.ra)) .no,.I 40]] [b,f,.abs (rkI ra 40),.abs (rkM [] 6),.cells [.ptr 3 0],.cells a]∧K (.tup [.ptr 2 0,.ptr 4 0,.agg a,.list (List.map mtc c) .no]) [b,.cells a,.abs (rkI ra 40),.abs (rkM (aq c) 6),.cells [.ptr 3 0],.cells a])→AcK 7 [.agg (wdC d)] [] K:Prop):=fun K h=>acW (T:=TOP) (L:=[([1,1,1,1,0,1,0],IF),([1,1,1,1,1,1,0,1,0],Iu)]) (fun o=>match o.dst with|some 199=>501002|some _=>0|none=>match o.op with| .store _ (.tmp 4) _=>101002|_=>0) Tryz.func7 (jV) (.cons suE BK (.cons suE CR (.nil _ _ _ _ _))) h
def raP (d:Wd):Prop:=(∀ p∈d.ra,0≤p.1)∧∀ l∈d.rows,Bm l
def opH (n:Nat) (d:Wd):ae:=[.abs (rkI (dz [] 40 d.ra) 40),.abs (rkM (aq (eK d d.rows.length).1) 6),.cells [.ptr (n+1) 0]]
def opV (n:Nat) (d:Wd):List PV:=[.ptr n 0,.ptr (n+2) 0,.agg [.list ((nh d.ra).map csI) .no,.I 40],.list ((eK d d.rows.length).1.map mtc) .no]
def Lg (args:List PV) (H:ae) (K:PV→ae→Prop):Prop:=∃(d:Wd),ah args [.agg (wdC d)]∧mu d=false∧raP d∧K (.tup (opV H.length d)) (H++opH H.length d)
theorem wx {ρ:Nat→Nat} {n m k:Nat} (h1:n+2<m) (h2:ρ n=k) (h3:ρ (n+2)=k+2) (d:Wd):Ren ρ m (.tup (opV n d)) (.tup (opV k d)):=by
 have a:=Ren.ptr (ρ:=ρ) (n:=m) n 0 (by omega)
 have b:=Ren.ptr (ρ:=ρ) (n:=m) (n+2) 0 h1
 rw[h2] at a
 rw[h3] at b
 exact .K3 (.cons a (.cons b (.cons (.low (.agg _ (be (bn lj _) (.int _ _)))) (.cons (.low (bF _)) .nil))))
theorem Kj:SpK 7 (.heap Lg):=by
 rintro args H K ⟨d,he,hg,hp,hk⟩
 have he:args=_:=he
 subst he
 obtain⟨g1,g2,g3,g4⟩:=zh hg
 refine aW ai (X:=[]) (ρ:=fun o=>o) ⟨by simp,by simp,by simp⟩ (aT.low (bu (.agg _ (wV d)))) (bX ai (Je d _ ⟨40,rfl,6,rfl,d,by omega,hp.1,rfl,rfl,d,dz [] 40 d.ra,nh d.ra,g2,by omega,fun l hl=>⟨g4 l hl,hp.2 l hl⟩,rfl,rfl,?_⟩))
 have q0:aL (fun o=>o) ([]:ae).length H.length 0=H.length:=by simp[aL]
 have q1:aL (fun o=>o) ([]:ae).length H.length 1=H.length+1:=by simp[aL]
 have q2:aL (fun o=>o) ([]:ae).length H.length 2=H.length+2:=by simp[aL]
 refine⟨.tup (opV 0 d),opH 0 d,fun o=>o+2,⟨fun o ho=>by simp[opH] at ho ⊢; omega,fun a b _ _ e=>by have e:a+2=b+2:=e; omega,fun o a ho=>?_⟩,by simp,fun o ho=>by simp at ho,wx (n:=0) (Nat.lt_succ_self 2) rfl rfl d,
  .tup (opV H.length d),H++opH H.length d,⟨by simp,by simp[opH],fun o a ho=>?_,fun o hl _=>by rw[List.getElem?_append_left hl]⟩,wx (n:=0) (Nat.lt_succ_self 2) q0 q2 d,hk⟩
 ·have k1:=(List.getElem?_eq_some_iff.1 ho).1
  simp[opH] at k1
  have:o=0∨o=1∨o=2:=by omega
  rcases this with rfl|rfl|rfl
  ·cases ho; exact⟨_,rfl,.abs _⟩
  ·cases ho; exact⟨_,rfl,.abs _⟩
  ·cases ho; exact⟨_,rfl,.cells (.cons (.ptr (ρ:=fun o=>o+2) 1 0 (Nat.lt_succ_of_lt (Nat.lt_succ_self 1))) .nil)⟩
 ·have k1:=(List.getElem?_eq_some_iff.1 ho).1
  simp[opH] at k1
  have:o=0∨o=1∨o=2:=by omega
  rcases this with rfl|rfl|rfl
  ·cases ho; exact⟨_,by rw[q0,List.getElem?_append_right (Nat.le_refl _)]; simp[opH],.abs _,fun h=>h⟩
  ·cases ho; exact⟨_,by rw[q1,List.getElem?_append_right (by omega)]; simp[opH],.abs _,fun h=>h⟩
  ·cases ho
   refine⟨.cells [.ptr (H.length+1) 0],by rw[q2,List.getElem?_append_right (by omega)]; simp[opH],.cells (.cons ?_ .nil),fun h=>h⟩
   have:=Ren.ptr (ρ:=aL (fun o=>o) ([]:ae).length H.length) (n:=3) 1 0 (by decide)
   rw[q1] at this
   exact this
theorem FY {xs ys:List PV} (h:WkL xs ys):∀(q:Nat) (y:PV),ys[q]?=some y→∃ x,xs[q]?=some x∧Wk x y:=by
 induction h with
 | nil=>intro q y h; simp at h
 | cons h _ ih=>
  intro q y hq
  cases q with
  | zero=>simp at hq; subst hq; exact⟨_,rfl,h⟩
  | succ q=>simpa using ih q y (by simpa using hq)
theorem GO {xs ys:List PV} (h:WkL xs ys):xs.length=ys.length:=by
 induction h with
 | nil=>rfl
 | cons _ _ ih=>simp[ih]
theorem Fm {es es':List (List PV)} {t:Tail} (hw:WkL es.flatten es'.flatten) (hl:es.length=es'.length) (hu:∀ e∈es',∀ e'∈es',e.length=e'.length):Wk (.list es t) (.list es' .no):=by
 intro g w v h
 obtain⟨a,cap,rfl,h1,h2,_,h4⟩:=Rel.aP.1 h
 refine Rel.aP.2 ⟨a,cap,by rw[hl],hu,by omega,trivial,h4.imp (fun e=>?_) ?_⟩
 ·have:=GO hw
  rw[e] at this
  exact List.eq_nil_of_length_eq_zero this.symm
 ·rintro⟨A,ha,hn,hr⟩
  refine⟨A,ha,hn,fun q y hq=>?_⟩
  obtain⟨x,hx,hxy⟩:=FY hw q y hq
  obtain⟨j1,c,j2,j3⟩:=hr q x hx
  exact⟨j1,c,j2,hxy _ _ _ j3⟩
def D1 (args:List PV) (H:ae) (K:PV→ae→Prop):Prop:=∃(l:List RwI) (most t v:Int),ah args [.ptr 0 0,.U t,.I v]∧bP H 0 (rkI l most)∧Ok l most∧K (.I (cF l most t v).2) (H.set 0 (.abs (rkI (cF l most t v).1 most)))
theorem GH:SpK 22 (.heap D1):=by
 rintro args H K ⟨l,most,t,v,he,hb,ok,hk⟩
 have he:args=_:=he
 subst he
 exact qE _ H K ⟨l,most,t,v,rfl,hb,ok,hk⟩
def DN (args:List PV) (H:ae) (K:PV→ae→Prop):Prop:=∃(w:List Mt) (m id md ins:Int) (l:List Rr) (x:PV),ah args [.ptr 2 0,.U id,.I md,.U ins,x]∧Wk x (.list (l.map rrc) .no)∧b8 H 2 1 (rkM (aq w) m)∧MO w m∧smR l∧K (.I (dw w m id md ins l).2) (H.set 1 (.abs (rkM (aq (dw w m id md ins l).1) m)))
theorem E7:SpK 24 (.heap DN):=by
 rintro args H K ⟨w,m,id,md,ins,l,x,he,hx,hb,ro,hl,hk⟩
 have he:args=_:=he
 subst he
 exact aY (.cons (.refl _) (.cons (.refl _) (.cons (.refl _) (.cons (.refl _) (.cons hx .nil))))) (v8 _ H K ⟨2,1,w,m,id,md,ins,l,.no,rfl,hb,ro,hl,hk⟩)
def xA (args:List PV) (H:ae) (K:PV→ae→Prop):Prop:=∃(w:List Mt) (m p st un no:Int),ah args [.ptr 2 0,.U p,.I st,.I un,.int .u64 no]∧b8 H 2 1 (rkM (aq w) m)∧MO w m∧K (.I (dK w p st un no).2) (H.set 1 (.abs (rkM (aq (dK w p st un no).1) m)))
theorem D0:SpK 26 (.heap xA):=fun args H K ⟨w,m,p,st,un,no,he,hb,ro,hk⟩=>Cr args H K ⟨2,1,w,m,p,st,un,no,he,hb,ro,hk⟩
def TAW:Tab:=[(20,.heap vu),(21,.heap uy),(22,.heap D1),(24,.heap DN),(26,.heap xA),(10,.heap oh),(33,.read nX)]
theorem KB:TbK TAW:= .cons wL (.cons wB (.cons GH (.cons E7 (.cons D0 (.cons yy (.cons nD (.nil _ _)))))))
theorem KE  : ∀(K:PV→Prop),(∃(n:Int),ah [.int .i64 4] [.int .i64 n]∧∃(n_1:Int),by refine(?_:_→Prop) (Ob.abs (rkM [] (mxI 0 n_1))); exact fun s=>ah [.int .i64 2] [.int .i64 n_1]∧∃(l:List RwI) (most:Int) (t:Int) (v:Int),ah [.ptr 0 0,.int .u32 1,.int .i64 1500] [.ptr 0 0,.int .u32 t,.int .i64 v]∧bP [.abs (rkI [] (mxI 0 n)),s,.cells [.ptr 1 0]] 0 (rkI l most)∧Ok l most∧∃(l_1:List RwI) (most_1:Int) (t_1:Int) (v_1:Int),by refine(?_:_→Prop) (rkI (Prod.fst (cF l_1 most_1 t_1 v_1)) most_1); exact fun o=>ah [.ptr 0 0,.int .u32 2,.int .i64 1500] [.ptr 0 0,.int .u32 t_1,.int .i64 v_1]∧bP [.abs (rkI (Prod.fst (cF l most t v)) most),s,.cells [.ptr 1 0]] 0 (rkI l_1 most_1)∧Ok l_1 most_1∧∃(w:List Mt) (m:Int) (id:Int) (md:Int) (ins:Int) (l:List Rr) (x:PV),ah [.ptr 2 0,.int .u32 9,.int .i64 0,.int .u32 3,.list [[PV.int .i64 1,.list [[PV.int .u32 1]] .exact,.int .i64 0,.int .i64 0],[.int .i64 2,.list [[PV.int .u32 2]] .exact,.int .i64 0,.int .i64 0]] .exact] [.ptr 2 0,.int .u32 id,.int .i64 md,.int .u32 ins,x]∧(∀(g:Gh),∀(w:World),∀(v:Value),Rel g w x v→Rel g w (.list (l.map rrc) .no) v)∧b8 [.abs o,s,.cells [.ptr 1 0]] 2 1 (rkM (aq w) m)∧MO w m∧smR l∧∃(w_1:List Mt) (m_1:Int) (p:Int) (st:Int) (un:Int) (no:Int),ah [.ptr 2 0,.int .u32 1,.int .i64 2,.int .i64 0,.int .u64 0] [.ptr 2 0,.int .u32 p,.int .i64 st,.int .i64 un,.int .u64 no]∧b8 [.abs o,.abs (rkM (aq (Prod.fst (dw w m id md ins l))) m),.cells [.ptr 1 0]] 2 1 (rkM (aq w_1) m_1)∧MO w_1 m_1∧∃(w_2:List Mt) (m_2:Int) (p_1:Int) (st_1:Int) (un_1:Int) (no_1:Int),by refine(?_:_→Prop) [Ob.abs o,.abs (rkM (aq (Prod.fst (dK w_2 p_1 st_1 un_1 no_1))) m_2),.cells [.ptr 1 0]]; exact fun k=>ah [.ptr 2 0,.int .u32 2,.int .i64 2,.int .i64 0,.int .u64 0] [.ptr 2 0,.int .u32 p_1,.int .i64 st_1,.int .i64 un_1,.int .u64 no_1]∧b8 [.abs o,.abs (rkM (aq (Prod.fst (dK w_1 p st un no))) m_1),.cells [.ptr 1 0]] 2 1 (rkM (aq w_2) m_2)∧MO w_2 m_2∧∃(ra:List RwI) (mb:Int) (w_3:List Mt) (m_3:Int) (ins_1:Int) (id_1:Int) (r:Int),by refine(?_:_→Prop) (bU ra mb w_3 ins_1 id_1 r); exact fun d=>by refine(?_:_→_→Prop) (Ob.cells [.int .u32 (Vd.m (Rp.v d)),.int .u32 (Vd.i (Rp.v d)),.int .i64 (Vd.r (Rp.v d)),.list (List.map u1 (Vd.ps (Rp.v d))) .no,.list (List.map i1 (Vd.old (Rp.v d))) .no,.list (List.map i1 (Vd.new (Rp.v d))) .no]) (Ob.cells [.int .u32 (Mt.id (Rp.c d)),.int .i64 (Mt.md (Rp.c d)),.int .u32 (Mt.ins (Rp.c d)),.list (List.map rrc (Mt.rows (Rp.c d))) .no,.list (List.map stc (Mt.aa (Rp.c d))) .no]); exact fun h j=>by refine(?_:_→Prop) [Ob.abs (rkI (Rp.ra d) mb),.abs (rkM (aq (Rp.w d)) m_3),.cells [.ptr 1 0],h,j]; exact fun f=>ah [.int .u32 3,.int .u32 9,.int .i64 1] [.int .u32 ins_1,.int .u32 id_1,.int .i64 r]∧bP k 0 (rkI ra mb)∧b8 k 2 1 (rkM (aq w_3) m_3)∧0≠1∧Ok ra mb∧MO w_3 m_3∧∃(ra_1:List RwI) (mb_1:Int) (w_4:List Mt) (m_4:Int) (ins_2:Int) (id_2:Int) (r_1:Int),by refine(?_:_→Prop) (bU ra_1 mb_1 w_4 ins_2 id_2 r_1); exact fun b=>by refine(?_:_→Prop) [Ob.abs (rkI (Rp.ra b) mb_1),.abs (rkM (aq (Rp.w b)) m_4),.cells [.ptr 1 0],h,j,.cells [.int .u32 (Vd.m (Rp.v b)),.int .u32 (Vd.i (Rp.v b)),.int .i64 (Vd.r (Rp.v b)),.list (List.map u1 (Vd.ps (Rp.v b))) .no,.list (List.map i1 (Vd.old (Rp.v b))) .no,.list (List.map i1 (Vd.new (Rp.v b))) .no],.cells [.int .u32 (Mt.id (Rp.c b)),.int .i64 (Mt.md (Rp.c b)),.int .u32 (Mt.ins (Rp.c b)),.list (List.map rrc (Mt.rows (Rp.c b))) .no,.list (List.map stc (Mt.aa (Rp.c b))) .no]]; exact fun a=>ah [.int .u32 3,.int .u32 9,.int .i64 1] [.int .u32 ins_2,.int .u32 id_2,.int .i64 r_1]∧bP f 0 (rkI ra_1 mb_1)∧b8 f 2 1 (rkM (aq w_4) m_4)∧0≠1∧Ok ra_1 mb_1∧MO w_4 m_4∧∃(q:Nat) (l_2:List RwI) (most:Int) (t:Int),ah [.ptr 0 0,.int .u32 1] [.ptr q 0,.int .u32 t]∧bP a q (rkI l_2 most)∧Ok l_2 most∧∃(q:Nat) (l_3:List RwI) (most:Int) (t_2:Int),ah [.ptr 0 0,.int .u32 2] [.ptr q 0,.int .u32 t_2]∧bP a q (rkI l_3 most)∧Ok l_3 most∧br ((Prod.snd (dw w m id md ins l) == 0) == true) (br ((Rp.e d == 0) == true) (br ((Rp.e b == 12) == true) (br ((bC l_2 t == 1516) == true) (K (.bool (bC l_3 t_2 == 1484))) (K (.bool false))) (K (.bool false))) (K (.bool false))) (K (.bool false)))→AcK 14 [] [] (fun x _=>K x):=fun K h=>acW (T:=TAW) (L:=[]) (fun _=>0) Tryz.func14 (KB) (LOk.nil _ _ _ _ _) h
def wR (t:Int) (l:List Int):Rr:=⟨t,l,0,0⟩
def ba1:List RwI:=(cF [] 4 1 1500).1
def ba2:List RwI:=(cF ba1 4 2 1500).1
def wk1:List Mt:=(dw [] 2 9 0 3 [wR 1 [1],wR 2 [2]]).1
def wk2:List Mt:=(dK wk1 1 2 0 0).1
def wk3:List Mt:=(dK wk2 2 2 0 0).1
def wp1:Rp:=bU ba2 4 wk3 3 9 1
def wp2:Rp:=bU wp1.ra 4 wp1.w 3 9 1
theorem zT:Ok ([]:List RwI) 4:=Ok.none (by decide) (by decide)
theorem BP:Ok ba1 4:=zT.put _ _
theorem CG:Ok ba2 4:=BP.put _ _
theorem zZ:MO [] 2:=MO.nil (by decide) (by decide)
theorem Dj:MO wk1 2:=zZ.make _ _ _ _
theorem AL:MO wk2 2:=Dj.set _ _ _ _
theorem C5:MO wk3 2:=AL.set _ _ _ _
theorem rV:Ok wp1.ra 4∧MO wp1.w 2:=oW CG C5 _ _ _
theorem AD:Ok wp2.ra 4∧MO wp2.w 2:=oW rV.1 rV.2 _ _ _
theorem JW {l:List Rr} (h:(decide (l.length≤100) && l.all fun r=>decide (r.pl.length≤100))=true):smR l:=by
 rw[Bool.and_eq_true,decide_eq_true_eq,List.all_eq_true] at h
 exact⟨h.1,fun r hr=>of_decide_eq_true (h.2 r hr)⟩
theorem LC {l:List Int} {t:Tail}:Wk (.list (l.map u1) t) (.list (l.map u1) .no):= .list _ _
theorem ve:AcK 14 [] [] (fun x _=>x = .bool true):=by
 refine KE (fun x=>x = .bool true) ⟨4,rfl,2,rfl,[],4,1,1500,rfl,rfl,zT,ba1,4,2,1500,rfl,rfl,BP,[],2,9,0,3,[wR 1 [1],wR 2 [2]],_,rfl,Fm (es':=[wR 1 [1],wR 2 [2]].map rrc) (.cons (.refl _) (.cons (LC (l:=[1])) (.cons (.refl _) (.cons (.refl _) (.cons (.refl _) (.cons (LC (l:=[2])) (.cons (.refl _) (.cons (.refl _) .nil)))))))) rfl (by decide),⟨rfl,rfl⟩,zZ,JW (by decide),
  wk1,2,1,2,0,0,rfl,⟨rfl,rfl⟩,Dj,wk2,2,2,2,0,0,rfl,⟨rfl,rfl⟩,AL,ba2,4,wk3,2,3,9,1,rfl,rfl,⟨rfl,rfl⟩,by decide,CG,C5,wp1.ra,4,wp1.w,2,3,9,1,rfl,rfl,⟨rfl,rfl⟩,by decide,rV.1,rV.2,0,wp2.ra,4,1,rfl,rfl,AD.1,0,wp2.ra,4,2,rfl,rfl,AD.1,?_⟩
 simp only[ar]
 rw[if_pos (by kernel_rfl),if_pos (by kernel_rfl),if_pos (by kernel_rfl),if_pos (by kernel_rfl)]
 kernel_rfl
def v7 (args:List PV) (K:PV→Prop):Prop:=ah args []∧K (.bool true)
theorem Cx:SpK 14 (.pure v7):=by
 rintro args K ⟨he,hk⟩
 have he:args=_:=he
 subst he
 exact bw ai .nil (fun _ h=>nomatch h) (.bool _) ve hk
theorem uF (w:List RwI) (m:Int) (t b:Int) (i:Nat):(by refine(?_:_→_→_→_→Prop) (List.drop 0 (List.getD (w.map csI) (Int.toNat (i:Int)) [])) [Ob.cells [.list (w.map csI) .no,.I m]] [PV.U t,.ptr 0 0,.U 0,.bool false,.U b,.I i] (PV.I (wI ((i:Int)+1))); exact fun d f g h=>∀(R:Ex→List PV→ae→Prop),by refine(?_:_→_→Prop) (R .normal [.U t,.ptr 0 0,.U 0,.bool false,.U (cI d 0),h] f) (R .normal [.U t,.ptr 0 0,.U 0,.bool false,.U b,h] f); exact fun a c=>(br (decide ((i:Int)<(↑(List.length (w.map csI)):Int))) (InL (w.map csI) 2 (i:Int)∧br (true && aE [.int .u32] 0 d) (br (decide (cI d 0>t) == true) (br ((b == 0) == false) (br (decide (cI d 0<b)) a c) a) c) False) (R (.exit 0) g f))→Holds (wpK [] [] (fun _=>0) (aj [1,1,0,1,0] (ag Tryz.f66)) [] (an [1,2,4,5,6,7] g) f (fun ex e H=>R ex (List.map e [1,2,4,5,6,7]) H)):Prop):=fun R h=>hoE h
theorem vb (w:List RwI) (m:Int) (t:Int):(by refine(?_:_→Prop) [PV.agg [.list (w.map csI) .no,.I m],.U t]; exact fun b=>∀(K:PV→Prop),(∃(w_1:List RwI) (m_1:Int) (t_1:Int),by refine(?_:_→Prop) (List.drop 1 (List.getD (w.map csI) (Int.toNat (hM w_1 t_1)) [])); exact fun a=>ah b [.agg [.list (w_1.map csI) .no,.I m_1],.U t_1]∧w_1.length≤1000000∧br (decide (hM w_1 t_1<0)) (K (.tup [.I 0,.bool false])) (InL (w.map csI) 2 (hM w_1 t_1)∧br (true && aE [.int .i64] 0 a) (K (.tup [.I (cI a 0),.bool true])) False))→AcK 34 b [] (fun x _=>K x):Prop):=fun K h=>acW (T:=Kn) (L:=[]) (fun _=>0) Tryz.func34 (w9) (LOk.nil _ _ _ _ _) h
theorem uv (v:Int) (b:Bool):Low 0 (.tup [.I v,.bool b]):= .tup _ (by intro y hy; simp only[List.mem_cons,List.not_mem_nil,or_false] at hy; rcases hy with rfl|rfl; exact .int _ _; exact .bool _)
def n8 (args:List PV) (K:PV→Prop):Prop:=∃(w:List RwI) (m t:Int),ah args [.agg [.list (w.map csI) .no,.I m],.U t]∧w.length≤1000000∧K (.tup [.I (eX w t),.bool (eC w t)])
theorem qv:SpK 34 (.pure n8):=by
 rintro args K ⟨w,m,t,he,hl,hk⟩
 have he:args=_:=he
 subst he
 refine b9 ai (mT w m t) (uv _ _) (vb w m t (fun x=>x = .tup [.I (eX w t),.bool (eC w t)]) ⟨w,m,t,rfl,hl,?_⟩) hk
 rw[ar,mN]
 unfold eX
 by_cases c:fiW w t<w.length
 ·have hh:eC w t=true:=decide_eq_true c
  rw[hh,if_neg (by decide),if_pos c]
  have e:hM w t=(fiW w t:Int):=by unfold hM; rw[if_pos c]
  rw[e,iK,ak,getD_map default c]
  refine⟨c,?_⟩
  rw[ar,if_pos (by rfl)]
  rfl
 ·have hh:eC w t=false:=decide_eq_false c
  rw[hh,if_pos (by decide),if_neg c]
  rfl
def qq:LSp:=fun e H Q=>∃(w:List RwI) (m t:Int),w.length≤1000000∧ah (List.map e [1,2,4,5,6,7]) [.U t,.ptr 0 0,.U 0,.bool false,.U 0,.I 0]∧ax H [.cells [.list (w.map csI) .no,.I m]]∧
 Q (.exit 0) (an [1,2,4,5,6,7] [.U t,.ptr 0 0,.U 0,.bool false,.U (cf w t),.I w.length]) [.cells [.list (w.map csI) .no,.I m]]
theorem qS:∀ e H Q,qq e H Q→AwK Tryz.f66.ntmps (.loop (aj [1,1,0,1,0] (ag Tryz.f66))) Q e H:=by
 rintro e H Q ⟨w,m,t,hl,he,hH,hx⟩
 refine aB (hn:=fun _=>0) ai (.nil _ _) (.nil _ _ _ _ _) (σ:=Nat) [1,2,4,5,6,7] (fun i=>i≤w.length)
  (fun i=>[.U t,.ptr 0 0,.U 0,.bool false,.U (cf (w.take i) t),.I i]) (fun _=>[.cells [.list (w.map csI) .no,.I m]]) (fun i=>w.length-i) 0 (Nat.zero_le _) he hH ?_
 intro i hi
 refine uF w m t _ i _ ?_
 simp only[ar,dt,bt,bf,List.length_map]
 by_cases h:i<w.length
 ·rw[if_pos (by omega),iK,ak,getD_map default h]
  refine⟨h,?_⟩
  rw[if_pos (by rfl),List.drop_zero]
  have hc:cI (csI (w.getD i default)) 0=(w.getD i default).id:=rfl
  rw[hc]
  have hs:cf (w.take (i+1)) t=dQ t (cf (w.take i) t) (w.getD i default):=by
   unfold cf; rw[aK default h,List.foldl_append]; rfl
  have fin:∀ b,b=cf (w.take (i+1)) t→Ek Q [1,2,4,5,6,7] (fun i=>i≤w.length) (fun i=>[.U t,.ptr 0 0,.U 0,.bool false,.U (cf (w.take i) t),.I i]) (fun _=>[.cells [.list (w.map csI) .no,.I m]]) (fun i=>w.length-i) i .normal [.U t,.ptr 0 0,.U 0,.bool false,.U b,.I (wI ((i:Int)+1))] [.cells [.list (w.map csI) .no,.I m]]:=by
   rintro b rfl
   exact⟨i+1,(show w.length-(i+1)<w.length-i by omega),h,by rw[au h (by omega)],[],rfl,Nat.le_refl _,.inl rfl⟩
  rw[hs] at fin
  unfold dQ at fin
  by_cases c:(w.getD i default).id>t
  ·rw[if_pos c] at fin
   rw[if_pos c]
   by_cases c2:cf (w.take i) t=0
   ·rw[if_pos c2] at fin
    rw[if_neg (by simpa using c2)]
    exact fin _ rfl
   ·rw[if_neg c2] at fin
    rw[if_pos (by simpa using c2)]
    by_cases c3:(w.getD i default).id<cf (w.take i) t
    ·rw[if_pos c3] at fin
     rw[if_pos c3]
     exact fin _ rfl
    ·rw[if_neg c3] at fin
     rw[if_neg c3]
     exact fin _ rfl
  ·rw[if_neg c] at fin
   rw[if_neg c]
   exact fin _ rfl
 ·rw[if_neg (by omega)]
  have hi':i≤w.length:=hi
  have:i=w.length:=by omega
  subst this
  rw[List.take_length]
  exact hx
theorem sg (w:List RwI) (m:Int) (t:Int)  (K:PV→Prop) (h:∃(w_1:List RwI) (m_1:Int) (t_1:Int),List.length w_1≤1000000∧ah [.U t,.ptr 0 0,.U 0,.bool false,.U 0,.I 0] [.U t_1,.ptr 0 0,.U 0,.bool false,.U 0,.I 0]∧ax [.cells [.list (List.map csI w) .no,.I m]] [.cells [.list (List.map csI w_1) .no,.I m_1]]∧K (.tup [.U (cf w_1 t_1),.bool (cf w_1 t_1 != 0)])):AcK 66 [.agg [.list (w.map csI) .no,.I m],.U t] [] (fun x _=>K x):=
 acW (T:=[]) (L:=[([1,1,0,1,0],qq)]) (fun _=>0) Tryz.func66 (aV.nil _ _) (.cons suE qS (.nil _ _ _ _ _)) h
def qz (args:List PV) (K:PV→Prop):Prop:=∃(w:List RwI) (m t:Int),ah args [.agg [.list (w.map csI) .no,.I m],.U t]∧w.length≤1000000∧K (.tup [.U (cf w t),.bool (cf w t != 0)])
theorem ur:SpK 66 (.pure qz):=by
 rintro args K ⟨w,m,t,he,hl,hk⟩
 have he:args=_:=he
 subst he
 exact b9 ai (by intro x hx; simp only[List.mem_cons,List.not_mem_nil,or_false] at hx; rcases hx with rfl|rfl; exact da w m; exact .int _ _) (.tup _ (by intro y hy; simp only[List.mem_cons,List.not_mem_nil,or_false] at hy; rcases hy with rfl|rfl; exact .int _ _; exact .bool _)) (sg w m t (fun x=>x = .tup [.U (cf w t),.bool (cf w t != 0)]) ⟨w,m,t,hl,rfl,rfl,rfl⟩) hk
def xh:Tab:=[(66,.pure qz)]
theorem sK:TbK xh:= .cons ur (.nil _ _)
theorem uU (w:List RwI) (m:Int) (x:Int) (b:Bool):(by refine(?_:_→_→Prop) [PV.list (w.map csI) .no,.I m] [PV.ptr 0 0,.E,.U x,.bool b]; exact fun a c=>∀(R:Ex→List PV→ae→Prop),(br b (aS [] [[PV.U x]] 1 4∧(List.all [.U x] PV.one=true∧[[PV.U x]]≠[])∧∃(w_1:List RwI) (m_1:Int) (t:Int),ah [.agg a,.U x] [.agg [.list (w_1.map csI) .no,.I m_1],.U t]∧w_1.length≤1000000∧R .normal [.ptr 0 0,.list [[PV.U x]] (.tok 1),.U (cf w_1 t),.bool (cf w_1 t != 0)] [.cells a,.tok]) (R (.exit 0) c [.cells a]))→Holds (wpK xh [] (fun o=>match o.dst with|some 15=>1|_=>0) (aj [1,1,1,0,0] (ag Tryz.f28)) [] (an [1,3,4,5] c) [.cells a] (fun ex e H=>R ex (List.map e [1,3,4,5]) H)):Prop):=fun R h=>hoE h
theorem uK (w:List RwI) (m:Int) (es:List (List PV)) (x:Int) (b:Bool):(by refine(?_:_→_→Prop) [PV.list (w.map csI) .no,.I m] [PV.ptr 0 0,.list es (.tok 1),.U x,.bool b]; exact fun a c=>∀(R:Ex→List PV→ae→Prop),(br b (aS es [[PV.U x]] 1 4∧(List.all [.U x] PV.one=true∧[[PV.U x]]≠[])∧∃(w_1:List RwI) (m_1:Int) (t:Int),ah [.agg a,.U x] [.agg [.list (w_1.map csI) .no,.I m_1],.U t]∧w_1.length≤1000000∧R .normal [.ptr 0 0,.list (es++[[PV.U x]]) (.tok 2),.U (cf w_1 t),.bool (cf w_1 t != 0)] [.cells a,.dead,.tok]) (R (.exit 0) c [.cells a,.tok]))→Holds (wpK xh [] (fun o=>match o.dst with|some 15=>1|_=>0) (aj [1,1,1,0,0] (ag Tryz.f28)) [] (an [1,3,4,5] c) [.cells a,.tok] (fun ex e H=>R ex (List.map e [1,3,4,5]) H)):Prop):=fun R h=>hoE h
theorem mY {l:List RwI} {i:Nat} (h:i<l.length):(l.take (i+1)).map (fun r:RwI=>[PV.U r.id])=(l.take i).map (fun r:RwI=>[PV.U r.id])++[[.U (gY l i)]]:=by
 have:=l7 h
 unfold bL at this
 rw[this]
 unfold gY
 rw[if_pos h]
theorem pg {l w:List RwI} {most:Int} (h:cX l w most):w.length≤1000000:=by rw[h.len]; exact h.ok.len
def sy:LSp:=fun e H Q=>∃(l w:List RwI) (m most:Int),cX l w most∧ah (List.map e [1,3,4,5]) [.ptr 0 0,.E,.U (cf w 0),.bool (cf w 0 != 0)]∧ax H [.cells [.list (w.map csI) .no,.I m]]∧
 Q (.exit 0) (an [1,3,4,5] [.ptr 0 0,.list (bL l) .no,.U 0,.bool false]) [.cells [.list (w.map csI) .no,.I m],.dead]
theorem tr:∀ e H Q,sy e H Q→AwK Tryz.f28.ntmps (.loop (aj [1,1,1,0,0] (ag Tryz.f28))) Q e H:=by
 rintro e H Q ⟨l,w,m,most,lk,he,hH,hQ⟩
 have hH2:H=_:=hH
 have hwl:=pg lk
 have hll:=lk.ok.len
 have hnx:∀ k,k<l.length→cf w (gY l k)=gY l (k+1):=fun k hk=>lk.atS hk
 refine rA (f:=fun r:RwI=>[PV.U r.id]) (T:=l) (hn:=fun o=>match o.dst with|some 15=>1|_=>0) ai sK (.nil _ _ _ _ _) [1,3,4,5] (fun r i=>[.ptr 0 0,r,.U (gY l i),.bool (decide (i<l.length))]) [.cells [.list (w.map csI) .no,.I m]]
  (by intro o cs ho; have:o=0:=by { have:=(List.getElem?_eq_some_iff.1 ho).1; simp at this; omega }; subst this; cases ho; exact gp w m) (fun b _ x hx=>by rcases List.mem_singleton.1 hx with rfl; exact .int _ _)
  (fun es i k h=> .same (.ptr _ _ (by simp)) (.row h (.same (.int _ _) (.same (.bool _) .nil)))) (by rw[he,← lk.at0,← nS lk,lk.at0]) hH2 ?_ ?_
 ·refine uU w m _ _ _ ?_
  simp only[ar]
  by_cases h:0<l.length
  ·rw[if_pos (decide_eq_true h)]
   refine⟨⟨(by intro e he; simp at he),(by intro e he; simp at he; subst he; rfl),by simp⟩,⟨by rfl,by simp⟩,w,m,gY l 0,rfl,hwl,h,_,1,rfl,rfl,by simp,?_⟩
   rw[hnx 0 h,nS lk,mY h]; rfl
  ·rw[if_neg (by simpa using h)]
   have hm:l=[]:=List.eq_nil_of_length_eq_zero (by omega)
   subst hm
   exact⟨_,_,.cons (.refl _) (.cons (.list _ _) (.cons (.refl _) (.cons (.refl _) .nil))),dS _,hQ⟩
 ·intro i h0 hi
  refine uK w m _ _ _ _ ?_
  simp only[ar]
  by_cases h:i<l.length
  ·rw[if_pos (decide_eq_true h)]
   refine⟨⟨(by intro e he; obtain⟨a,_,rfl⟩:=List.mem_map.1 he; rfl),(by intro e he; simp at he; subst he; rfl),by simp only[List.length_map,List.length_take,List.length_cons,List.length_nil]; omega⟩,⟨by rfl,by simp⟩,w,m,gY l i,rfl,hwl,h,_,2,rfl,rfl,by simp,?_⟩
   rw[hnx i h,nS lk,mY h]
  ·rw[if_neg (by simpa using h)]
   have hm:i=l.length:=by omega
   subst hm
   rw[List.take_length]
   have e1:gY l l.length=0:=by unfold gY; rw[if_neg (Nat.lt_irrefl _)]
   rw[e1,decide_eq_false (Nat.lt_irrefl _)]
   exact⟨_,_,.cons (.refl _) (.cons (.list _ _) (.cons (.refl _) (.cons (.refl _) .nil))),eL [.cells [.list (w.map csI) .no,.I m]] .tok,hQ⟩
theorem vK (w:List RwI) (m:Int):(by refine(?_:_→Prop) [PV.list (w.map csI) .no,.I m]; exact fun a=>∀(K:PV→Prop),(∃(w_1:List RwI) (m_1:Int) (t:Int),ah [.agg a,.U 0] [.agg [.list (w_1.map csI) .no,.I m_1],.U t]∧w_1.length≤1000000∧∃(l:List RwI) (w_2:List RwI) (m_2:Int) (most:Int),cX l w_2 most∧ah [.ptr 0 0,.E,.U (cf w_1 t),.bool (cf w_1 t != 0)] [.ptr 0 0,.E,.U (cf w_2 0),.bool (cf w_2 0 != 0)]∧ax [.cells a] [.cells [.list (w_2.map csI) .no,.I m_2]]∧K (.list (bL l) .no))→AcK 28 [.agg a] [] (fun x _=>K x):Prop):=fun K h=>acW (T:=xh) (L:=[([1,1,1,0,0],sy)]) (fun o=>match o.dst with|some 15=>1|_=>0) Tryz.func28 (sK) (.cons suE tr (.nil _ _ _ _ _)) h
theorem rC (w:List RwI) (m:Int):∀ x∈[PV.agg [.list (w.map csI) .no,.I m]],Low 0 x:=by
 intro x hx
 rcases List.mem_singleton.1 hx with rfl
 exact da w m
def tn (args:List PV) (K:PV→Prop):Prop:=∃(l w:List RwI) (m most:Int),ah args [.agg [.list (w.map csI) .no,.I m]]∧cX l w most∧K (.list (bL l) .no)
theorem yU:SpK 28 (.pure tn):=by
 rintro args K ⟨l,w,m,most,he,lk,hk⟩
 have he:args=_:=he
 subst he
 exact b9 ai (rC w m) (tB l) (vK w m (fun x=>x = .list (bL l) .no) ⟨w,m,0,rfl,pg lk,l,w,m,most,lk,rfl,rfl,rfl⟩) hk
theorem LQ (c:Mt) (k:Int) (i:Nat):(by refine(?_:_→_→_→_→Prop) (List.getD (c.aa.map stc) (Int.toNat (i:Int)) []) (Ob.cells [.U c.id,.I c.md,.U c.ins,.list (c.rows.map rrc) .no,.list (c.aa.map stc) .no]) [PV.I k,.ptr 0 0,.E,.I i] (PV.I (wI ((i:Int)+1))); exact fun d f h l=>by refine(?_:_→_→Prop) [[PV.U (cI d 0)]] (PV.U (cI d 0)); exact fun j m=>by refine(?_:_→Prop) (Ob.cells [m,.I (cI d 1),.I (cI d 2),.I (cI d 3),.I (cI d 4),.int .u64 (cI d 5)]); exact fun g=>∀(R:Ex→List PV→ae→Prop),by refine(?_:_→_→Prop) (aS [] j 1 4∧(List.all [m] PV.one=true∧j≠[])∧R .normal [.I k,.ptr 0 0,.list j (.tok 2),l] [f,g,.tok]) (R .normal [.I k,.ptr 0 0,.E,l] [f,g]); exact fun a b=>(br (decide ((i:Int)<(↑(List.length (c.aa.map stc)):Int))) (InL (c.aa.map stc) 6 (i:Int)∧br (true && aE [.int .u32,.int .i64,.int .i64,.int .i64,.int .i64,.int .u64] 0 d) (br ((cI d 1 == k) == true) (br ((cI d 3 == 2) == false) (br (cI d 3 == 3) a b) a) b) False) (R (.exit 0) h [f]))→Holds (wpK [] [] (fun o=>match o.dst with|some 38=>1|_=>0) (aj [1,1,0,1,0] (ag Tryz.f46)) [] (an [1,2,5,6] h) [.cells (mtc c)] (fun ex e H=>R ex (List.map e [1,2,5,6]) H)):Prop):=fun R h=>hoE h
def TRR:Tab:=[(34,.pure n8)]
theorem DE:TbK TRR:= .cons qv (.nil _ _)
theorem KD (w:List RwI) (m:Int) (l:List Int) (i:Nat):(by refine(?_:_→_→_→Prop) [PV.list (l.map u1) .no,.ptr 0 0,.E,.bool false,.E,.I i] [PV.list (w.map csI) .no,.I m] (List.getD (l.map u1) (Int.toNat (i:Int)) []); exact fun b c d=>∀(R:Ex→List PV→ae→Prop),(br (decide ((i:Int)<(↑(List.length (l.map u1)):Int))) (InL (l.map u1) 1 (i:Int)∧br (true && aE [.int .u32] 0 d) (∃(w_1:List RwI) (m_1:Int) (t:Int),by refine(?_:_→Prop) [[PV.I (eX w_1 t)]]; exact fun a=>ah [.agg c,.U (cI d 0)] [.agg [.list (w_1.map csI) .no,.I m_1],.U t]∧w_1.length≤1000000∧br (!eC w_1 t) (R .ret b [.cells c]) (aS [] a 1 8∧(List.all [.I (eX w_1 t)] PV.one=true∧a≠[])∧R .normal [.list (l.map u1) .no,.ptr 0 0,.E,.bool false,.list a (.tok 1),.I (wI ((i:Int)+1))] [.cells c,.tok])) False) (R (.exit 0) b [.cells c]))→Holds (wpK TRR [] (fun o=>match o.dst with|some 30=>1|_=>0) (aj [1,1,0,1,0] (ag Tryz.f47)) [] (an [1,2,4,5,6,7] b) [.cells c] (fun ex e H=>R ex (List.map e [1,2,4,5,6,7]) H)):Prop):=fun R h=>hoE h
theorem Jq (w:List RwI) (m:Int) (l:List Int) (es:List (List PV)) (i:Nat):(by refine(?_:_→_→_→Prop) [PV.list (l.map u1) .no,.ptr 0 0,.E,.bool false,.list es (.tok 1),.I i] [PV.list (w.map csI) .no,.I m] (List.getD (l.map u1) (Int.toNat (i:Int)) []); exact fun b c d=>∀(R:Ex→List PV→ae→Prop),(br (decide ((i:Int)<(↑(List.length (l.map u1)):Int))) (InL (l.map u1) 1 (i:Int)∧br (true && aE [.int .u32] 0 d) (∃(w_1:List RwI) (m_1:Int) (t:Int),by refine(?_:_→Prop) [[PV.I (eX w_1 t)]]; exact fun a=>ah [.agg c,.U (cI d 0)] [.agg [.list (w_1.map csI) .no,.I m_1],.U t]∧w_1.length≤1000000∧br (!eC w_1 t) (R .ret b [.cells c,.tok]) (aS es a 1 8∧(List.all [.I (eX w_1 t)] PV.one=true∧a≠[])∧R .normal [.list (l.map u1) .no,.ptr 0 0,.E,.bool false,.list (es++a) (.tok 2),.I (wI ((i:Int)+1))] [.cells c,.dead,.tok])) False) (R (.exit 0) b [.cells c,.tok]))→Holds (wpK TRR [] (fun o=>match o.dst with|some 30=>1|_=>0) (aj [1,1,0,1,0] (ag Tryz.f47)) [] (an [1,2,4,5,6,7] b) [.cells c,.tok] (fun ex e H=>R ex (List.map e [1,2,4,5,6,7]) H)):Prop):=fun R h=>hoE h
theorem IU {l:List Int} {i:Int}:∀ v∈[.list (l.map u1) .no,.ptr 0 0,.E,.bool false,.E,.I i],Low 1 v:=by
 intro v hv
 simp only[List.mem_cons,List.not_mem_nil,or_false] at hv
 rcases hv with rfl|rfl|rfl|rfl|rfl|rfl
 ·exact bn bG _
 ·exact .ptr _ _ (by decide)
 ·exact o7
 ·exact .bool _
 ·exact o7
 ·exact .int _ _
def Lp:LSp:=fun e H Q=>∃(w:List RwI) (m:Int) (l:List Int),l.length≤1000000∧w.length≤1000000∧ah (List.map e [1,2,4,5,6,7]) [.list (l.map u1) .no,.ptr 0 0,.E,.bool false,.E,.I 0]∧ax H [.cells [.list (w.map csI) .no,.I m]]∧((∀ p∈l,eC w p=true)→Q (.exit 0) (an [1,2,4,5,6,7] [.list (l.map u1) .no,.ptr 0 0,.E,.bool false,.list ((l.map (eX w)).map i1) .no,.I l.length]) ([.cells [.list (w.map csI) .no,.I m]]++[.dead]))∧(¬ (∀ p∈l,eC w p=true)→∀(es:List (List PV)) (i:Int),Q .ret (an [1,2,4,5,6,7] [.list (l.map u1) .no,.ptr 0 0,.E,.bool false,.list es .no,.I i]) ([.cells [.list (w.map csI) .no,.I m]]++[.dead]))
theorem EU:∀ e H Q,Lp e H Q→AwK Tryz.f47.ntmps (.loop (aj [1,1,0,1,0] (ag Tryz.f47))) Q e H:=by
 rintro e H Q ⟨w,m,l,hl,hwl,he,hH,hQ0,hQ1⟩
 have hH:H=_:=hH
 refine ga (f:=i1) (acc:=fun i=>(l.take i).map (eX w)) (I:=fun i=>i≤l.length∧∀ p∈l.take i,eC w p=true) (m:=fun i=>l.length-i) (hn:=fun o=>match o.dst with|some 30=>1|_=>0) ai DE (.nil _ _ _ _ _) [1,2,4,5,6,7] (fun T i=>[.list (l.map u1) .no,.ptr 0 0,.E,.bool false,T,.I i]) [.cells [.list (w.map csI) .no,.I m]] (0:Nat)
  (nn (by intro ob ho; rcases List.mem_singleton.1 ho with rfl; exact gp w m)) (fun _ _ a _=>gO a) (fun es i j _ h=> .same (bn bG _) (.same (.ptr _ _ (by simp)) (.same o7 (.same (.bool _) (.row h (.same (.int _ _) .nil)))))) (fun _ _=>IU) ⟨Nat.zero_le _,fun _ h=>nomatch h⟩ rfl he hH ?_ ?_
 all_goals
  rintro i ⟨hi,hall⟩ ha
  have hbl:((l.take i).map (eX w)).length≤1000000:=by rw[List.length_map,List.length_take]; omega
 ·refine KD w m l i _ ?_
  simp only[ar,dt,ak,List.length_map,de]
  by_cases h:i<l.length
  ·rw[if_pos (by omega)]
   obtain⟨p,hp⟩:∃ p,p=l.getD i 0:=⟨_,rfl⟩
   have cu:∀ z:Int,cI (u1 z) 0=z:=fun _=>rfl
   have hs:(l.take (i+1)).map (eX w)=(l.take i).map (eX w)++[eX w p]:=by rw[aK 0 h,← hp,List.map_append]; rfl
   simp only[getD_map 0 h,← hp,cu]
   refine⟨h,?_⟩
   rw[if_pos (by rfl)]
   refine⟨w,m,p,rfl,hwl,?_⟩
   by_cases c:eC w p=true
   ·rw[if_neg (by rw[c]; decide)]
    have hall2:∀ q∈l.take (i+1),eC w q=true:=by
     intro q hq
     rw[aK 0 h,← hp] at hq
     rcases List.mem_append.1 hq with k|k
     ·exact hall q k
     ·rw[List.mem_singleton.1 k]; exact c
    exact⟨aG (f:=i1) (l:=[]) (by_:=8) (fun _=>rfl) (eX w p) (by show(0+1)*8≤_; decide),one_row (f:=i1) ij (eX w p),aX (i+1) (show l.length-(i+1)<l.length-i by omega) ⟨h,hall2⟩ hs (nr _ _) [.tok] 1 rfl rfl (by simp) (by rw[ha,au h (by omega)]; rfl)⟩
   ·rw[if_pos (by rw[eq_false_of_ne_true c]; rfl)]
    exact⟨_,_,(.cons (.refl _) (.cons (.refl _) (.cons (.refl _) (.cons (.refl _) (.cons (.list _ _) (.cons (.refl _) .nil)))))),dS _,hQ1 (fun hA=>c (hA p (by rw[hp]; exact aU h))) _ _⟩
  ·rw[if_neg (by omega)]
   have:i=l.length:=by omega
   subst this
   simp only[List.take_length] at ha hall
   have hQ0:=hQ0 hall
   rw[ha] at hQ0
   exact bV (.cons (.refl _) (.cons (.refl _) (.cons (.refl _) (.cons (.refl _) (.cons (.list _ _) (.cons (.refl _) .nil)))))) (dS _) hQ0
 ·refine Jq w m l (((l.take i).map (eX w)).map i1) i _ ?_
  simp only[ar,dt,ak,List.length_map,de]
  by_cases h:i<l.length
  ·rw[if_pos (by omega)]
   obtain⟨p,hp⟩:∃ p,p=l.getD i 0:=⟨_,rfl⟩
   have cu:∀ z:Int,cI (u1 z) 0=z:=fun _=>rfl
   have hs:(l.take (i+1)).map (eX w)=(l.take i).map (eX w)++[eX w p]:=by rw[aK 0 h,← hp,List.map_append]; rfl
   simp only[getD_map 0 h,← hp,cu]
   refine⟨h,?_⟩
   rw[if_pos (by rfl)]
   refine⟨w,m,p,rfl,hwl,?_⟩
   by_cases c:eC w p=true
   ·rw[if_neg (by rw[c]; decide)]
    have hall2:∀ q∈l.take (i+1),eC w q=true:=by
     intro q hq
     rw[aK 0 h,← hp] at hq
     rcases List.mem_append.1 hq with k|k
     ·exact hall q k
     ·rw[List.mem_singleton.1 k]; exact c
    exact⟨aG (f:=i1) (by_:=8) (fun _=>rfl) ((l.take i).map (eX w)) (eX w p) (by omega),one_row (f:=i1) ij (eX w p),aX (i+1) (show l.length-(i+1)<l.length-i by omega) ⟨h,hall2⟩ hs (nr _ _) [.dead,.tok] 2 rfl rfl (by simp) (by rw[au h (by omega),List.map_append]; rfl)⟩
   ·rw[if_pos (by rw[eq_false_of_ne_true c]; rfl)]
    exact⟨_,_,(.cons (.refl _) (.cons (.refl _) (.cons (.refl _) (.cons (.refl _) (.cons (.list _ _) (.cons (.refl _) .nil)))))),eL [.cells [.list (w.map csI) .no,.I m]] .tok,hQ1 (fun hA=>c (hA p (by rw[hp]; exact aU h))) _ _⟩
  ·rw[if_neg (by omega)]
   have:i=l.length:=by omega
   subst this
   simp only[List.take_length] at hall ⊢
   exact bV (.cons (.refl _) (.cons (.refl _) (.cons (.refl _) (.cons (.refl _) (.cons (.list _ _) (.cons (.refl _) .nil)))))) (eL [.cells [.list (w.map csI) .no,.I m]] .tok) (hQ0 hall)
theorem KP (w:List RwI) (m:Int) (l:List Int):∀(K:PV→Prop),(∃(w_1:List RwI) (m_1:Int) (l_1:List Int),l_1.length≤1000000∧w_1.length≤1000000∧ah [.list (l.map u1) .no,.ptr 0 0,.E,.bool false,.E,.I 0] [.list (l_1.map u1) .no,.ptr 0 0,.E,.bool false,.E,.I 0]∧ax [.cells [.list (w.map csI) .no,.I m]] [.cells [.list (w_1.map csI) .no,.I m_1]]∧((∀(p:Int),p∈l_1→eC w_1 p=true)→K (.tup [.list (List.map i1 (List.map (eX w_1) l_1)) .no,.bool true]))∧((¬∀(p:Int),p∈l_1→eC w_1 p=true)→∀(_:List (List PV)),∀(_:Int),K (.tup [.E,.bool false])))→AcK 47 [.agg [.list (w.map csI) .no,.I m],.list (l.map u1) .no] [] (fun x _=>K x):=fun K h=>acW (T:=TRR) (L:=[([1,1,0,1,0],Lp)]) (fun o=>match o.dst with|some 30=>1|_=>0) Tryz.func47 (DE) (.cons suE EU (.nil _ _ _ _ _)) h
def tQ (w:List RwI) (l:List Int):List Int×Bool:=if l.all (eC w)=true then(l.map (eX w),true) else([],false)
def Iq (args:List PV) (K:PV→Prop):Prop:=∃(w:List RwI) (m:Int) (l:List Int) (t:Tail),ah args [.agg [.list (w.map csI) .no,.I m],.list (l.map u1) t]∧l.length≤1000000∧w.length≤1000000∧(let v:=tQ w l; K (.tup [.list (v.1.map i1) .no,.bool v.2]))
theorem JZ:SpK 47 (.pure Iq):=by
 rintro args K ⟨w,m,l,t,he,hl,hwl,hk⟩
 have he:args=_:=he
 subst he
 refine bw ai (.cons (.refl _) (.cons (.list _ _) .nil)) (be (da w m) (bn bG _)) (.tup _ (be (bn gO _) (.bool _))) (bh (KP w m l (fun x=>∃ y,Wk x y∧y = .tup [.list ((tQ w l).1.map i1) .no,.bool (tQ w l).2]) ⟨w,m,l,hl,hwl,rfl,rfl,fun hA=>⟨_,.refl _,?_⟩,fun hA es i=>⟨.tup [.list [] .no,.bool false],.tup (.cons (.list _ _) (.cons (.refl _) .nil)),?_⟩⟩)) hk
 ·unfold tQ; rw[if_pos (List.all_eq_true.2 hA)]
 ·unfold tQ; rw[if_neg (fun k=>hA (List.all_eq_true.1 k))]; rfl
namespace Elo
end Elo
theorem w6 {l w:List RwI} {m:Int} (h:cX l w m):eC w=has l:=funext fun t=>h.IX t
theorem mo {l w:List RwI} {m:Int} (h:cX l w m):w.length≤1000000:=by rw[h.len]; exact h.ok.len
def kI (w:List RwI) (m:Int) (xs:List (Int×Int)):List RwI:=xs.foldl (fun w x=>(ic w m x.1 x.2).1) w
theorem cX.Kp {l w:List RwI} {m:Int} (h:cX l w m) (xs:List (Int×Int)):cX (dz l m xs) (kI w m xs) m:=by
 unfold dz kI
 induction xs generalizing l w with
 | nil=>exact h
 | cons x xs ih=>exact ih (h.put x.1 x.2).1
def fX (w:List RwI) (m:Int) (v:Vd):List RwI×Int:=if v.new.length≠v.ps.length then(w,21) else if v.ps.all (eC w)=true then(kI w m (v.ps.zip v.new),0) else(w,12)
theorem cX.apply {l w:List RwI} {m:Int} (h:cX l w m) (v:Vd):cX (ct l m v).1 (fX w m v).1 m∧(fX w m v).2=(ct l m v).2:=by
 unfold ct fX hasAll
 rw[w6 h]
 split
 ·exact⟨h,rfl⟩
 split
 ·exact⟨h.Kp _,rfl⟩
 ·exact⟨h,rfl⟩
def TRA:Tab:=[(23,.pure pe),(47,.pure Iq)]
theorem BQ:TbK TRA:= .cons pT (.cons JZ (.nil _ _))
theorem Kf (w:List RwI) (m:Int) (v:Vd) (i:Nat):(by refine(?_:_→_→_→_→_→Prop) (Ob.cells [.U v.m,.U v.i,.I v.r,.list (v.ps.map u1) .no,.list (v.old.map i1) .no,.list (v.new.map i1) .no]) (Ob.cells [.E,.I 0]) [PV.list (w.map csI) .no,.I m] (Int.toNat (i:Int)) [PV.ptr 0 0,.ptr 1 0,.ptr 2 0,.I 0,.I i]; exact fun a b c d f=>by refine(?_:_→_→Prop) (List.getD (v.new.map i1) d []) (List.getD (v.ps.map u1) d []); exact fun g h=>∀(R:Ex→List PV→ae→Prop),(br (decide ((i:Int)<(↑(List.length (v.ps.map u1)):Int))) (InL (v.ps.map u1) 1 (i:Int)∧br (true && aE [.int .u32] 0 h) (InL (v.new.map i1) 1 (i:Int)∧br (true && aE [.int .i64] 0 g) (∃(w_1:List RwI) (m_1:Int) (t:Int) (v_1:Int),ah [.agg c,.U (cI h 0),.I (cI g 0)] [.agg [.list (w_1.map csI) .no,.I m_1],.U t,.I v_1]∧w_1.length≤1000000∧0≤t∧R .normal [.ptr 0 0,.ptr 1 0,.ptr 2 0,.I 0,.I (wI ((i:Int)+1))] [.cells [.list (List.map csI (Prod.fst (ic w_1 m_1 t v_1))) .no,.I m_1],a,b]) False) False) (R (.exit 0) f [.cells c,a,b]))→Holds (wpK TRA [] (fun o=>match o.dst with|some 35=>1002|some 37=>101301|some 40|some 45=>900|some 42=>101501|some 18|some 26|some 49|some 16=>1|some _=>0|none=>match o.op with| .store _ (.tmp 2) _=>1002|_=>0) (aj [1,1,1,1,0,1,0] (ag Tryz.f19)) [] (an [2,3,4,5,8] f) [.cells c,.cells (vdC v),b] (fun ex e H=>R ex (List.map e [2,3,4,5,8]) H)):Prop):=fun R h=>hoE h
def HX:LSp:=fun e H Q=>∃(l w:List RwI) (m:Int) (v:Vd),cX l w m∧v.ps.length≤1000000∧v.new.length=v.ps.length∧(∀ p∈v.ps,has l p=true)∧ah (List.map e [2,3,4,5,8]) [.ptr 0 0,.ptr 1 0,.ptr 2 0,.I 0,.I 0]∧ax H [.cells [.list (w.map csI) .no,.I m],.cells (vdC v),.cells [.E,.I 0]]∧Q (.exit 0) (an [2,3,4,5,8] [.ptr 0 0,.ptr 1 0,.ptr 2 0,.I 0,.I v.ps.length]) [.cells [.list ((kI w m (v.ps.zip v.new)).map csI) .no,.I m],.cells (vdC v),.cells [.E,.I 0]]
theorem Bf:∀ e H Q,HX e H Q→AwK Tryz.f19.ntmps (.loop (aj [1,1,1,1,0,1,0] (ag Tryz.f19))) Q e H:=by
 rintro e H Q ⟨l,w,m,v,hl,hv,hn,hh,he,hH,hQ⟩
 refine aB (hn:=fun o=>match o.dst with|some 35=>1002|some 37=>101301|some 40|some 45=>900|some 42=>101501|some 18|some 26|some 49|some 16=>1|some _=>0|none=>match o.op with| .store _ (.tmp 2) _=>1002|_=>0) ai BQ (.nil _ _ _ _ _) (σ:=Nat) [2,3,4,5,8] (fun i=>i≤v.ps.length) (fun i=>[.ptr 0 0,.ptr 1 0,.ptr 2 0,.I 0,.I i]) (fun i=>[.cells [.list ((kI w m ((v.ps.zip v.new).take i)).map csI) .no,.I m],.cells (vdC v),.cells [.E,.I 0]]) (fun i=>v.ps.length-i) 0 (Nat.zero_le _) he hH ?_
 intro i hi
 have hi':i≤v.ps.length:=hi
 refine Kf _ m v i _ ?_
 simp only[ar,dt,ak,List.length_map]
 by_cases h:i<v.ps.length
 ·rw[if_pos (by omega)]
  have h2:i<v.new.length:=by omega
  have inl:InL (v.ps.map u1) 1 (i:Int):=by rw[de]; exact h
  have inl2:InL (v.new.map i1) 1 (i:Int):=by rw[uW]; exact h2
  have cu:∀ z:Int,cI (u1 z) 0=z:=fun _=>rfl
  have ci:∀ z:Int,cI (i1 z) 0=z:=fun _=>rfl
  have lk:=hl.Kp ((v.ps.zip v.new).take i)
  have hp:1≤v.ps.getD i 0:=by
   obtain⟨r,h1,h2⟩:=(ju hl.ok).1 (hh _ (aU (d:=(0:Int)) h))
   rw[← h2]; exact fD (hl.pos r h1)
  have hs:kI w m ((v.ps.zip v.new).take (i+1))=(ic (kI w m ((v.ps.zip v.new).take i)) m (v.ps.getD i 0) (v.new.getD i 0)).1:=by
   unfold kI
   rw[aK ((0:Int),(0:Int)) (by rw[List.length_zip]; omega),List.foldl_append,show(v.ps.zip v.new).getD i (0,0)=(v.ps.getD i 0,v.new.getD i 0) by rw[a9 (show i<(v.ps.zip v.new).length by rw[List.length_zip]; omega),List.getElem_zip,a9 h,a9 h2]]
   rfl
  simp only[getD_map 0 h,getD_map 0 h2,cu,ci]
  refine⟨inl,?_⟩
  rw[if_pos (by rfl)]
  refine⟨inl2,?_⟩
  rw[if_pos (by rfl)]
  refine⟨_,m,_,_,rfl,mo lk,by omega,?_⟩
  rw[← hs]
  exact⟨i+1,(show v.ps.length-(i+1)<v.ps.length-i by omega),h,by rw[au h (by omega)],[],rfl,Nat.le_refl _,.inl rfl⟩
 ·rw[if_neg (by omega)]
  have:i=v.ps.length:=by omega
  subst this
  rw[List.take_of_length_le (by rw[List.length_zip]; omega)]
  exact hQ
theorem FI (w:List RwI) (m:Int) (v:Vd):(by refine(?_:_→_→_→_→Prop) [PV.list (w.map csI) .no,.I m] [PV.ptr 0 0,.ptr 1 0,.ptr 2 0,.I 0,.I 0] (Ob.cells [.E,.I 0]) (PV.list (v.ps.map u1) .no); exact fun a b c d=>∀(K:PV→Prop),(br ((↑(List.length (v.new.map i1)):Int) != (↑(List.length (v.ps.map u1)):Int)) (K (.tup [.agg a,.I 21])) (∃(w_1:List RwI) (m_1:Int) (l:List Int) (t:Tail),ah [.agg a,d] [.agg [.list (w_1.map csI) .no,.I m_1],.list (l.map u1) t]∧l.length≤1000000∧w_1.length≤1000000∧br (!Prod.snd (tQ w_1 l)) (K (.tup [.agg a,.I 12])) (∃(l:List RwI) (w_2:List RwI) (m_2:Int) (v_1:Vd),cX l w_2 m_2∧v_1.ps.length≤1000000∧v_1.new.length=v_1.ps.length∧(∀(p:Int),p∈v_1.ps→has l p=true)∧ah b b∧ax [.cells a,.cells [.U v.m,.U v.i,.I v.r,d,.list (v.old.map i1) .no,.list (v.new.map i1) .no],c] [.cells [.list (w_2.map csI) .no,.I m_2],.cells [.U v_1.m,.U v_1.i,.I v_1.r,.list (v_1.ps.map u1) .no,.list (v_1.old.map i1) .no,.list (v_1.new.map i1) .no],c]∧K (.tup [.agg [.list (List.map csI (kI w_2 m_2 (List.zip v_1.ps v_1.new))) .no,.I m_2],.I 0]))))→AcK 19 [.agg a,.agg (vdC v)] [] (fun x _=>K x):Prop):=fun K h=>acW (T:=TRA) (L:=[([1,1,1,1,0,1,0],HX)]) (fun o=>match o.dst with|some 35=>1002|some 37=>101301|some 40|some 45=>900|some 42=>101501|some 18|some 26|some 49|some 16=>1|some _=>0|none=>match o.op with| .store _ (.tmp 2) _=>1002|_=>0) Tryz.func19 (BQ) (.cons suE Bf (.nil _ _ _ _ _)) h
def HQ (args:List PV) (K:PV→Prop):Prop:=∃(l w:List RwI) (m:Int) (v:Vd) (t1 t2 t3:Tail),ah args [.agg [.list (w.map csI) .no,.I m],.agg [.U v.m,.U v.i,.I v.r,.list (v.ps.map u1) t1,.list (v.old.map i1) t2,.list (v.new.map i1) t3]]∧cX l w m∧v.ps.length≤1000000∧K (.tup [.agg [.list ((fX w m v).1.map csI) .no,.I m],.I (fX w m v).2])
theorem Ka:SpK 19 (.pure HQ):=by
 rintro args K ⟨l,w,m,v,t1,t2,t3,he,hl,hv,hk⟩
 have he:args=_:=he
 subst he
 have hw:=mo hl
 refine bw ai (.cons (.refl _) (.cons (.agg (xs':=vdC v) (.cons (.refl _) (.cons (.refl _) (.cons (.refl _) (.cons (.list _ _) (.cons (.list _ _) (.cons (.list _ _) .nil))))))) .nil)) (be (da w m) (.agg _ (kE v))) (.tup _ (be (da _ m) (.int _ _))) (FI w m v (fun x=>x = .tup [.agg [.list ((fX w m v).1.map csI) .no,.I m],.I (fX w m v).2]) ?_) hk
 simp only[ar,List.length_map]
 unfold fX
 by_cases c:v.new.length=v.ps.length
 ·rw[if_neg (by simp[c]),if_neg (by simp[c])]
  refine⟨w,m,v.ps,.no,rfl,hv,hw,?_⟩
  have er:(tQ w v.ps).2=v.ps.all (eC w):=by
   unfold tQ
   cases v.ps.all (eC w)<;>rfl
  rw[er]
  by_cases c2:v.ps.all (eC w)=true
  ·rw[if_neg (by rw[c2]; decide),if_pos c2]
   rw[w6 hl] at c2
   exact⟨l,w,m,v,hl,hv,c,List.all_eq_true.1 c2,rfl,rfl,rfl⟩
  ·rw[if_pos (by rw[eq_false_of_ne_true c2]; rfl),if_neg c2]
 ·rw[if_pos (by simp; omega),if_pos c]
def Be (args:List PV) (K:PV→Prop):Prop:=∃(l:List Int),ah args [.list (l.map u1) .no,.list (l.map u1) .no]∧l.length≤1000000∧K (.bool true)
theorem Gi:SpK 29 (.pure Be):=by
 rintro args K ⟨l,he,hl,hk⟩
 have he:args=_:=he
 subst he
 have e:l.map u1=en1 .u32 l:=by simp[en1,u1]
 rw[e]
 exact rO _ K ⟨l,l,.no,.no,rfl,hl,by rw[decide_eq_true rfl]; exact hk⟩
def TLK:Tab:=[(30,.read Ds),(29,.pure Be),(31,.read vc),(32,.pure DK),(28,.pure tn),(33,.read nX),(34,.pure n8)]
theorem BZ:TbK TLK:= .cons FN (.cons Gi (.cons xH (.cons Fc (.cons yU (.cons nD (.cons qv (.nil _ _)))))))
theorem J4 (l w:List RwI) (m k:Int) (u:List Mt) (i:Nat):(by refine(?_:_→_→_→Prop) (List.getD (bL l) (Int.toNat (i:Int)) []) [PV.list (w.map csI) .no,.I m] (PV.list (bL l) .no); exact fun b d g=>by refine(?_:_→_→_→_→Prop) [Ob.abs (rkI l m),.abs (rkM (aq u) k),.cells [.ptr 1 0],.cells d] [PV.ptr 0 0,.ptr 3 0,.bool false,g,.I i] (true && aE [.int .u32] 0 b) (PV.U (cI b 0)); exact fun a c f h=>∀(R:Ex→List PV→ae→Prop),(br (decide ((i:Int)<(↑(List.length (bL l)):Int))) (InL (bL l) 1 (i:Int)∧br f (∃(q:Nat) (l_1:List RwI) (most:Int) (t:Int),ah [.ptr 0 0,h] [.ptr q 0,.U t]∧bP a q (rkI l_1 most)∧Ok l_1 most∧InL (bL l) 1 (i:Int)∧br f (∃(w_1:List RwI) (m_1:Int) (t_1:Int),ah [.agg d,h] [.agg [.list (w_1.map csI) .no,.I m_1],.U t_1]∧w_1.length≤1000000∧br (bC l_1 t != eX w_1 t_1) (R .ret c a) (R .normal [.ptr 0 0,.ptr 3 0,.bool false,g,.I (wI ((i:Int)+1))] a)) False) False) (R (.exit 0) c a))→Holds (wpK TLK [] (fun o=>match o.dst with|some 15|some 46=>1|_=>0) (aj [1,1,1,0,1,0] (ag Tryz.f8)) [] (an [0,6,8,9,10] c) a (fun ex e H=>R ex (List.map e [0,6,8,9,10]) H)):Prop):=fun R h=>hoE h
structure SmV (v:Vd):Prop where
 ps:v.ps.length≤1000000
 old:v.old.length≤1000000
 new:v.new.length≤1000000
def Is:LSp:=fun e H Q=>∃(l w:List RwI) (m k:Int) (u:List Mt),cX l w m∧ah (List.map e [0,6,8,9,10]) [.ptr 0 0,.ptr 3 0,.bool false,.list (bL l) .no,.I 0]∧ax H [.abs (rkI l m),.abs (rkM (aq u) k),.cells [.ptr 1 0],.cells [.list (w.map csI) .no,.I m]]∧Q (.exit 0) (an [0,6,8,9,10] [.ptr 0 0,.ptr 3 0,.bool false,.list (bL l) .no,.I l.length]) [.abs (rkI l m),.abs (rkM (aq u) k),.cells [.ptr 1 0],.cells [.list (w.map csI) .no,.I m]]
theorem DH:∀ e H Q,Is e H Q→AwK Tryz.f8.ntmps (.loop (aj [1,1,1,0,1,0] (ag Tryz.f8))) Q e H:=by
 rintro e H Q ⟨l,w,m,k,u,hl,he,hH,hQ⟩
 have hn:=hl.ok.len
 refine aB (hn:=fun o=>match o.dst with|some 15|some 46=>1|_=>0) ai BZ (.nil _ _ _ _ _) (σ:=Nat) [0,6,8,9,10] (fun i=>i≤l.length) (fun i=>[.ptr 0 0,.ptr 3 0,.bool false,.list (bL l) .no,.I i]) (fun _=>[.abs (rkI l m),.abs (rkM (aq u) k),.cells [.ptr 1 0],.cells [.list (w.map csI) .no,.I m]]) (fun i=>l.length-i) 0 (Nat.zero_le _) he hH ?_
 intro i hi
 have hi':i≤l.length:=hi
 refine J4 l w m k u i _ ?_
 simp only[ar,dt,ak,show(bL l).length=l.length by simp[bL]]
 by_cases h:i<l.length
 ·rw[if_pos (by omega)]
  have inl:InL (bL l) 1 (i:Int):=by unfold bL; rw[dH (sz:=1) (f:=fun r:RwI=>[PV.U r.id]) (fun _=>rfl) (by decide)]; exact h
  have hg:(bL l).getD i []=[.U (l.getD i default).id]:=by unfold bL; rw[getD_map default h]
  have ci:∀ z:Int,cI [.U z] 0=z:=fun _=>rfl
  simp only[hg,ci]
  refine⟨inl,?_⟩
  rw[if_pos (by rfl)]
  refine⟨0,l,m,_,rfl,rfl,hl.ok,inl,?_⟩
  rw[if_pos (by rfl)]
  refine⟨w,m,_,rfl,mo hl,?_⟩
  rw[if_neg (by rw[hl.LG]; simp)]
  exact⟨i+1,(show l.length-(i+1)<l.length-i by omega),h,by rw[au h (by omega)],[],rfl,Nat.le_refl _,.inl rfl⟩
 ·rw[if_neg (by omega)]
  have:i=l.length:=by omega
  subst this
  exact hQ
theorem Kg (l w:List RwI) (m k:Int) (u:List Mt):(by refine(?_:_→_→_→Prop) [PV.list (w.map csI) .no,.I m] (Ob.abs (rkM (aq u) k)) (PV.list (u.map mtc) .no); exact fun c d e=>by refine(?_:_→Prop) [Ob.abs (rkI l m),d,.cells [.ptr 1 0],.cells c]; exact fun b=>∀(K:PV→ae→Prop),(∃(l_1:List RwI) (w_1:List RwI) (m_1:Int) (most:Int),ah [.agg c] [.agg [.list (w_1.map csI) .no,.I m_1]]∧cX l_1 w_1 most∧∃(q:Nat) (l_2:List RwI) (most:Int),ah [.ptr 0 0] [.ptr q 0]∧bP b q (rkI l_2 most)∧Ok l_2 most∧∃(l_3:List Int),ah [.list (bL l_2) .no,.list (bL l_1) .no] [.list (l_3.map u1) .no,.list (l_3.map u1) .no]∧l_3.length≤1000000∧∃(q:Nat) (r:Nat) (w_2:List Mt) (m_2:Int),ah [.ptr 2 0] [.ptr q 0]∧b8 b q r (rkM (aq w_2) m_2)∧MO w_2 m_2∧∃(w_3:List Mt) (tl:Tail),ah [e] [.list (w_3.map mtc) tl]∧w_3.length≤1000000∧∃(l_4:List Int),ah [.list (List.map u1 (w_2.map Mt.id)) .no,.list (List.map u1 (w_3.map Mt.id)) .no] [.list (l_4.map u1) .no,.list (l_4.map u1) .no]∧l_4.length≤1000000∧∃(l_5:List RwI) (w_4:List RwI) (m_3:Int) (k_1:Int) (u_1:List Mt),by refine(?_:_→Prop) [Ob.abs (rkI l_5 m_3),.abs (rkM (aq u_1) k_1),.cells [.ptr 1 0],.cells [.list (w_4.map csI) .no,.I m_3]]; exact fun a=>cX l_5 w_4 m_3∧ah [.ptr 0 0,.ptr 3 0,.bool false,.list (bL l_1) .no,.I 0] [.ptr 0 0,.ptr 3 0,.bool false,.list (bL l_5) .no,.I 0]∧ax b a∧K (.bool true) a)→AcK 8 [.ptr 0 0,.ptr 2 0,.agg c,e] [.abs (rkI l m),d,.cells [.ptr 1 0]] K:Prop):=fun K h=>acW (T:=TLK) (L:=[([1,1,1,0,1,0],Is)]) (fun o=>match o.dst with|some 15|some 46=>1|_=>0) Tryz.func8 (BZ) (.cons suE DH (.nil _ _ _ _ _)) h
def uZ (args:List PV) (H:ae) (K:PV→Prop):Prop:=match args with
 | .ptr q 0 :: .ptr t 0::rest=>match Ik H t with
  | some a=>∃(l w:List RwI) (m k:Int) (u:List Mt) (tl:Tail),ah rest [.agg [.list (w.map csI) .no,.int .i64 m],.list (u.map mtc) tl]∧bP H q (rkI l m)∧b8 H t a (rkM (aq u) k)∧q≠a∧cX l w m∧MO u k∧K (.bool true)
  | none=>False
 | _=>False
theorem yp {l w:List RwI} {m k:Int} {u:List Mt} (hl:cX l w m) (ro:MO u k):AcK 8 [.ptr 0 0,.ptr 2 0,.agg [.list (w.map csI) .no,.I m],.list (u.map mtc) .no] [.abs (rkI l m),.abs (rkM (aq u) k),.cells [.ptr 1 0]] (fun x H'=>x = .bool true∧∃ G,H' = .abs (rkI l m) :: .abs (rkM (aq u) k) :: .cells [.ptr 1 0]::G):=by
 have hu:u.length≤1000000:=by have:=ro.full; have:=ro.big; omega
 have hn:=hl.ok.len
 have ids:∀ l:List RwI,bL l=(l.map Rw.id).map u1:=fun l=>by unfold bL; rw[List.map_map]; rfl
 refine Kg l w m k u _ ?_
 exact⟨l,w,m,m,rfl,hl,0,l,m,rfl,rfl,hl.ok,l.map Rw.id,(by rw[← ids]; rfl),(by rw[List.length_map]; exact hn),2,1,u,k,rfl,⟨rfl,rfl⟩,ro,u,.no,rfl,hu,u.map Mt.id,rfl,(by rw[List.length_map]; exact hu),l,w,m,k,u,hl,rfl,rfl,rfl,_,rfl⟩
theorem G6:SpK 8 (.read uZ):=by
 intro args H K h
 unfold uZ at h
 split at h
 ·rename_i q t rest
  split at h
  ·rename_i a ha
   obtain⟨l,w,m,k,u,tl,he,hI,hB,hne,hl,ro,hk⟩:=h
   have he:rest=_:=he
   subst he
   refine⟨_,aY (.cons (.refl _) (.cons (.refl _) (.cons (.refl _) (.cons (.list _ _) .nil)))) (oH ai hI hB hne (be (da w m) (bF u)) (.bool _) (bh ((yp hl ro).mono fun x H' ⟨h1,h2⟩=>⟨_,h1 ▸ .refl _,rfl,h2⟩)) ⟨rfl,?_⟩),hk⟩
   rw[qa hI,qa hB.2]
  ·exact h.elim
 ·exact h.elim
theorem E6 (t:Int)  (K:PV→Prop) (h:K (.tup [.I 0,.bool false])):AcK 33 [.nilptr,.U t] [] (fun x _=>K x):=
 acW (T:=[]) (L:=[]) (fun _=>0) Tryz.func33 (aV.nil _ _) (LOk.nil _ _ _ _ _) h
theorem zi (d:Wd):cX (dz [] 40 d.ra) (nh d.ra) 40:=cX.Kp (l:=[]) (w:=[]) ⟨Ok.none (by decide) (by decide),.refl _,fun _ h=>nomatch h⟩ d.ra
def Ej (args:List PV) (K:PV→Prop):Prop:=∃ t:Int,ah args [.nilptr,.U t]∧K (.tup [.I 0,.bool false])
theorem G7:SpK 33 (.pure Ej):=by
 rintro args K ⟨t,he,hk⟩
 have he:args=_:=he
 subst he
 exact b9 ai (be .nilptr (.int _ _)) (.tup _ (be (.int _ _) (.bool _))) (E6 t (fun x=>x = .tup [.I 0,.bool false]) rfl) hk
def TAN:Tab:=[(33,.pure Ej)]
theorem u6:TbK TAN:= .cons G7 (.nil _ _)
theorem IR (v:Vd):(by refine(?_:_→_→_→Prop) (PV.list (v.ps.map u1) .no) (PV.I v.ps.length) (List.getD (v.ps.map u1) 0 []); exact fun b c d=>by refine(?_:_→Prop) [Ob.cells [.U v.m,.U v.i,.I v.r,b,.list (v.old.map i1) .no,.list (v.new.map i1) .no]]; exact fun a=>∀(R:Ex→List PV→ae→Prop),(br (decide (0<(v.ps.length:Int))) (InL (v.ps.map u1) 1 0∧br (true && aE [.int .u32] 0 d) (∃(t:Int),ah [.nilptr,.U (cI d 0)] [.nilptr,.U t]∧R .ret [.nilptr,.ptr 0 0,.I 12,b,c,.I 0] a) False) (R (.exit 0) [.nilptr,.ptr 0 0,.I 0,b,c,.I 0] a))→Holds (wpK TAN [] (fun _=>0) (aj [1,1,0,1,0] (ag Tryz.f18)) [] (an [0,3,4,19,20,21] [.nilptr,.ptr 0 0,.I 0,b,c,.I 0]) [.cells (vdC v)] (fun ex e H=>R ex (List.map e [0,3,4,19,20,21]) H)):Prop):=fun R h=>hoE h
theorem JQ (v:Vd):(by refine(?_:_→_→Prop) (PV.list (v.ps.map u1) .no) (PV.I v.ps.length); exact fun a b=>∀(R:Ex→List PV→ae→Prop),(br (decide (0<(v.ps.length:Int))) (InL (v.ps.map u1) 1 0∧br (true && aE [.int .u32] 0 (List.getD (v.ps.map u1) 0 [])) (InL (v.new.map i1) 1 0∧br (true && aE [.int .i64] 0 (List.getD (v.new.map i1) 0 [])) False False) False) (R (.exit 2) [.nilptr,.ptr 0 0,a,b,.I 0] [.cells [.U v.m,.U v.i,.I v.r,a,.list (v.old.map i1) .no,.list (v.new.map i1) .no]]))→Holds (wpK TAN [] (fun _=>0) (aj [1,1,1,0,1,0] (ag Tryz.f18)) [] (an [0,3,35,36,37] [.nilptr,.ptr 0 0,a,b,.I 0]) [.cells (vdC v)] (fun ex e H=>R ex (List.map e [0,3,35,36,37]) H)):Prop):=fun R h=>hoE h
def HE:LSp:=fun e H Q=>∃(v:Vd),ah (List.map e [0,3,4,19,20,21]) [.nilptr,.ptr 0 0,.I 0,.list (v.ps.map u1) .no,.I v.ps.length,.I 0]∧ax H [.cells (vdC v)]∧(v.ps=[]→Q (.exit 0) (an [0,3,4,19,20,21] [.nilptr,.ptr 0 0,.I 0,.list (v.ps.map u1) .no,.I v.ps.length,.I 0]) [.cells (vdC v)])∧(v.ps≠[]→Q .ret (an [0,3,4,19,20,21] [.nilptr,.ptr 0 0,.I 12,.list (v.ps.map u1) .no,.I v.ps.length,.I 0]) [.cells (vdC v)])
theorem Cf:∀ e H Q,HE e H Q→AwK Tryz.f18.ntmps (.loop (aj [1,1,0,1,0] (ag Tryz.f18))) Q e H:=by
 rintro e H Q ⟨v,he,hH,hQ0,hQ1⟩
 refine aB (hn:=fun _=>0) ai u6 (.nil _ _ _ _ _) (σ:=Nat) [0,3,4,19,20,21] (fun _=>True) (fun _=>[.nilptr,.ptr 0 0,.I 0,.list (v.ps.map u1) .no,.I v.ps.length,.I 0]) (fun _=>[.cells (vdC v)]) (fun i=>i) 0 trivial he hH ?_
 intro i _
 refine IR v _ ?_
 simp only[ar]
 by_cases h:v.ps=[]
 ·rw[if_neg (by rw[h]; decide)]
  exact hQ0 h
 ·have h0:0<v.ps.length:=List.length_pos_iff.2 h
  have inl:InL (v.ps.map u1) 1 ((0:Nat):Int):=by rw[de]; exact h0
  rw[if_pos (by rw[decide_eq_true_eq]; omega)]
  refine⟨inl,?_⟩
  simp only[getD_map 0 h0]
  rw[if_pos (by rfl)]
  exact⟨_,rfl,hQ1 h⟩
def If:LSp:=fun e H Q=>∃(v:Vd),v.ps=[]∧ah (List.map e [0,3,35,36,37]) [.nilptr,.ptr 0 0,.list (v.ps.map u1) .no,.I v.ps.length,.I 0]∧ax H [.cells (vdC v)]∧Q (.exit 2) (an [0,3,35,36,37] [.nilptr,.ptr 0 0,.list (v.ps.map u1) .no,.I v.ps.length,.I 0]) [.cells (vdC v)]
theorem En:∀ e H Q,If e H Q→AwK Tryz.f18.ntmps (.loop (aj [1,1,1,0,1,0] (ag Tryz.f18))) Q e H:=by
 rintro e H Q ⟨v,h,he,hH,hQ⟩
 refine aB (hn:=fun _=>0) ai u6 (.nil _ _ _ _ _) (σ:=Nat) [0,3,35,36,37] (fun _=>True) (fun _=>[.nilptr,.ptr 0 0,.list (v.ps.map u1) .no,.I v.ps.length,.I 0]) (fun _=>[.cells (vdC v)]) (fun i=>i) 0 trivial he hH ?_
 intro i _
 refine JQ v _ ?_
 simp only[ar]
 rw[if_neg (by rw[h]; decide)]
 exact hQ
theorem I7 (v:Vd):∀(K:PV→Prop),(br ((↑(List.length (v.new.map i1)):Int) != (↑(List.length (v.ps.map u1)):Int)) (K (.I 21)) (∃(v_1:Vd),by refine(?_:_→Prop) (PV.list (v_1.ps.map u1) .no); exact fun b=>by refine(?_:_→Prop) [Ob.cells [.U v_1.m,.U v_1.i,.I v_1.r,b,.list (v_1.old.map i1) .no,.list (v_1.new.map i1) .no]]; exact fun a=>ah [.nilptr,.ptr 0 0,.I 0,.list (v.ps.map u1) .no,.I (↑(List.length (v.ps.map u1)):Int),.I 0] [.nilptr,.ptr 0 0,.I 0,b,.I v_1.ps.length,.I 0]∧ax [.cells [.U v.m,.U v.i,.I v.r,.list (v.ps.map u1) .no,.list (v.old.map i1) .no,.list (v.new.map i1) .no]] a∧(v_1.ps=[]→∃(v:Vd),v.ps=[]∧ah [.nilptr,.ptr 0 0,b,.I (↑(List.length (v_1.ps.map u1)):Int),.I 0] [.nilptr,.ptr 0 0,.list (v.ps.map u1) .no,.I v.ps.length,.I 0]∧ax a [.cells [.U v.m,.U v.i,.I v.r,.list (v.ps.map u1) .no,.list (v.old.map i1) .no,.list (v.new.map i1) .no]]∧K (.I 0))∧(v_1.ps≠[]→K (.I 12))))→AcK 18 [.nilptr,.agg (vdC v)] [] (fun x _=>K x):=fun K h=>acW (T:=TAN) (L:=[([1,1,0,1,0],HE),([1,1,1,0,1,0],If)]) (fun _=>0) Tryz.func18 (u6) (.cons suE Cf (.cons suE En (.nil _ _ _ _ _))) h
def lS (v:Vd):Int:=if v.new.length≠v.ps.length then 21 else if v.ps=[] then 0 else 12
def oI (args:List PV) (H:ae) (K:PV→ae→Prop):Prop:=match args with
 | .nilptr::rest=>∃(v:Vd) (t1 t2 t3:Tail),ah rest [.agg [.int .u32 v.m,.int .u32 v.i,.int .i64 v.r,.list (v.ps.map u1) t1,.list (v.old.map i1) t2,.list (v.new.map i1) t3]]∧K (.int .i64 (lS v)) H
 | _=>nF args H K
theorem zx:SpK 18 (.heap oI):=by
 intro args H K h
 unfold oI at h
 split at h
 ·rename_i rest
  obtain⟨v,t1,t2,t3,he,hk⟩:=h
  have he:rest=_:=he
  subst he
  have key:SpK 18 (.pure fun args K=>ah args [.nilptr,.agg [.U v.m,.U v.i,.I v.r,.list (v.ps.map u1) t1,.list (v.old.map i1) t2,.list (v.new.map i1) t3]]∧K (.I (lS v))):=by
   rintro args K ⟨he,hk⟩
   have he:args=_:=he
   subst he
   refine bw ai (.cons (.refl _) (.cons (.agg (xs':=vdC v) (.cons (.refl _) (.cons (.refl _) (.cons (.refl _) (.cons (.list _ _) (.cons (.list _ _) (.cons (.list _ _) .nil))))))) .nil)) (be .nilptr (.agg _ (kE v))) (.int _ _) (I7 v (fun x=>x = .I (lS v)) ?_) hk
   simp only[ar,List.length_map]
   unfold lS
   by_cases c:v.new.length=v.ps.length
   ·rw[if_neg (by simp[c]),if_neg (by simp[c])]
    exact⟨v,rfl,rfl,fun h=>⟨v,h,rfl,rfl,by rw[if_pos h]⟩,fun h=>by rw[if_neg h]⟩
   ·rw[if_pos (by simp; omega),if_pos c]
  obtain⟨r,k1,k2⟩:=key _ (K · H) ⟨rfl,hk⟩
  exact(k1 H).mono fun x H' e=>by rw[e.1,e.2]; exact k2
 ·exact tE args H K h
def AX (args:List PV) (H:ae) (K:PV→ae→Prop):Prop:=∃(d:Wd) (t1 t2 t3:Tail),ah args [.agg [.list (d.ra.map prC) t1,.list (d.rows.map lcs) t2,.list (d.st.map i1) t3]]∧mu d=false∧raP d∧K (.tup (opV H.length d)) (H++opH H.length d)
theorem GI:SpK 7 (.heap AX):=by
 rintro args H K ⟨d,t1,t2,t3,he,h1,h2,hk⟩
 have he:args=_:=he
 subst he
 exact aY (.cons (.agg (.cons (.list _ _) (.cons (.list _ _) (.cons (.list _ _) .nil)))) .nil) (Kj _ H K ⟨d,rfl,h1,h2,hk⟩)
def TLA:Tab:=[(7,.heap AX),(8,.read uZ),(14,.pure v7),(18,.heap oI),(19,.pure HQ)]
theorem Kd:TbK TLA:= .cons GI (.cons G6 (.cons Cx (.cons zx (.cons Ka (.nil _ _)))))
theorem J5 (l:List (Int×Int)) (ps ns:List Int):(by refine(?_:_→_→_→_→_→Prop) (↑(List.length (ps.map u1)):Int) (↑(List.length (ns.map i1)):Int) (PV.list (ps.map u1) .no) (PV.list (ns.map i1) .no) (PV.list (l.map prC) .no); exact fun j n o p q=>by refine(?_:_→Prop) (PV.agg [.U 0,.U 0,.I 0,o,.E,p]); exact fun h=>∀(K:PV→Prop),(br (decide ((↑(List.length (l.map prC)):Int)>40) == false) (br (decide (j>20) == false) (br (decide (n>20)) (K (.bool true)) (∃(d:Wd) (t1:Tail) (t2:Tail) (t3:Tail),by refine(?_:_→_→Prop) [PV.list (List.map csI (nh d.ra)) .no,.I 40] (Prod.fst (eK d d.rows.length)); exact fun e f=>by refine(?_:_→Prop) (Ob.abs (rkM (aq f) 6)); exact fun g=>ah [.agg [q,.E,.E]] [.agg [.list (d.ra.map prC) t1,.list (d.rows.map lcs) t2,.list (d.st.map i1) t3]]∧mu d=false∧raP d∧∃(ra:List RwI) (most:Int) (v:Vd) (t1:Tail) (t2:Tail) (t3:Tail),ah [h] [.agg [.U v.m,.U v.i,.I v.r,.list (v.ps.map u1) t1,.list (v.old.map i1) t2,.list (v.new.map i1) t3]]∧bP [.abs (rkI (dz [] 40 d.ra) 40),g,.cells [.ptr 1 0],.cells e] 0 (rkI ra most)∧Ok ra most∧v.ps.length≤1000000∧∃(l:List RwI) (w:List RwI) (m:Int) (v_1:Vd) (t1:Tail) (t2:Tail) (t3:Tail),by refine(?_:_→Prop) [PV.list (List.map csI (Prod.fst (fX w m v_1))) .no,.I m]; exact fun c=>by refine(?_:_→Prop) [Ob.abs (rkI (Prod.fst (ct ra most v)) most),g,.cells [.ptr 1 0],.cells e,.cells c]; exact fun b=>by refine(?_:_→Prop) (br ((Prod.snd (ct ra most v) == Prod.snd (fX w m v_1)) == true) (∃(l:List RwI) (w_1:List RwI) (m_1:Int) (k:Int) (u:List Mt) (tl:Tail),ah [.agg c,.list (List.map mtc f) .no] [.agg [.list (w_1.map csI) .no,.I m_1],.list (u.map mtc) tl]∧bP b 0 (rkI l m_1)∧b8 b 2 1 (rkM (aq u) k)∧0≠1∧cX l w_1 m_1∧MO u k∧ah [] []∧K (.bool true)) (K (.bool false))); exact fun a=>ah [.agg e,h] [.agg [.list (w.map csI) .no,.I m],.agg [.U v_1.m,.U v_1.i,.I v_1.r,.list (v_1.ps.map u1) t1,.list (v_1.old.map i1) t2,.list (v_1.new.map i1) t3]]∧cX l w m∧v_1.ps.length≤1000000∧∃(v_2:Vd) (t1:Tail) (t2:Tail) (t3:Tail),ah [h] [.agg [.U v_2.m,.U v_2.i,.I v_2.r,.list (v_2.ps.map u1) t1,.list (v_2.old.map i1) t2,.list (v_2.new.map i1) t3]]∧br ((j == n) == true) (br ((lS v_2 == 12) != decide (j>0)) (K (.bool false)) a) a)) (K (.bool true))) (K (.bool true)))→AcK 5 [q,o,p] [] (fun x _=>K x):Prop):=fun K h=>acW (T:=TLA) (L:=[]) (fun o=>match o.dst with|some 43|some 74=>1|_=>0) Tryz.func5 (Kd) (LOk.nil _ _ _ _ _) h
theorem rW (l:List (Int×Int)) (ps ns:List Int) (hp:∀ p∈l,0≤p.1):AcK 5 [.list (l.map prC) .no,.list (ps.map u1) .no,.list (ns.map i1) .no] [] (fun x _=>x = .bool true):=by
 refine J5 l ps ns (fun x=>x = .bool true) ?_
 simp only[ar,List.length_map]
 by_cases c1:l.length>40
 ·rw[if_neg (by simp; omega)]; trivial
 rw[if_pos (by simp; omega)]
 by_cases c2:ps.length>20
 ·rw[if_neg (by simp; omega)]; trivial
 rw[if_pos (by simp; omega)]
 by_cases c3:ns.length>20
 ·rw[if_pos (by simp; omega)]; trivial
 rw[if_neg (by simp; omega)]
 have lk:=zi ⟨l,[],[]⟩
 obtain⟨a1,a2⟩:=lk.apply ⟨0,0,0,ps,[],ns⟩
 refine⟨⟨l,[],[]⟩,.no,.exact,.exact,rfl,(by unfold mu; simp; omega),⟨hp,fun _ h=>nomatch h⟩,?_⟩
 refine⟨_,40,⟨0,0,0,ps,[],ns⟩,.no,.exact,.no,rfl,rfl,lk.ok,by show ps.length≤_; omega,_,_,40,⟨0,0,0,ps,[],ns⟩,.no,.exact,.no,rfl,lk,by show ps.length≤_; omega,⟨0,0,0,ps,[],ns⟩,.no,.exact,.no,rfl,?_⟩
 obtain⟨ro,_⟩:=lB ⟨l,[],[]⟩ 0
 by_cases c4:ps.length=ns.length
 ·rw[if_pos (by simp[c4])]
  rw[if_neg (by
   unfold lS
   rw[if_neg (show ¬ ns.length≠ps.length by omega)]
   by_cases c5:ps=[]
   ·rw[if_pos c5,c5]; decide
   ·have:0<ps.length:=List.length_pos_iff.2 c5
    rw[if_neg c5,decide_eq_true (by omega)]; decide)]
  rw[if_pos (by rw[a2]; simp)]
  exact⟨_,_,40,6,_,.no,rfl,rfl,⟨rfl,rfl⟩,by decide,a1,ro,rfl,trivial⟩
 ·rw[if_neg (by simp; omega),if_pos (by rw[a2]; simp)]
  exact⟨_,_,40,6,_,.no,rfl,rfl,⟨rfl,rfl⟩,by decide,a1,ro,rfl,trivial⟩
end Go.Proofs.YtenaelaapdhbdaaGreatDoor
namespace Go.Proofs.YtenaelaapdhbdaaGreatDoor
open Go Go.AM Go.Proofs
set_option maxRecDepth 10000
theorem u_3:Tryz.prog.underlying 3=some (.int .i64):=by kernel_rfl
theorem KW:Tryz.prog.underlying 38=some (.int .u32):=by kernel_rfl
theorem LF:Tryz.prog.underlying 47=some (.slice 38):=by kernel_rfl
theorem LJ:Tryz.prog.underlying 22=some (.slice 80):=by kernel_rfl
theorem LM:Tryz.prog.underlying 24=some (.slice 3):=by kernel_rfl
theorem LU:∃ fs,Tryz.prog.underlying 80=some (.struct fs)∧fs.toList.map (·.type)=[38,3]:=⟨_,Tryz.underlying80,rfl⟩
theorem K7 {k:Nat} {cs:List PV} (h:WTp Tryz.prog (k+1+1) 80 cs):∃ p:Int×Int,cs=prC p∧0≤p.1:=by
 obtain⟨fs,hs,hf⟩:=LU
 have g:=ua hs h
 rw[hf] at g
 obtain⟨x1,r1,rfl,h1,g⟩:=tx g
 obtain⟨x2,r2,rfl,h2,g⟩:=tx g
 obtain rfl:=Fx g
 obtain⟨a,rfl,ha,_⟩:=ny KW h1
 obtain⟨b,rfl,_⟩:=ny u_3 h2
 exact⟨(a,b),rfl,ha⟩
theorem rN (xs:List PV) (h:rH Tryz.prog 6 Tryz.f5.params.toList xs):AcK 5 xs [] (fun x _=>x = .bool true):=by
 rw[Tryz.params5] at h
 obtain⟨x,r,rfl,h1,y,r2,rfl,h2,z,r3,rfl,h3,h4⟩:=h
 obtain rfl:=uB h4
 obtain⟨e1,rfl,_,g1⟩:=pC LJ h1
 obtain⟨ra,rfl,ha⟩:=nE (f:=prC) (Q:=fun p=>0≤p.1) fun r hr=>K7 (g1 r hr)
 obtain⟨e2,rfl,_,g2⟩:=pC LF h2
 obtain⟨ps,rfl,_⟩:=nE (f:=u1) (Q:=fun _=>True) fun r hr=>by
  obtain⟨n,h1,_⟩:=ny KW (g2 r hr)
  exact⟨n,h1,trivial⟩
 obtain⟨e3,rfl,_,g3⟩:=pC LM h3
 obtain⟨ns,rfl,_⟩:=nE (f:=i1) (Q:=fun _=>True) fun r hr=>by
  obtain⟨n,h1,_⟩:=ny u_3 (g3 r hr)
  exact⟨n,h1,trivial⟩
 exact rW ra ps ns ha
end Go.Proofs.YtenaelaapdhbdaaGreatDoor
