/-
  Judge.
-/
import Derived.Test.YtenaelaapdhbdaaDoorDbe
import Derived.Test.YtenaelaapdhbdaaDoorProg
namespace Go.Proofs.YtenaelaapdhbdaaDoor
open Go Go.AM Go.Proofs
namespace CI
theorem F3 (l:List Int):(l.map i1).flatten.length=l.length:=by rw[bq jO,Nat.mul_one]
theorem eE {n:Nat} (l:List Int):Low n (.list (l.map i1) .no):=bD iD l
theorem q7 (l:List Int):∀(K:PV→ae→Prop),(∀(b:Bool),(List.flatten (l.map i1)≠[]→b=false)→br b (K (.list [] .exact) []) (aX [] (l.map i1) 1 8∧List.all (List.flatten (l.map i1)) PV.one=true∧(l.map i1=[]→K (.list [] .exact) [])∧(l.map i1≠[]→K (.list ([]++l.map i1) (.tok 0)) [.tok])))→aj Tryd.prog gl 48 [.list (l.map i1) .no] [] K:=fun K h=>ah (T:=[]) (L:=[]) (fun o=>match o.dst with|some 7=>4|_=>0) Tryd.func48 (by kernel_rfl) (by kernel_rfl) (by kernel_rfl) (aB.nil _ _) (LOk.nil _ _ _ _ _) (ag (by kernel_rfl) h)
theorem vU (H:ae)  (K:PV→ae→Prop) (h:∀(b:Bool),(([]:List PV)≠[]→b=false)→br b (K (.list [] .exact) H) (aX [] [] 1 8∧K (.list [] .no) H)):aj Tryd.prog gl 48 [.list [] .no] H K:=
 ah (T:=[]) (L:=[]) (fun _=>0) Tryd.func48 (by kernel_rfl) (by kernel_rfl) (by kernel_rfl) (aB.nil _ _) (LOk.nil _ _ _ _ _) (ag (by kernel_rfl) h)
theorem wX (H:ae) (l:List Int):∀(K:PV→ae→Prop),(∀(b:Bool),(List.flatten (l.map i1)≠[]→b=false)→br b (K (.list [] .exact) H) (List.length (List.flatten (l.map i1))=List.length (l.map i1)*1∧List.length (l.map i1)*8≤140737488355328∧0<List.length (l.map i1)∧∀(c:Nat),List.length (l.map i1)≤c→K (.arr H.length 0 (List.length (l.map i1)) c) (H++[.cells (List.flatten (l.map i1)++List.flatten (List.replicate (c-List.length (l.map i1)) [.int .i64 0]))])))→aj Tryd.prog gl 48 [.list (l.map i1) .no] H K:=fun K h=>ah (T:=[]) (L:=[]) (fun o=>match o.dst with|some 7=>2|_=>0) Tryd.func48 (by kernel_rfl) (by kernel_rfl) (by kernel_rfl) (aB.nil _ _) (LOk.nil _ _ _ _ _) (ag (by kernel_rfl) h)
theorem vv {l:List Int} (h:l≠[]):(l.map i1).flatten≠[]:=by
 cases l with
 | nil=>exact absurd rfl h
 | cons a l=>simp[i1]
def zg (args:List PV) (K:List (List PV)→Prop):Prop:=∃(l:List Int) (tl:Tail),ak args [.list (l.map i1) tl]∧l.length≤1000000∧K (l.map i1)
theorem AY:aO Tryd.prog gl 48 (.mk zg):=by
 rintro args K ⟨l,tl,he,hl,hk⟩
 have he:args=_:=he
 subst he
 refine⟨l.map i1,hk,H8 aq (.cons (.list _ _) .nil) (bw (eE l)) (bh fun a _=>iD a) (q7 l _ ?_)⟩
 intro b hb
 rw[ay]
 cases b with
 | true=>
  rw[if_pos rfl]
  have hn:l=[]:=Classical.byContradiction fun h=>absurd (hb (vv h)) (by decide)
  subst hn
  exact⟨fun _=>rfl,fun h=>absurd rfl h⟩
 | false=>
  rw[if_neg (by decide)]
  refine⟨⟨(fun _ h=>nomatch h),b9 jO l,by simp; omega⟩,?_,fun h=>?_,fun h=>?_⟩
  ·exact List.all_eq_true.2 (by have:=F3 l; intro y hy; obtain⟨c,h2,h3⟩:=List.mem_flatten.1 hy; obtain⟨a,_,rfl⟩:=List.mem_map.1 h2; exact ie a y h3)
  ·exact⟨fun _=>rfl,fun h2=>absurd h h2⟩
  ·exact⟨fun h2=>absurd h2 h,fun _=>⟨0,rfl,rfl⟩⟩
def HS (args:List PV) (K:PV→Prop):Prop:=∃(l:List Int) (tl:Tail),ak args [.list (l.map i1) tl]∧l.length≤1000000∧K (.list (l.map i1) .no)
theorem G3:aO Tryd.prog gl 48 (.pure HS):=by
 rintro args K ⟨l,tl,he,hl,hk⟩
 obtain⟨es,rfl,h⟩:=AY [.list (l.map i1) .no] (fun es=>es=l.map i1) ⟨l,.no,rfl,hl,rfl⟩
 have he:args=_:=he
 subst he
 refine bH aq (.cons (.list _ _) .nil) (bw (eE l)) (eE l) (bA ((h []).mono fun x H' k=>?_)) hk
 by_cases c:l.map i1=[]
 ·obtain⟨rfl,_⟩:=k.1 c
  rw[c]; exact⟨_,.list _ _,rfl⟩
 ·obtain⟨rfl,_⟩:=k.2 c
  exact⟨_,.list _ _,rfl⟩
end CI
def DG (args:List PV) (K:PV→Prop):Prop:=∃(a b:List Int) (r:Int),ak args [.list (a.map i1) .no,.list (b.map i1) .no,.int .i64 r]∧a.length≤1000000∧b.length≤1000000∧(let v:=Elo.upd a b r; K (.tup [.list (v.1.map i1) .no,.list (v.2.1.map i1) .no,.int .i64 v.2.2]))
theorem Ez:aO Tryd.prog gl 49 (.pure DG):=by
 rintro args K ⟨a,b,r,he,ha,hb,hk⟩
 have he:args=_:=he
 subst he
 exact Elo.yD _ K ⟨a,b,rfl,rfl,by unfold Elo.fL; omega,by unfold Elo.fL; omega,NT.no,NT.no,hk⟩
def TJU:Tab:=[(45,.read vN),(46,.pure CU.mv),(47,.pure CI.mv),(48,.pure CI.HS),(49,.pure DG)]
theorem Jh:aB Tryd.prog gl TJU:= .cons zl (.cons CU.o4 (.cons CI.o4 (.cons CI.G3 (.cons Ez (.nil _ _)))))
theorem IE (ra:List RwI) (most:Int) (c:Mt) (r:Int):∀(R:Ex→List PV→ae→Prop),(R .normal [.ptr 0 0,.int .i64 r,.ptr 1 0,.ptr 2 0,.ptr 3 0] [.abs (rkI ra most),.cells [.int .u32 c.id,.int .i64 c.md,.int .u32 c.ins,.list (c.rows.map rrc) .no,.list (c.aa.map stc) .no],.cells [.int .u32 0,.int .u32 0,.int .i64 0,.list [] .exact,.list [] .exact,.list [] .exact],.cells [.int .i64 0]])→Holds (wpc br Tryd.prog gl [] [] (fun _=>0) (cw [0] (ai Tryd.f21)) [] (av [0,1,2] [.ptr 0 0,c.pv,.int .i64 r]) [.abs (rkI ra most)] (fun ex e H=>R ex (List.map e [0,2,4,6,7]) H)):=fun R h=>ag (by kernel_rfl) h
theorem Ka (ra:List RwI) (most:Int) (c:Mt) (r:Int):(by refine(?_:_→_→_→_→_→Prop) [PV.int .u32 c.id,.int .i64 c.md,.int .u32 c.ins,.list (c.rows.map rrc) .no,.list (c.aa.map stc) .no] (Ob.cells [.int .u32 0,.int .u32 0,.int .i64 0,.list [] .exact,.list [] .exact,.list [] .exact]) (Ob.abs (rkI ra most)) [PV.ptr 2 0,.ptr 3 0] (Ob.cells [.int .i64 0]); exact fun w x y z A=>∀(R:Ex→List PV→ae→Prop),by refine(?_:_→Prop) (R .ret z [y,.cells w,x,.cells [.int .i64 2]]); exact fun v=>(br (decide (r<0) == false) (br (decide (r≥3)) v (∃(q:Nat) (ra_1:List RwI) (most_1:Int) (c_1:Mt) (t1:Tail) (t2:Tail) (k:Int),by refine(?_:_→Prop) (bn ra_1 c_1.aa k); exact fun u=>by refine(?_:_→Prop) (Prod.snd u); exact fun s=>by refine(?_:_→_→Prop) [Ob.abs (rkI ra most),.cells w,x,.cells [.int .i64 (Prod.snd s)]] (List.map i1 (Prod.fst s)); exact fun p t=>ak [.ptr 0 0,.agg w,.int .i64 1] [.ptr q 0,.agg [.int .u32 c_1.id,.int .i64 c_1.md,.int .u32 c_1.ins,.list (c_1.rows.map rrc) t1,.list (c_1.aa.map stc) t2],.int .i64 k]∧bO [y,.cells w,x,A] q (rkI ra_1 most_1)∧Ok ra_1 most_1∧c_1.aa.length≤1000000∧br (Prod.snd s != 0) (R .ret z p) (∃(q:Nat) (ra_2:List RwI) (most_2:Int) (c_2:Mt) (t1:Tail) (t2:Tail) (k_1:Int),by refine(?_:_→Prop) (bn ra_2 c_2.aa k_1); exact fun n=>by refine(?_:_→Prop) (Prod.snd n); exact fun j=>by refine(?_:_→Prop) (List.map i1 (Prod.fst j)); exact fun m=>ak [.ptr 0 0,.agg w,.int .i64 2] [.ptr q 0,.agg [.int .u32 c_2.id,.int .i64 c_2.md,.int .u32 c_2.ins,.list (c_2.rows.map rrc) t1,.list (c_2.aa.map stc) t2],.int .i64 k_1]∧bO p q (rkI ra_2 most_2)∧Ok ra_2 most_2∧c_2.aa.length≤1000000∧br (Prod.snd j != 0) (R .ret z [y,.cells w,x,.cells [.int .i64 (Prod.snd j)]]) (∃(a:List Int) (b:List Int),ak [.list [[PV.list (List.map u1 (Prod.fst u)) .no],[.list (List.map u1 (Prod.fst n)) .no]] .exact] [.list [[PV.list (a.map u1) .no],[.list (b.map u1) .no]] .exact]∧a.length+b.length≤1000000∧∃(a_1:List Int) (b_1:List Int),by refine(?_:_→Prop) (PV.list (List.map i1 (a_1++b_1)) .no); exact fun i=>ak [.list [[PV.list t .no],[.list m .no]] .exact] [.list [[PV.list (a_1.map i1) .no],[.list (b_1.map i1) .no]] .exact]∧a_1.length+b_1.length≤1000000∧∃(l:List Int) (tl:Tail),by refine(?_:_→Prop) (Ob.cells [.int .u32 c.id,.int .u32 c.ins,.int .i64 r,.list (List.map u1 (a++b)) .no,i,.list (l.map i1) .no]); exact fun h=>by refine(?_:_→Prop) (R .ret z [y,.cells w,h,A]); exact fun g=>ak [i] [.list (l.map i1) tl]∧l.length≤1000000∧br (decide ((↑(List.length t):Int)>0) == true) (br (decide ((↑(List.length m):Int)>0)) (∃(a_2:List Int) (b_2:List Int) (r_1:Int),by refine(?_:_→Prop) (Elo.upd a_2 b_2 r_1); exact fun f=>by refine(?_:_→Prop) (Prod.snd f); exact fun d=>ak [.list t .no,.list m .no,.int .i64 r] [.list (a_2.map i1) .no,.list (b_2.map i1) .no,.int .i64 r_1]∧a_2.length≤1000000∧b_2.length≤1000000∧br (Prod.snd d != 0) (R .ret z [y,.cells w,h,.cells [.int .i64 (Prod.snd d)]]) (∃(a_3:List Int) (b_3:List Int),ak [.list [[PV.list (List.map i1 (Prod.fst f)) .no],[.list (List.map i1 (Prod.fst d)) .no]] .exact] [.list [[PV.list (a_3.map i1) .no],[.list (b_3.map i1) .no]] .exact]∧a_3.length+b_3.length≤1000000∧R .ret z [y,.cells w,.cells [.int .u32 c.id,.int .u32 c.ins,.int .i64 r,.list (List.map u1 (a++b)) .no,i,.list (List.map i1 (a_3++b_3)) .no],A])) g) g)))) v)→Holds (wpc br Tryd.prog gl TJU [] (fun o=>match o.dst with|some 22=>1|some 81=>1|some 25=>1|some 36=>1|some 32=>201006|some 33=>301001|some 43=>201006|some 44=>301001|some 46=>101001|some 48=>101201|some _=>0|none=>match o.op with| .store _ (.tmp 6) _=>201006| .store _ (.tmp 7) _=>301001|_=>0) (cw [1,1] (ai Tryd.f21)) [] (av [0,2,4,6,7] [.ptr 0 0,.int .i64 r,.ptr 1 0,.ptr 2 0,.ptr 3 0]) [y,.cells (mtc c),x,A] (fun ex e H=>R ex (List.map e [6,7]) H)):Prop):=fun R h=>ag (by kernel_rfl) h
theorem IX (R0 B0:Ob) (m i r e:Int) (x y z:PV)  (K:PV→ae→Prop) (h:br (e != 0) (K (.tup []) [R0,B0,.cells [.int .u32 0,.int .u32 0,.int .i64 0,.list [] .exact,.list [] .exact,.list [] .exact],.cells [.int .i64 e]]) (K (.tup []) [R0,B0,.cells [.int .u32 m,.int .u32 i,.int .i64 r,x,y,z],.cells [.int .i64 e]])):gG Tryd.prog gl 44 [.ptr 3 0,.ptr 2 0] [R0,B0,.cells [.int .u32 m,.int .u32 i,.int .i64 r,x,y,z],.cells [.int .i64 e]] K:=
 o9 (T:=[]) (L:=[]) (fun _=>0) Tryd.func44 (by kernel_rfl) (by kernel_rfl) (by kernel_rfl) (aB.nil _ _) (LOk.nil _ _ _ _ _) (ag (by kernel_rfl) h)
structure Vd where
 m:Int
 i:Int
 r:Int
 ps:List Int
 old:List Int
 new:List Int
def vd0:Vd:=⟨0,0,0,[],[],[]⟩
def vdC (v:Vd):List PV:=[.int .u32 v.m,.int .u32 v.i,.int .i64 v.r,.list (v.ps.map u1) .no,.list (v.old.map i1) .no,.list (v.new.map i1) .no]
theorem qe {n:Nat} (v:Vd):∀ y∈vdC v,Low n y:=by
 intro y hy
 simp only[vdC,List.mem_cons,List.not_mem_nil,or_false] at hy
 rcases hy with rfl|rfl|rfl|rfl|rfl|rfl<;>first|exact .int _ _|exact bD bU _|exact bD iD _
def bE (ra:List RwI) (c:Mt) (r:Int):Vd×Int:=
 if r<0∨3≤r then(vd0,2) else if(bn ra c.aa 1).2.2≠0 then(vd0,(bn ra c.aa 1).2.2) else if(bn ra c.aa 2).2.2≠0 then(vd0,(bn ra c.aa 2).2.2)
 else if 0<(bn ra c.aa 1).2.1.length∧0<(bn ra c.aa 2).2.1.length then
  (if(Elo.upd (bn ra c.aa 1).2.1 (bn ra c.aa 2).2.1 r).2.2≠0 then(vd0,(Elo.upd (bn ra c.aa 1).2.1 (bn ra c.aa 2).2.1 r).2.2)
   else(⟨c.id,c.ins,r,(bn ra c.aa 1).1++(bn ra c.aa 2).1,(bn ra c.aa 1).2.1++(bn ra c.aa 2).2.1,(Elo.upd (bn ra c.aa 1).2.1 (bn ra c.aa 2).2.1 r).1++(Elo.upd (bn ra c.aa 1).2.1 (bn ra c.aa 2).2.1 r).2.1⟩,0))
 else(⟨c.id,c.ins,r,(bn ra c.aa 1).1++(bn ra c.aa 2).1,(bn ra c.aa 1).2.1++(bn ra c.aa 2).2.1,(bn ra c.aa 1).2.1++(bn ra c.aa 2).2.1⟩,0)
theorem iH (ra:List RwI) (l:List Se) (k:Int):(bn ra l k).1.length≤l.length∧(bn ra l k).2.1.length=(bn ra l k).1.length:=by
 unfold bn
 split
 ·exact⟨by rw[List.length_map]; exact List.length_filter_le _ _,by rw[List.length_map,List.length_map]⟩
 ·exact⟨Nat.zero_le _,rfl⟩
theorem D8 (a b:List Int) (r:Int):(Elo.upd a b r).1.length≤4∧(Elo.upd a b r).2.1.length≤4:=by
 unfold Elo.upd
 split
 ·exact⟨Nat.zero_le _,Nat.zero_le _⟩
 ·split
  ·exact⟨Nat.zero_le _,Nat.zero_le _⟩
  ·simp only[Elo.eW]; omega
def vJ (K:PV→ae→Prop):Ex→List PV→ae→Prop:=fun ex vs H3=>(ex = .normal∨ex = .ret)∧gG Tryd.prog gl 44 [.ptr 3 0,.ptr 2 0] H3 fun _ H4=>kW Tryd.prog Tryd.f21.results.toList K ex (av [6,7] vs) H4
set_option maxRecDepth 10000 in
theorem HT {K:PV→ae→Prop} {R0 B0:Ob} {m i r e:Int} {x y z:PV} (h:e≠0→K (.tup [.agg [.int .u32 0,.int .u32 0,.int .i64 0,.list [] .exact,.list [] .exact,.list [] .exact],.int .i64 e]) [R0,B0,.cells [.int .u32 0,.int .u32 0,.int .i64 0,.list [] .exact,.list [] .exact,.list [] .exact],.cells [.int .i64 e]])
  (h0:e=0→K (.tup [.agg [.int .u32 m,.int .u32 i,.int .i64 r,x,y,z],.int .i64 e]) [R0,B0,.cells [.int .u32 m,.int .u32 i,.int .i64 r,x,y,z],.cells [.int .i64 e]]):vJ K .ret [.ptr 2 0,.ptr 3 0] [R0,B0,.cells [.int .u32 m,.int .u32 i,.int .i64 r,x,y,z],.cells [.int .i64 e]]:=by
 refine⟨.inr rfl,IX R0 B0 m i r e x y z _ ?_⟩
 rw[ay]
 by_cases c:e=0
 ·rw[if_neg (by simp[c])]
  exact Eq.mpr (by kernel_rfl) (h0 c)
 ·rw[if_pos (by simp[c])]
  exact Eq.mpr (by kernel_rfl) (h c)
def qT (v:Vd×Int):PV:= .tup [.agg (vdC v.1),.int .i64 v.2]
theorem tO {n:Nat} (v:Vd×Int):Low n (qT v):= .tup _ (bF (.agg _ (qe _)) (.int _ _))
def jK (ra:List RwI) (most:Int) (v:Vd×Int):PV→ae→Prop:=fun x H'=>Wk x (qT v)∧∃ G,H' = .abs (rkI ra most)::G
theorem Je {e:Int}:Wk (.tup [.agg [.int .u32 0,.int .u32 0,.int .i64 0,.list [] .exact,.list [] .exact,.list [] .exact],.int .i64 e]) (qT (vd0,e)):= .tup (.cons (.agg (xs':=vdC vd0) (.cons (.refl _) (.cons (.refl _) (.cons (.refl _) (.cons (.list _ _) (.cons (.list _ _) (.cons (.list _ _) .nil))))))) (.cons (.refl _) .nil))
theorem BA {ra:List RwI} {most:Int} {c:Mt} {v:Vd×Int} {m i r e:Int} {x y z:PV} (h:v=(vd0,e)) (he:e≠0):vJ (jK ra most v) .ret [.ptr 2 0,.ptr 3 0] [.abs (rkI ra most),.cells (mtc c),.cells [.int .u32 m,.int .u32 i,.int .i64 r,x,y,z],.cells [.int .i64 e]]:=
 HT (fun _=>by rw[h]; exact⟨Je,_,rfl⟩) (fun h0=>absurd h0 he)
theorem AS {ra:List RwI} {most:Int} {c:Mt} {v:Vd×Int} {w:Vd} (h:v=(w,0)):vJ (jK ra most v) .ret [.ptr 2 0,.ptr 3 0] [.abs (rkI ra most),.cells (mtc c),.cells (vdC w),.cells [.int .i64 0]]:=
 HT (fun h0=>absurd rfl h0) (fun _=>by rw[h]; exact⟨.refl _,_,rfl⟩)
theorem K4 [Dfr] {ra:List RwI} {most:Int} {c:Mt} {r:Int} (ok:Ok ra most) (hl:c.aa.length≤100000) {e:Env} (he:ak (List.map e [0,2,4,6,7]) [.ptr 0 0,.int .i64 r,.ptr 1 0,.ptr 2 0,.ptr 3 0]):AW Tryd.prog gl Tryd.f21.ntmps (cw [1,1] (ai Tryd.f21)) (fun ex e3 H3=>(ex = .normal∨ex = .ret)∧gG Tryd.prog gl 44 [.ptr 3 0,.ptr 2 0] H3 fun _ H4=>kW Tryd.prog Tryd.f21.results.toList (jK ra most (bE ra c r)) ex e3 H4) e [.abs (rkI ra most),.cells (mtc c),.cells [.int .u32 0,.int .u32 0,.int .i64 0,.list [] .exact,.list [] .exact,.list [] .exact],.cells [.int .i64 0]]:=by
 refine dQ (T:=TJU) (slots:=[0,2,4,6,7]) (outs:=[6,7]) (hn:=fun o=>match o.dst with|some 22=>1|some 81=>1|some 25=>1|some 36=>1|some 32=>201006|some 33=>301001|some 43=>201006|some 44=>301001|some 46=>101001|some 48=>101201|some _=>0|none=>match o.op with| .store _ (.tmp 6) _=>201006| .store _ (.tmp 7) _=>301001|_=>0) Jh (.nil _ _ _ _ _) he rfl (Ka ra most c r (vJ (jK ra most (bE ra c r))) ?_)
 simp only[ay,List.length_map]
 by_cases c1:r<0
 ·rw[if_neg (by simpa using c1)]
  exact BA (by unfold bE; rw[if_pos (.inl c1)]) (by decide)
 rw[if_pos (by simpa using c1)]
 by_cases c2:3≤r
 ·rw[if_pos (by simpa using c2)]
  exact BA (by unfold bE; rw[if_pos (.inr c2)]) (by decide)
 rw[if_neg (by simpa using c2)]
 have n0:¬ (r<0∨3≤r):=by omega
 refine⟨0,ra,most,c,.no,.no,1,rfl,rfl,ok,by omega,?_⟩
 obtain⟨l1,l2⟩:=iH ra c.aa 1
 obtain⟨l3,l4⟩:=iH ra c.aa 2
 by_cases c3:(bn ra c.aa 1).2.2=0
 ·rw[if_neg (by simpa using c3)]
  refine⟨0,ra,most,c,.no,.no,2,rfl,rfl,ok,by omega,?_⟩
  by_cases c4:(bn ra c.aa 2).2.2=0
  ·rw[if_neg (by simpa using c4)]
   refine⟨_,_,rfl,by omega,_,_,rfl,by omega,_,.no,rfl,by rw[List.length_append]; omega,?_⟩
   have good:∀ w e,0<(bn ra c.aa 1).2.1.length∧0<(bn ra c.aa 2).2.1.length→_:=fun(_:Unit) (_:Unit) h=>h
   clear good
   by_cases c5:0<(bn ra c.aa 1).2.1.length
   ·rw[if_pos (by rw[decide_eq_true (by omega)]; try rfl)]
    by_cases c6:0<(bn ra c.aa 2).2.1.length
    ·rw[if_pos (by rw[decide_eq_true (by omega)]; try rfl)]
     refine⟨_,_,r,rfl,by omega,by omega,?_⟩
     obtain⟨l5,l6⟩:=D8 (bn ra c.aa 1).2.1 (bn ra c.aa 2).2.1 r
     by_cases c7:(Elo.upd (bn ra c.aa 1).2.1 (bn ra c.aa 2).2.1 r).2.2=0
     ·rw[if_neg (by simpa using c7)]
      refine⟨_,_,rfl,by omega,?_⟩
      exact AS (w:=⟨c.id,c.ins,r,_,_,_⟩) (by unfold bE; rw[if_neg n0,if_neg (by simpa using c3),if_neg (by simpa using c4),if_pos ⟨c5,c6⟩,if_neg (by simpa using c7)])
     ·rw[if_pos (by simpa using c7)]
      exact BA (by unfold bE; rw[if_neg n0,if_neg (by simpa using c3),if_neg (by simpa using c4),if_pos ⟨c5,c6⟩,if_pos c7]) c7
    ·rw[if_neg (by rw[decide_eq_false (by omega)]; decide)]
     exact AS (w:=⟨c.id,c.ins,r,_,_,_⟩) (by unfold bE; rw[if_neg n0,if_neg (by simpa using c3),if_neg (by simpa using c4),if_neg (fun h=>c6 h.2)])
   ·rw[if_neg (by rw[decide_eq_false (by omega)]; decide)]
    exact AS (w:=⟨c.id,c.ins,r,_,_,_⟩) (by unfold bE; rw[if_neg n0,if_neg (by simpa using c3),if_neg (by simpa using c4),if_neg (fun h=>c5 h.1)])
  ·rw[if_pos (by simpa using c4)]
   exact BA (by unfold bE; rw[if_neg n0,if_neg (by simpa using c3),if_pos c4]) c4
 ·rw[if_pos (by simpa using c3)]
  exact BA (by unfold bE; rw[if_neg n0,if_pos c3]) c3
def ww (args:List PV) (H:ae) (K:PV→Prop):Prop:=∃(q:Nat) (ra:List RwI) (most:Int) (c:Mt) (t1 t2:Tail) (r:Int),ak args [.ptr q 0,.agg [.int .u32 c.id,.int .i64 c.md,.int .u32 c.ins,.list (c.rows.map rrc) t1,.list (c.aa.map stc) t2],.int .i64 r]∧bO H q (rkI ra most)∧Ok ra most∧c.aa.length≤100000∧
 (let v:=bE ra c r; K (.tup [.agg [.int .u32 v.1.m,.int .u32 v.1.i,.int .i64 v.1.r,.list (v.1.ps.map u1) .no,.list (v.1.old.map i1) .no,.list (v.1.new.map i1) .no],.int .i64 v.2]))
theorem yZ:aO Tryd.prog gl 21 (.read ww):=by
 rintro args H K ⟨q,ra,most,c,t1,t2,r,he,hA,ok,hl,hk⟩
 have he:args=_:=he
 subst he
 refine⟨qT (bE ra c r),?_,hk⟩
 refine bg (.cons (.refl _) (.cons (.agg (xs':=mtc c) (.cons (.refl _) (.cons (.refl _) (.cons (.refl _) (.cons (.list _ _) (.cons (.list _ _) .nil)))))) (.cons (.refl _) .nil))) ?_
 refine sK aq hA (args0:=[.ptr 0 0,c.pv,.int .i64 r]) (.cons (Ren.ptr (ρ:=fun _=>q) (n:=1) 0 0 (by omega)) (.cons (.low c.low) (.cons (.low (.int _ _)) .nil))) (tO _) ?_
 refine bA (aj.mono (K:=jK ra most (bE ra c r)) ?_ fun x H' ⟨h1,h2⟩=>⟨_,h1,rfl,h2⟩)
 refine lA (t:=15) 0 Tryd.func21 (by kernel_rfl) (by kernel_rfl) (by kernel_rfl) (by kernel_rfl) (by kernel_rfl) ?_
 refine dQ (T:=[]) (slots:=[0,1,2]) (lF:=[.ptr 0 0,c.pv,.int .i64 r]) (outs:=[0,2,4,6,7]) (hn:=fun _=>0) (.nil _ _) (.nil _ _ _ _ _) rfl rfl (IE ra most c r (fun ex vs H'=>ex = .normal∧opw Tryd.prog gl (J9 (ai Tryd.f21)).op 0 (ev gl (av [0,2,4,6,7] vs)) H' fun x H2=>∃ F caps,x = .fn F caps∧cG Tryd.prog F=true∧
   ∀ D:Dfr,@AW D Tryd.prog gl Tryd.f21.ntmps (cw [1,1] (ai Tryd.f21)) (fun ex e3 H3=>(ex = .normal∨ex = .ret)∧gG Tryd.prog gl F caps H3 fun _ H4=>kW Tryd.prog Tryd.f21.results.toList (jK ra most (bE ra c r)) ex e3 H4) (upd (av [0,2,4,6,7] vs) (some 15) x) H2) ?_)
 refine⟨rfl,?_⟩
 have hmk:(J9 (ai Tryd.f21)).op = .makeFunc (.func 44) #[] #[.tmp 7,.tmp 6]:=by kernel_rfl
 rw[hmk]
 have key:∀ K':PV→ae→Prop,K' (.fn 44 [.ptr 3 0,.ptr 2 0]) [.abs (rkI ra most),.cells (mtc c),.cells [.int .u32 0,.int .u32 0,.int .i64 0,.list [] .exact,.list [] .exact,.list [] .exact],.cells [.int .i64 0]]→opw Tryd.prog gl (.makeFunc (.func 44) #[] #[.tmp 7,.tmp 6]) 0 (ev gl (av [0,2,4,6,7] [.ptr 0 0,.int .i64 r,.ptr 1 0,.ptr 2 0,.ptr 3 0])) [.abs (rkI ra most),.cells (mtc c),.cells [.int .u32 0,.int .u32 0,.int .i64 0,.list [] .exact,.list [] .exact,.list [] .exact],.cells [.int .i64 0]] K':=fun K' h=>⟨rfl,Eq.mpr (by kernel_rfl) h⟩
 exact key _ ⟨44,[.ptr 3 0,.ptr 2 0],rfl,by kernel_rfl,fun D=> @K4 D ra most c r ok hl _ rfl⟩
end Go.Proofs.YtenaelaapdhbdaaDoor
