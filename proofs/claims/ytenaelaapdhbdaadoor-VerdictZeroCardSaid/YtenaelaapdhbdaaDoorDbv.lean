/-
  VerdictZero: its other loops.
-/
import Derived.Test.YtenaelaapdhbdaaDoorDbu
import Derived.Test.YtenaelaapdhbdaaDoorProg
namespace Go.Proofs.YtenaelaapdhbdaaDoor
open Go Go.AM Go.Proofs
theorem KV (cd cx rk cm:List PV) (ra:List RwI) (w:List Mt) (v:Vd) (I W:PV) (e sm:Int) (b:Bool) (i:Nat):(by refine(?_:_→_→_→_→Prop) [PV.ptr 2 0,I,W,.ptr 7 0,.int .i64 e,.int .i64 sm,.bool b,.int .i64 i] (List.getD (v.ps.map u1) (Int.toNat (i:Int)) []) (PV.int .i64 (wI ((i:Int)+1))) (Ob.abs (rkM (ar w) 6)); exact fun d f g h=>by refine(?_:_→Prop) [Ob.cells cd,.cells cx,.abs (rkI ra 40),h,.cells [.ptr 3 0],.cells rk,.dead,.cells [.int .u32 v.m,.int .u32 v.i,.int .i64 v.r,.list (v.ps.map u1) .no,.list (v.old.map i1) .no,.list (v.new.map i1) .no],.cells cm]; exact fun c=>∀(R:Ex→List PV→ae→Prop),by refine(?_:_→Prop) (R .normal [.ptr 2 0,I,W,.ptr 7 0,.int .i64 e,.int .i64 sm,.bool true,g] c); exact fun a=>(br (decide ((i:Int)<(↑(List.length (v.ps.map u1)):Int))) (InL (v.ps.map u1) 1 (i:Int)∧br (true && aP [.int .u32] 0 f) (∃(q:Nat) (l:List RwI) (most:Int) (t:Int),ak [.ptr 2 0,.int .u32 (cI f 0)] [.ptr q 0,.int .u32 t]∧bO c q (rkI l most)∧Ok l most∧br (b == false) (br ((aD l t == 0) == false) (R .normal [.ptr 2 0,I,W,.ptr 7 0,.int .i64 e,.int .i64 sm,.bool (aD l t == 10000),g] c) a) a) False) (R (.exit 2) d c))→Holds (wpc br Tryd.prog gl TZ [] (fun _=>0) (an [1,1,1,1,1,1,1,1,0,1,0] (ai Tryd.f4)) [] (av [5,9,10,14,16,17,18,19] d) [.cells cd,.cells cx,.abs (rkI ra 40),h,.cells [.ptr 3 0],.cells rk,.dead,.cells (vdC v),.cells cm] (fun ex e H=>R ex (List.map e [5,9,10,14,16,17,18,19]) H)):Prop):=fun R h=>ag (by kernel_rfl) h
theorem K8 (cd cx rk cm:List PV) (ra r0:List RwI) (l:List Int) (w:List Mt) (v:Vd) (b:Bool) (e sm:Int) (i:Nat):(by refine(?_:_→_→_→_→_→_→Prop) (Int.toNat (i:Int)) (PV.list (l.map i1) .no) (PV.list (bl r0) .no) (PV.int .i64 (wI ((i:Int)+1))) (PV.list (v.ps.map u1) .no) (Ob.abs (rkM (ar w) 6)); exact fun f j k p s u=>by refine(?_:_→_→_→_→Prop) [Ob.cells cd,.cells cx,.abs (rkI ra 40),u,.cells [.ptr 3 0],.cells rk,.dead,.cells [.int .u32 v.m,.int .u32 v.i,.int .i64 v.r,s,.list (v.old.map i1) .no,.list (v.new.map i1) .no],.cells cm] [PV.ptr 2 0,k,j,.ptr 7 0,.int .i64 e,.int .i64 sm,.bool b,.int .i64 i] (List.getD (l.map i1) f []) (List.getD (bl r0) f []); exact fun c d g h=>by refine(?_:_→_→_→Prop) (true && aP [.int .u32] 0 h) (true && aP [.int .i64] 0 g) (PV.int .u32 (cI h 0)); exact fun n o x=>∀(R:Ex→List PV→ae→Prop),by refine(?_:_→Prop) (R .ret d c); exact fun a=>(br (decide ((i:Int)<(↑(List.length (bl r0)):Int))) (InL (bl r0) 1 (i:Int)∧br n (∃(q:Nat) (l_1:List RwI) (most:Int) (t:Int),ak [.ptr 2 0,x] [.ptr q 0,.int .u32 t]∧bO c q (rkI l_1 most)∧Ok l_1 most∧InL (l.map i1) 1 (i:Int)∧br o (br (aD l_1 t == cI g 0) (R .normal [.ptr 2 0,k,j,.ptr 7 0,.int .i64 e,.int .i64 sm,.bool b,p] c) (br ((e != 0) == false) (InL (bl r0) 1 (i:Int)∧br n (∃(l_2:List Int) (tl:Tail) (t_1:Int),ak [s,x] [.list (l_2.map u1) tl,.int .u32 t_1]∧l_2.length≤1000000∧br ((!cf l_2 t_1) == false) (br (decide (aD l_1 t<0) == false) (br (decide (aD l_1 t>10000)) a (InL (l.map i1) 1 (i:Int)∧br o (R .normal [.ptr 2 0,k,j,.ptr 7 0,.int .i64 e,.int .i64 (wI (sm+wI (aD l_1 t-cI g 0))),.bool b,p] c) False)) a) a) False) a)) False) False) (R (.exit 4) d c))→Holds (wpc br Tryd.prog gl TZ [] (fun _=>0) (an [1,1,1,1,1,1,1,1,1,0,1,0] (ai Tryd.f4)) [] (av [5,9,10,14,16,17,18,22] d) [.cells cd,.cells cx,.abs (rkI ra 40),u,.cells [.ptr 3 0],.cells rk,.dead,.cells (vdC v),.cells cm] (fun ex e H=>R ex (List.map e [5,9,10,14,16,17,18,22]) H)):Prop):=fun R h=>ag (by kernel_rfl) h
def kN (ra:List RwI) (q:Int):Bool:=aD ra q == 0 || aD ra q == 10000
def KF:LSp:=fun e H Q=>∃(cd cx rk cm:List PV) (ra:List RwI) (w:List Mt) (v:Vd) (I W:PV) (en sm:Int),Ok ra 40∧v.ps.length≤1000000∧ak (List.map e [5,9,10,14,16,17,18,19]) [.ptr 2 0,I,W,.ptr 7 0,.int .i64 en,.int .i64 sm,.bool false,.int .i64 0]∧az H [.cells cd,.cells cx,.abs (rkI ra 40),.abs (rkM (ar w) 6),.cells [.ptr 3 0],.cells rk,.dead,.cells (vdC v),.cells cm]∧Q (.exit 2) (av [5,9,10,14,16,17,18,19] [.ptr 2 0,I,W,.ptr 7 0,.int .i64 en,.int .i64 sm,.bool (v.ps.any (kN ra)),.int .i64 v.ps.length]) [.cells cd,.cells cx,.abs (rkI ra 40),.abs (rkM (ar w) 6),.cells [.ptr 3 0],.cells rk,.dead,.cells (vdC v),.cells cm]
theorem Fv:∀ e H Q,KF e H Q→AW Tryd.prog gl Tryd.f4.ntmps (.loop (an [1,1,1,1,1,1,1,1,0,1,0] (ai Tryd.f4))) Q e H:=by
 rintro e H Q ⟨cd,cx,rk,cm,ra,w,v,I,W,en,sm,ok,hn,he,hH,hQ⟩
 refine aG (hn:=fun _=>0) aq we (.nil _ _ _ _ _) (σ:=Nat) [5,9,10,14,16,17,18,19] (fun i=>i≤v.ps.length) (fun i=>[.ptr 2 0,I,W,.ptr 7 0,.int .i64 en,.int .i64 sm,.bool ((v.ps.take i).any (kN ra)),.int .i64 i]) (fun _=>[.cells cd,.cells cx,.abs (rkI ra 40),.abs (rkM (ar w) 6),.cells [.ptr 3 0],.cells rk,.dead,.cells (vdC v),.cells cm]) (fun i=>v.ps.length-i) 0 (Nat.zero_le _) he hH ?_
 intro i hi
 have hi':i≤v.ps.length:=hi
 refine KV cd cx rk cm ra w v I W en sm _ i _ ?_
 simp only[ay,dt,au,List.length_map]
 by_cases h:i<v.ps.length
 ·rw[if_pos (by omega)]
  obtain⟨q,hq⟩:∃ q,q=v.ps.getD i 0:=⟨_,rfl⟩
  have inl:InL (v.ps.map u1) 1 (i:Int):=by rw[ec]; exact h
  have cu:∀ z:Int,cI (u1 z) 0=z:=fun _=>rfl
  have hs:(v.ps.take (i+1)).any (kN ra)=((v.ps.take i).any (kN ra) || kN ra q):=by rw[qP 0 h,← hq]
  simp only[getD_map 0 h,← hq,cu]
  refine⟨inl,?_⟩
  rw[if_pos (by rfl)]
  refine⟨2,ra,40,q,rfl,rfl,ok,?_⟩
  have fin:∀ b:Bool,(v.ps.take (i+1)).any (kN ra)=b→vM Q [5,9,10,14,16,17,18,19] (fun i=>i≤v.ps.length) (fun i=>[.ptr 2 0,I,W,.ptr 7 0,.int .i64 en,.int .i64 sm,.bool ((v.ps.take i).any (kN ra)),.int .i64 i]) (fun _=>[.cells cd,.cells cx,.abs (rkI ra 40),.abs (rkM (ar w) 6),.cells [.ptr 3 0],.cells rk,.dead,.cells (vdC v),.cells cm]) (fun i=>v.ps.length-i) i .normal [.ptr 2 0,I,W,.ptr 7 0,.int .i64 en,.int .i64 sm,.bool b,.int .i64 (wI ((i:Int)+1))] [.cells cd,.cells cx,.abs (rkI ra 40),.abs (rkM (ar w) 6),.cells [.ptr 3 0],.cells rk,.dead,.cells (vdC v),.cells cm]:=fun b hb=>⟨i+1,(show v.ps.length-(i+1)<v.ps.length-i by omega),h,by rw[ax h (by omega),← hb],[],rfl,Nat.le_refl _,.inl rfl⟩
  by_cases c:(v.ps.take i).any (kN ra)=true
  ·rw[if_neg (by rw[c]; decide)]
   exact fin true (by rw[hs,c]; rfl)
  ·have c:=eq_false_of_ne_true c
   rw[if_pos (by rw[c]; rfl)]
   by_cases c2:aD ra q=0
   ·rw[if_neg (by simp[c2])]
    exact fin true (by rw[hs,c]; unfold kN; simp[c2])
   ·rw[if_pos (by simp[c2])]
    exact fin _ (by rw[hs,c]; unfold kN; simp[c2])
 ·rw[if_neg (by omega)]
  have:i=v.ps.length:=by omega
  subst this
  rw[List.take_length]
  exact hQ
def me (ra r0:List RwI) (s:Int) (r:RwI):Int:=if aD ra r.id=aD r0 r.id then s else wI (s+wI (aD ra r.id-aD r0 r.id))
def KD:LSp:=fun e H Q=>∃(cd cx rk cm:List PV) (ra r0:List RwI) (w:List Mt) (v:Vd) (b:Bool) (en:Int),Ok ra 40∧v.ps.length≤1000000∧r0.length≤1000000∧(∀ s∈r0,aD ra s.id≠aD r0 s.id→en=0∧cf v.ps s.id=true∧0≤aD ra s.id∧aD ra s.id≤10000)∧ak (List.map e [5,9,10,14,16,17,18,22]) [.ptr 2 0,.list (bl r0) .no,.list ((eK r0 r0).map i1) .no,.ptr 7 0,.int .i64 en,.int .i64 0,.bool b,.int .i64 0]∧az H [.cells cd,.cells cx,.abs (rkI ra 40),.abs (rkM (ar w) 6),.cells [.ptr 3 0],.cells rk,.dead,.cells (vdC v),.cells cm]∧Q (.exit 4) (av [5,9,10,14,16,17,18,22] [.ptr 2 0,.list (bl r0) .no,.list ((eK r0 r0).map i1) .no,.ptr 7 0,.int .i64 en,.int .i64 (r0.foldl (me ra r0) 0),.bool b,.int .i64 r0.length]) [.cells cd,.cells cx,.abs (rkI ra 40),.abs (rkM (ar w) 6),.cells [.ptr 3 0],.cells rk,.dead,.cells (vdC v),.cells cm]
theorem FG:∀ e H Q,KD e H Q→AW Tryd.prog gl Tryd.f4.ntmps (.loop (an [1,1,1,1,1,1,1,1,1,0,1,0] (ai Tryd.f4))) Q e H:=by
 rintro e H Q ⟨cd,cx,rk,cm,ra,r0,w,v,b,en,ok,hn,hr,hp,he,hH,hQ⟩
 refine aG (hn:=fun _=>0) aq we (.nil _ _ _ _ _) (σ:=Nat) [5,9,10,14,16,17,18,22] (fun i=>i≤r0.length) (fun i=>[.ptr 2 0,.list (bl r0) .no,.list ((eK r0 r0).map i1) .no,.ptr 7 0,.int .i64 en,.int .i64 ((r0.take i).foldl (me ra r0) 0),.bool b,.int .i64 i]) (fun _=>[.cells cd,.cells cx,.abs (rkI ra 40),.abs (rkM (ar w) 6),.cells [.ptr 3 0],.cells rk,.dead,.cells (vdC v),.cells cm]) (fun i=>r0.length-i) 0 (Nat.zero_le _) he hH ?_
 intro i hi
 have hi':i≤r0.length:=hi
 refine K8 cd cx rk cm ra r0 (eK r0 r0) w v b en _ i _ ?_
 simp only[ay,dt,au,show(bl r0).length=r0.length by simp[bl]]
 by_cases h:i<r0.length
 ·rw[if_pos (by omega)]
  obtain⟨s,hs⟩:∃ s,s=r0.getD i default:=⟨_,rfl⟩
  have inl:InL (bl r0) 1 (i:Int):=by unfold bl; rw[cW (sz:=1) (f:=fun r:RwI=>[PV.int .u32 r.id]) (fun _=>rfl) (by decide)]; exact h
  have inl2:InL ((eK r0 r0).map i1) 1 (i:Int):=by rw[tx]; unfold eK; rw[List.length_map]; exact h
  have hg:(bl r0).getD i []=[.int .u32 s.id]:=by unfold bl; rw[getD_map default h,← hs]
  have hw:(eK r0 r0).getD i 0=aD r0 s.id:=by
   unfold eK
   rw[hs,List.getD_eq_getElem?_getD,List.getElem?_map,List.getD_eq_getElem?_getD,List.getElem?_eq_getElem h]; rfl
  have hw2:((eK r0 r0).map i1).getD i []=i1 (aD r0 s.id):=by rw[getD_map 0 (by unfold eK; rw[List.length_map]; exact h),hw]
  have ci:∀ z:Int,cI [.int .u32 z] 0=z:=fun _=>rfl
  have ci2:∀ z:Int,cI (i1 z) 0=z:=fun _=>rfl
  have hst:(r0.take (i+1)).foldl (me ra r0) 0=me ra r0 ((r0.take i).foldl (me ra r0) 0) s:=by rw[hs]; exact fW default h
  have fin:∀ z:Int,(r0.take (i+1)).foldl (me ra r0) 0=z→vM Q [5,9,10,14,16,17,18,22] (fun i=>i≤r0.length) (fun i=>[.ptr 2 0,.list (bl r0) .no,.list ((eK r0 r0).map i1) .no,.ptr 7 0,.int .i64 en,.int .i64 ((r0.take i).foldl (me ra r0) 0),.bool b,.int .i64 i]) (fun _=>[.cells cd,.cells cx,.abs (rkI ra 40),.abs (rkM (ar w) 6),.cells [.ptr 3 0],.cells rk,.dead,.cells (vdC v),.cells cm]) (fun i=>r0.length-i) i .normal [.ptr 2 0,.list (bl r0) .no,.list ((eK r0 r0).map i1) .no,.ptr 7 0,.int .i64 en,.int .i64 z,.bool b,.int .i64 (wI ((i:Int)+1))] [.cells cd,.cells cx,.abs (rkI ra 40),.abs (rkM (ar w) 6),.cells [.ptr 3 0],.cells rk,.dead,.cells (vdC v),.cells cm]:=fun z hz=>⟨i+1,(show r0.length-(i+1)<r0.length-i by omega),h,by rw[ax h (by omega),← hz],[],rfl,Nat.le_refl _,.inl rfl⟩
  simp only[hg,hw2,ci,ci2]
  refine⟨inl,?_⟩
  rw[if_pos (by rfl)]
  refine⟨2,ra,40,s.id,rfl,rfl,ok,inl2,?_⟩
  rw[if_pos (by rfl)]
  by_cases c:aD ra s.id=aD r0 s.id
  ·rw[if_pos (by simp[c])]
   exact fin _ (by rw[hst]; unfold me; rw[if_pos c])
  ·rw[if_neg (by simp[c])]
   obtain⟨p1,p2,p3,p4⟩:=hp s (by rw[hs]; exact bj h) c
   rw[if_pos (by rw[p1]; rfl)]
   refine⟨inl,?_⟩
   rw[if_pos (by rfl)]
   refine⟨v.ps,.no,s.id,rfl,hn,?_⟩
   rw[if_pos (by rw[p2]; rfl),if_pos (by simp; omega),if_neg (by simp; omega)]
   refine⟨inl2,?_⟩
   rw[if_pos (by rfl)]
   exact fin _ (by rw[hst]; unfold me; rw[if_neg c])
 ·rw[if_neg (by omega)]
  have:i=r0.length:=by omega
  subst this
  rw[List.take_length]
  exact hQ
end Go.Proofs.YtenaelaapdhbdaaDoor
