/-
  A team's players and ratings.
-/
import Derived.Test.YtenaelaapdhbdaaDoorDbd
import Derived.Test.YtenaelaapdhbdaaDoorA4
import Derived.Test.YtenaelaapdhbdaaDoorProg
namespace Go.Proofs.YtenaelaapdhbdaaDoor
open Go Go.AM Go.Proofs
def jo (k:Int) (s:Se):Bool:=s.tm == k && (s.st == 2 || s.st == 3)
def cg (l:List Se) (k:Int):List Se:=l.filter (jo k)
def pu1 (s:Se):List PV:=u1 s.pl
def pi1 (ra:List RwI) (s:Se):List PV:=i1 (aD ra s.pl)
theorem wQ {n:Nat} (s:Se):∀ y∈pu1 s,Low n y:=bU _
theorem vj {n:Nat} (ra:List RwI) (s:Se):∀ y∈pi1 ra s,Low n y:=iD _
def TVT:Tab:=[(11,.read oG)]
theorem uW:aB Tryd.prog gl TVT:= .cons nj (.nil _ _)
theorem Jc (ra:List RwI) (most:Int) (c:Mt) (k:Int) (i:Nat):(by refine(?_:_→_→_→_→_→Prop) (List.getD (c.aa.map stc) (Int.toNat (i:Int)) []) (PV.list (c.aa.map stc) .no) (PV.int .i64 c.aa.length) (PV.int .i64 (wI ((i:Int)+1))) (Ob.abs (rkI ra most)); exact fun g n p v w=>by refine(?_:_→_→_→_→Prop) (Ob.cells [.int .u32 c.id,.int .i64 c.md,.int .u32 c.ins,.list (c.rows.map rrc) .no,n]) [[PV.int .u32 (cI g 0)]] [PV.ptr 0 0,.int .i64 k,.list [] .exact,.list [] .exact,.int .i64 0,n,p,.int .i64 i] (PV.int .u32 (cI g 0)); exact fun j r s u=>by refine(?_:_→Prop) (Ob.cells [u,.int .i64 (cI g 1),.int .i64 (cI g 2),.int .i64 (cI g 3),.int .i64 (cI g 4),.int .u64 (cI g 5)]); exact fun m=>by refine(?_:_→_→Prop) [Ob.abs (rkI ra most),j,m] [w,j,m,.tok,.tok]; exact fun h x=>∀(R:Ex→List PV→ae→Prop),by refine(?_:_→_→Prop) (R .normal [.ptr 0 0,.int .i64 k,.list [] .exact,.list [] .exact,.int .i64 0,n,p,v] h) (R .ret [.ptr 0 0,.int .i64 k,.list [] .exact,.list [] .exact,.int .i64 12,n,p,.int .i64 i] h); exact fun d f=>(br (decide ((i:Int)<(c.aa.length:Int))) (InL (c.aa.map stc) 6 (i:Int)∧br (true && aP [.int .u32,.int .i64,.int .i64,.int .i64,.int .i64,.int .u64] 0 g) (br ((cI g 1 != k) == false) (br ((cI g 3 != 2) == true) (br (cI g 3 != 3) d (∃(q:Nat) (l:List RwI) (most_1:Int) (t:Int),by refine(?_:_→Prop) [[PV.int .i64 (aD l t)]]; exact fun a=>ak [.ptr 0 0,u] [.ptr q 0,.int .u32 t]∧bO h q (rkI l most_1)∧Ok l most_1∧br (!has l t) f (aX [] r 1 4∧(List.all [u] PV.one=true∧r≠[])∧aX [] a 1 8∧(List.all [.int .i64 (aD l t)] PV.one=true∧a≠[])∧R .normal [.ptr 0 0,.int .i64 k,.list r (.tok 3),.list a (.tok 4),.int .i64 0,n,p,v] x))) (∃(q:Nat) (l:List RwI) (most_1:Int) (t:Int),by refine(?_:_→Prop) [[PV.int .i64 (aD l t)]]; exact fun b=>ak [.ptr 0 0,u] [.ptr q 0,.int .u32 t]∧bO h q (rkI l most_1)∧Ok l most_1∧br (!has l t) f (aX [] r 1 4∧(List.all [u] PV.one=true∧r≠[])∧aX [] b 1 8∧(List.all [.int .i64 (aD l t)] PV.one=true∧b≠[])∧R .normal [.ptr 0 0,.int .i64 k,.list r (.tok 3),.list b (.tok 4),.int .i64 0,n,p,v] x))) d) False) (R (.exit 0) s [w,j]))→Holds (wpc br Tryd.prog gl TVT [] (fun o=>match o.dst with|some 47=>1|some 51=>1|_=>0) (an [1,0,1,0] (ai Tryd.f45)) [] (av [0,2,6,7,8,14,15,16] s) [w,.cells (mtc c)] (fun ex e H=>R ex (List.map e [0,2,6,7,8,14,15,16]) H)):Prop):=fun R h=>ag (by kernel_rfl) h
theorem I8 (ra:List RwI) (most:Int) (c:Mt) (k:Int) (a:List Se) (i:Nat):(by refine(?_:_→_→_→_→_→_→_→Prop) (List.getD (c.aa.map stc) (Int.toNat (i:Int)) []) (PV.list (c.aa.map stc) .no) (PV.int .i64 c.aa.length) (List.map (pi1 ra) a) (PV.int .i64 (wI ((i:Int)+1))) (PV.list (a.map pu1) (.tok 2)) (Ob.abs (rkI ra most)); exact fun h p r v w y C=>by refine(?_:_→_→_→_→_→Prop) (Ob.cells [.int .u32 c.id,.int .i64 c.md,.int .u32 c.ins,.list (c.rows.map rrc) .no,p]) [[PV.int .u32 (cI h 0)]] (PV.int .u32 (cI h 0)) C C; exact fun m s u A B=>by refine(?_:_→_→Prop) (Ob.cells [u,.int .i64 (cI h 1),.int .i64 (cI h 2),.int .i64 (cI h 3),.int .i64 (cI h 4),.int .u64 (cI h 5)]) (PV.list (a.map pu1++s) (.tok 5)); exact fun n z=>by refine(?_:_→_→Prop) [A,m,.tok,.tok,n] [A,m,.dead,.dead,n,.tok,.tok]; exact fun j x=>∀(R:Ex→List PV→ae→Prop),by refine(?_:_→_→Prop) (R .normal [.ptr 0 0,.int .i64 k,y,.list v (.tok 3),.int .i64 0,p,r,w] j) (R .ret [.ptr 0 0,.int .i64 k,.list [] .exact,.list [] .exact,.int .i64 12,p,r,.int .i64 i] j); exact fun f g=>(br (decide ((i:Int)<(c.aa.length:Int))) (InL (c.aa.map stc) 6 (i:Int)∧br (true && aP [.int .u32,.int .i64,.int .i64,.int .i64,.int .i64,.int .u64] 0 h) (br ((cI h 1 != k) == false) (br ((cI h 3 != 2) == true) (br (cI h 3 != 3) f (∃(q:Nat) (l:List RwI) (most_1:Int) (t:Int),by refine(?_:_→Prop) [[PV.int .i64 (aD l t)]]; exact fun b=>ak [.ptr 0 0,u] [.ptr q 0,.int .u32 t]∧bO j q (rkI l most_1)∧Ok l most_1∧br (!has l t) g (aX (a.map pu1) s 1 4∧(List.all [u] PV.one=true∧s≠[])∧aX v b 1 8∧(List.all [.int .i64 (aD l t)] PV.one=true∧b≠[])∧R .normal [.ptr 0 0,.int .i64 k,z,.list (List.map (pi1 ra) a++b) (.tok 6),.int .i64 0,p,r,w] x))) (∃(q:Nat) (l:List RwI) (most_1:Int) (t:Int),by refine(?_:_→Prop) [[PV.int .i64 (aD l t)]]; exact fun d=>ak [.ptr 0 0,u] [.ptr q 0,.int .u32 t]∧bO j q (rkI l most_1)∧Ok l most_1∧br (!has l t) g (aX (a.map pu1) s 1 4∧(List.all [u] PV.one=true∧s≠[])∧aX v d 1 8∧(List.all [.int .i64 (aD l t)] PV.one=true∧d≠[])∧R .normal [.ptr 0 0,.int .i64 k,z,.list (List.map (pi1 ra) a++d) (.tok 6),.int .i64 0,p,r,w] x))) f) False) (R (.exit 0) [.ptr 0 0,.int .i64 k,y,.list v (.tok 3),.int .i64 0,p,r,.int .i64 i] [B,m,.tok,.tok]))→Holds (wpc br Tryd.prog gl TVT [] (fun o=>match o.dst with|some 47=>1|some 51=>1|_=>0) (an [1,0,1,0] (ai Tryd.f45)) [] (av [0,2,6,7,8,14,15,16] [.ptr 0 0,.int .i64 k,y,.list (a.map (pi1 ra)) (.tok 3),.int .i64 0,p,r,.int .i64 i]) [B,.cells (mtc c),.tok,.tok] (fun ex e H=>R ex (List.map e [0,2,6,7,8,14,15,16]) H)):Prop):=fun R h=>ag (by kernel_rfl) h
theorem ct0 (s:Se):cI (stc s) 0=s.pl:=rfl
theorem ct1 (s:Se):cI (stc s) 1=s.tm:=rfl
theorem ct3 (s:Se):cI (stc s) 3=s.st:=rfl
theorem sg {n:Nat} {α:Type} {f:α→List PV} (hf:∀ a,∀ x∈f a,Low 0 x) (l:List α) (t:Tail) (ht:NT t):Lid n (.list (l.map f) t):= .low (aI ht (bh fun a _=>hf a))
theorem jC {a b:List Se} {ra:List RwI} {t u:Tail} {c:Mt} {k e i:Int} (ht:NT t) (hu:NT u):∀ v∈[.ptr 0 0,.int .i64 k,.list (a.map pu1) t,.list (b.map (pi1 ra)) u,.int .i64 e,.list (c.aa.map stc) .no,.int .i64 c.aa.length,.int .i64 i],Lid 2 v:=by
 intro v hv
 simp only[List.mem_cons,List.not_mem_nil,or_false] at hv
 rcases hv with rfl|rfl|rfl|rfl|rfl|rfl|rfl|rfl
 ·exact .ptr _ _ (by decide)
 ·exact .low (.int _ _)
 ·exact sg wQ _ _ ht
 ·exact sg (vj ra) _ _ hu
 ·exact .low (.int _ _)
 ·exact .low (dg _)
 ·exact .low (.int _ _)
 ·exact .low (.int _ _)
theorem Ic {x y x' y' z:PV} {k e n i:Int} (h:Wk x x') (h2:Wk y y'):WkL [.ptr 0 0,.int .i64 k,x,y,.int .i64 e,z,.int .i64 n,.int .i64 i] [.ptr 0 0,.int .i64 k,x',y',.int .i64 e,z,.int .i64 n,.int .i64 i]:=
 .cons (.refl _) (.cons (.refl _) (.cons h (.cons h2 (.cons (.refl _) (.cons (.refl _) (.cons (.refl _) (.cons (.refl _) .nil)))))))
theorem wS {ra:List RwI} {most:Int} {c:Mt}:oL [.abs (rkI ra most),.cells (mtc c)]:=by
 intro o cs ho
 have k1:=(List.getElem?_eq_some_iff.1 ho).1
 simp at k1
 have:o=0∨o=1:=by omega
 rcases this with rfl|rfl<;>cases ho
 exact fun x hx=> .inl (kH c x hx)
theorem F5 {ra:List RwI} {most:Int} {c:Mt}:gQ 2 [.abs (rkI ra most),.cells (mtc c)]:=by
 intro o cs ho x hx
 rcases wS o cs ho x hx with h|⟨q,off,h,rfl⟩
 ·exact .low h
 ·exact .ptr _ _ h
theorem GM {c:Mt} {k i:Int}:Bh 2 (fun T U=>[.ptr 0 0,.int .i64 k,T,U,.int .i64 0,.list (c.aa.map stc) .no,.int .i64 c.aa.length,.int .i64 i]):=by
 intro ρ n k1 k2 es1 es2 h1 h2 h3 h4 h5 h6
 have e0:=Ren.ptr (ρ:=ρ) (n:=n) 0 0 (by omega)
 rw[h1 0 (by decide)] at e0
 exact .cons e0 (.cons (.low (.int _ _)) (.cons (.ltok es1 k1 h3 h5) (.cons (.ltok es2 k2 h4 h6) (.cons (.low (.int _ _)) (.cons (.low (dg _)) (.cons (.low (.int _ _)) (.cons (.low (.int _ _)) .nil)))))))
def KA:LSp:=fun e H Q=>∃(ra:List RwI) (most:Int) (c:Mt) (k:Int),Ok ra most∧c.aa.length≤1000000∧ak (List.map e [0,2,6,7,8,14,15,16]) [.ptr 0 0,.int .i64 k,.list [] .exact,.list [] .exact,.int .i64 0,.list (c.aa.map stc) .no,.int .i64 c.aa.length,.int .i64 0]∧az H [.abs (rkI ra most),.cells (mtc c)]∧((∀ s∈cg c.aa k,has ra s.pl=true)→Q (.exit 0) (av [0,2,6,7,8,14,15,16] [.ptr 0 0,.int .i64 k,.list ((cg c.aa k).map pu1) .no,.list ((cg c.aa k).map (pi1 ra)) .no,.int .i64 0,.list (c.aa.map stc) .no,.int .i64 c.aa.length,.int .i64 c.aa.length]) [.abs (rkI ra most),.cells (mtc c)])∧(∀ i:Nat,¬ (∀ s∈cg c.aa k,has ra s.pl=true)→Q .ret (av [0,2,6,7,8,14,15,16] [.ptr 0 0,.int .i64 k,.list [] .exact,.list [] .exact,.int .i64 12,.list (c.aa.map stc) .no,.int .i64 c.aa.length,.int .i64 i]) [.abs (rkI ra most),.cells (mtc c)])
theorem E9:∀ e H Q,KA e H Q→AW Tryd.prog gl Tryd.f45.ntmps (.loop (an [1,0,1,0] (ai Tryd.f45))) Q e H:=by
 rintro e H Q ⟨ra,most,c,k,ok,hcl,he,hH,hQ0,hQ1⟩
 refine Bv (f1:=pu1) (f2:=pi1 ra) (acc:=fun i=>cg (c.aa.take i) k) (I:=fun i=>i≤c.aa.length∧∀ s∈cg (c.aa.take i) k,has ra s.pl=true) (m:=fun i=>c.aa.length-i) aq [0,2,6,7,8,14,15,16] (fun T U i=>[.ptr 0 0,.int .i64 k,T,U,.int .i64 0,.list (c.aa.map stc) .no,.int .i64 c.aa.length,.int .i64 i]) [.abs (rkI ra most),.cells (mtc c)] (0:Nat) wS F5
  (fun a=>wQ a) (fun a=>vj ra a) (fun _ _=>GM) (fun _ _=>jC (a:=[]) (b:=[]) (ra:=ra) .exact .exact) ⟨Nat.zero_le _,fun _ h=>nomatch h⟩ rfl he hH ?_ ?_
 ·rintro i ⟨hi,hall⟩ ha
  have hi':i≤c.aa.length:=hi
  have ha:cg (c.aa.take i) k=[]:=ha
  have hal:(cg (c.aa.take i) k).length≤i:=iu _ _ _
  refine aY uW (an [1,0,1,0] (ai Tryd.f45)) [] (.nil _ _ _ _ _) _ _ _ (Jc ra most c k i _ ?_).out
  simp only[ay,dt,au]
  by_cases h:i<c.aa.length
  ·rw[if_pos (by omega)]
   have inl:InL (c.aa.map stc) 6 (i:Int):=by rw[cW bK (by decide)]; exact h
   obtain⟨s,hsd⟩:∃ s,s=c.aa.getD i default:=⟨_,rfl⟩
   have hs:cg (c.aa.take (i+1)) k=cg (c.aa.take i) k++(if jo k s=true then [s] else []):=by rw[hsd]; exact mD default h
   refine⟨inl,?_⟩
   simp only[getD_map default h,← hsd,ct0,ct1,ct3]
   rw[if_pos (by rfl)]
   by_cases c1:s.tm=k
   ·rw[if_pos (by simp[c1])]
    by_cases c2:s.st=2
    ·rw[if_neg (by simp[c2])]
     have hct:jo k s=true:=by simp[jo,c1,c2]
     rw[if_pos hct] at hs
     refine⟨0,ra,most,s.pl,rfl,rfl,ok,?_⟩
     by_cases hh:has ra s.pl=true
     ·rw[if_neg (by rw[hh]; decide)]
      refine⟨aL (f:=pu1) (l:=[]) (by_:=4) (fun _=>rfl) s (by show(0+1)*4≤_; decide),one_row (f:=pu1) (fun _=>ey _) s,aL (f:=pi1 ra) (l:=[]) (by_:=8) (fun _=>rfl) s (by show(0+1)*8≤_; decide),one_row (f:=pi1 ra) (fun _=>ie _) s,?_⟩
      have hall2:∀ s∈cg (c.aa.take (i+1)) k,has ra s.pl=true:=by
       rw[hs]
       intro y hy
       rcases List.mem_append.1 hy with hy|hy
       ·exact hall y hy
       ·rcases List.mem_singleton.1 hy with rfl; exact hh
      exact⟨i+1,(show c.aa.length-(i+1)<c.aa.length-i by omega),⟨h,hall2⟩,.inr ⟨by(try dsimp only); rw[hs,ha]; simp,[_,.tok,.tok],3,4,rfl,rfl,rfl,by simp,by simp,by decide,by(try dsimp only); rw[ax h (by omega),hs,ha]; rfl⟩⟩
     ·rw[if_pos (by rw[eq_false_of_ne_true hh]; rfl)]
      exact⟨_,[_],rfl,.refl _,jC (a:=[]) (b:=[]) (ra:=ra) .exact .exact,hQ1 i fun hA=>hh (hA s (List.mem_filter.2 ⟨by rw[hsd]; exact bj h,hct⟩))⟩
    ·rw[if_pos (by simp[c2])]
     by_cases c3:s.st=3
     ·rw[if_neg (by simp[c3])]
      have hct:jo k s=true:=by simp[jo,c1,c3]
      rw[if_pos hct] at hs
      refine⟨0,ra,most,s.pl,rfl,rfl,ok,?_⟩
      by_cases hh:has ra s.pl=true
      ·rw[if_neg (by rw[hh]; decide)]
       refine⟨aL (f:=pu1) (l:=[]) (by_:=4) (fun _=>rfl) s (by show(0+1)*4≤_; decide),one_row (f:=pu1) (fun _=>ey _) s,aL (f:=pi1 ra) (l:=[]) (by_:=8) (fun _=>rfl) s (by show(0+1)*8≤_; decide),one_row (f:=pi1 ra) (fun _=>ie _) s,?_⟩
       have hall2:∀ s∈cg (c.aa.take (i+1)) k,has ra s.pl=true:=by
        rw[hs]
        intro y hy
        rcases List.mem_append.1 hy with hy|hy
        ·exact hall y hy
        ·rcases List.mem_singleton.1 hy with rfl; exact hh
       exact⟨i+1,(show c.aa.length-(i+1)<c.aa.length-i by omega),⟨h,hall2⟩,.inr ⟨by(try dsimp only); rw[hs,ha]; simp,[_,.tok,.tok],3,4,rfl,rfl,rfl,by simp,by simp,by decide,by(try dsimp only); rw[ax h (by omega),hs,ha]; rfl⟩⟩
      ·rw[if_pos (by rw[eq_false_of_ne_true hh]; rfl)]
       exact⟨_,[_],rfl,.refl _,jC (a:=[]) (b:=[]) (ra:=ra) .exact .exact,hQ1 i fun hA=>hh (hA s (List.mem_filter.2 ⟨by rw[hsd]; exact bj h,hct⟩))⟩
     ·rw[if_pos (by simp[c3])]
      rw[jo,if_neg (by simp[c2,c3])] at hs
      rw[List.append_nil] at hs
      have hall2:∀ s∈cg (c.aa.take (i+1)) k,has ra s.pl=true:=by rw[hs]; exact hall
      exact⟨i+1,(show c.aa.length-(i+1)<c.aa.length-i by omega),⟨h,hall2⟩,.inl ⟨hs.trans ha,[_],rfl,by rw[ax h (by omega)]⟩⟩
   ·rw[if_neg (by simp[c1])]
    rw[jo,if_neg (by simp[c1])] at hs
    rw[List.append_nil] at hs
    have hall2:∀ s∈cg (c.aa.take (i+1)) k,has ra s.pl=true:=by rw[hs]; exact hall
    exact⟨i+1,(show c.aa.length-(i+1)<c.aa.length-i by omega),⟨h,hall2⟩,.inl ⟨hs.trans ha,[_],rfl,by rw[ax h (by omega)]⟩⟩
  ·rw[if_neg (by omega)]
   have:i=c.aa.length:=by omega
   subst this
   rw[List.take_length] at hall ha
   exact⟨_,[],(List.append_nil _).symm,Ic (by rw[ha]; exact .list _ _) (by rw[ha]; exact .list _ _),jC .no .no,hQ0 hall⟩
 ·rintro i ⟨hi,hall⟩ ha
  have hi':i≤c.aa.length:=hi
  have ha:cg (c.aa.take i) k≠[]:=ha
  have hal:(cg (c.aa.take i) k).length≤i:=iu _ _ _
  refine aY uW (an [1,0,1,0] (ai Tryd.f45)) [] (.nil _ _ _ _ _) _ _ _ (I8 ra most c k (cg (c.aa.take i) k) i _ ?_).out
  simp only[ay,dt,au]
  by_cases h:i<c.aa.length
  ·rw[if_pos (by omega)]
   have inl:InL (c.aa.map stc) 6 (i:Int):=by rw[cW bK (by decide)]; exact h
   obtain⟨s,hsd⟩:∃ s,s=c.aa.getD i default:=⟨_,rfl⟩
   have hs:cg (c.aa.take (i+1)) k=cg (c.aa.take i) k++(if jo k s=true then [s] else []):=by rw[hsd]; exact mD default h
   refine⟨inl,?_⟩
   simp only[getD_map default h,← hsd,ct0,ct1,ct3]
   rw[if_pos (by rfl)]
   by_cases c1:s.tm=k
   ·rw[if_pos (by simp[c1])]
    by_cases c2:s.st=2
    ·rw[if_neg (by simp[c2])]
     have hct:jo k s=true:=by simp[jo,c1,c2]
     rw[if_pos hct] at hs
     refine⟨0,ra,most,s.pl,rfl,rfl,ok,?_⟩
     by_cases hh:has ra s.pl=true
     ·rw[if_neg (by rw[hh]; decide)]
      refine⟨aL (f:=pu1) (by_:=4) (fun _=>rfl) (cg (c.aa.take i) k) s (by omega),one_row (f:=pu1) (fun _=>ey _) s,aL (f:=pi1 ra) (by_:=8) (fun _=>rfl) (cg (c.aa.take i) k) s (by omega),one_row (f:=pi1 ra) (fun _=>ie _) s,?_⟩
      have hall2:∀ s∈cg (c.aa.take (i+1)) k,has ra s.pl=true:=by
       rw[hs]
       intro y hy
       rcases List.mem_append.1 hy with hy|hy
       ·exact hall y hy
       ·rcases List.mem_singleton.1 hy with rfl; exact hh
      exact⟨i+1,(show c.aa.length-(i+1)<c.aa.length-i by omega),⟨h,hall2⟩,.inr ⟨by(try dsimp only); rw[hs]; simp,[.dead,.dead,_,.tok,.tok],5,6,rfl,rfl,rfl,by simp,by simp,by decide,by(try dsimp only); rw[ax h (by omega),hs,List.map_append,List.map_append]; rfl⟩⟩
     ·rw[if_pos (by rw[eq_false_of_ne_true hh]; rfl)]
      exact⟨_,[.tok,.tok,_],rfl,.refl _,jC (a:=[]) (b:=[]) (ra:=ra) .exact .exact,hQ1 i fun hA=>hh (hA s (List.mem_filter.2 ⟨by rw[hsd]; exact bj h,hct⟩))⟩
    ·rw[if_pos (by simp[c2])]
     by_cases c3:s.st=3
     ·rw[if_neg (by simp[c3])]
      have hct:jo k s=true:=by simp[jo,c1,c3]
      rw[if_pos hct] at hs
      refine⟨0,ra,most,s.pl,rfl,rfl,ok,?_⟩
      by_cases hh:has ra s.pl=true
      ·rw[if_neg (by rw[hh]; decide)]
       refine⟨aL (f:=pu1) (by_:=4) (fun _=>rfl) (cg (c.aa.take i) k) s (by omega),one_row (f:=pu1) (fun _=>ey _) s,aL (f:=pi1 ra) (by_:=8) (fun _=>rfl) (cg (c.aa.take i) k) s (by omega),one_row (f:=pi1 ra) (fun _=>ie _) s,?_⟩
       have hall2:∀ s∈cg (c.aa.take (i+1)) k,has ra s.pl=true:=by
        rw[hs]
        intro y hy
        rcases List.mem_append.1 hy with hy|hy
        ·exact hall y hy
        ·rcases List.mem_singleton.1 hy with rfl; exact hh
       exact⟨i+1,(show c.aa.length-(i+1)<c.aa.length-i by omega),⟨h,hall2⟩,.inr ⟨by(try dsimp only); rw[hs]; simp,[.dead,.dead,_,.tok,.tok],5,6,rfl,rfl,rfl,by simp,by simp,by decide,by(try dsimp only); rw[ax h (by omega),hs,List.map_append,List.map_append]; rfl⟩⟩
      ·rw[if_pos (by rw[eq_false_of_ne_true hh]; rfl)]
       exact⟨_,[.tok,.tok,_],rfl,.refl _,jC (a:=[]) (b:=[]) (ra:=ra) .exact .exact,hQ1 i fun hA=>hh (hA s (List.mem_filter.2 ⟨by rw[hsd]; exact bj h,hct⟩))⟩
     ·rw[if_pos (by simp[c3])]
      rw[jo,if_neg (by simp[c2,c3])] at hs
      rw[List.append_nil] at hs
      have hall2:∀ s∈cg (c.aa.take (i+1)) k,has ra s.pl=true:=by rw[hs]; exact hall
      exact⟨i+1,(show c.aa.length-(i+1)<c.aa.length-i by omega),⟨h,hall2⟩,.inr ⟨by(try dsimp only); rw[hs]; exact ha,[.tok,.tok,_],2,3,rfl,rfl,rfl,by simp,by simp,by decide,by(try dsimp only); rw[ax h (by omega),hs]⟩⟩
   ·rw[if_neg (by simp[c1])]
    rw[jo,if_neg (by simp[c1])] at hs
    rw[List.append_nil] at hs
    have hall2:∀ s∈cg (c.aa.take (i+1)) k,has ra s.pl=true:=by rw[hs]; exact hall
    exact⟨i+1,(show c.aa.length-(i+1)<c.aa.length-i by omega),⟨h,hall2⟩,.inr ⟨by(try dsimp only); rw[hs]; exact ha,[.tok,.tok,_],2,3,rfl,rfl,rfl,by simp,by simp,by decide,by(try dsimp only); rw[ax h (by omega),hs]⟩⟩
  ·rw[if_neg (by omega)]
   have:i=c.aa.length:=by omega
   subst this
   rw[List.take_length] at hall ha
   rw[List.take_length]
   exact⟨_,[.tok,.tok],rfl,Ic (.list _ _) (.list _ _),jC .no .no,hQ0 hall⟩
theorem AI (ra:List RwI) (most:Int) (c:Mt) (k:Int):∀(K:PV→ae→Prop),(∃(ra_1:List RwI) (most_1:Int) (c_1:Mt) (k_1:Int),by refine(?_:_→_→Prop) (PV.list (c_1.aa.map stc) .no) (cg c_1.aa k_1); exact fun b d=>by refine(?_:_→Prop) [Ob.abs (rkI ra_1 most_1),.cells [.int .u32 c_1.id,.int .i64 c_1.md,.int .u32 c_1.ins,.list (c_1.rows.map rrc) .no,b]]; exact fun a=>Ok ra_1 most_1∧c_1.aa.length≤1000000∧ak [.ptr 0 0,.int .i64 k,.list [] .exact,.list [] .exact,.int .i64 0,.list (c.aa.map stc) .no,.int .i64 (↑(List.length (c.aa.map stc)):Int),.int .i64 0] [.ptr 0 0,.int .i64 k_1,.list [] .exact,.list [] .exact,.int .i64 0,b,.int .i64 c_1.aa.length,.int .i64 0]∧az [.abs (rkI ra most),.cells [.int .u32 c.id,.int .i64 c.md,.int .u32 c.ins,.list (c.rows.map rrc) .no,.list (c.aa.map stc) .no]] a∧((∀(s:Se),s∈cg c_1.aa k_1→has ra_1 s.pl=true)→K (.tup [.list (List.map pu1 d) .no,.list (List.map (pi1 ra_1) d) .no,.int .i64 0]) a)∧∀(_:Nat),(¬∀(s:Se),s∈cg c_1.aa k_1→has ra_1 s.pl=true)→K (.tup [.list [] .exact,.list [] .exact,.int .i64 12]) a)→aj Tryd.prog gl 45 [.ptr 0 0,c.pv,.int .i64 k] [.abs (rkI ra most)] K:=fun K h=>ah (T:=TVT) (L:=[([1,0,1,0],KA)]) (fun _=>0) Tryd.func45 (by kernel_rfl) (by kernel_rfl) (by kernel_rfl) (uW) (.cons (aH (by kernel_rfl)) E9 (.nil _ _ _ _ _)) (ag (by kernel_rfl) h)
def bn (ra:List RwI) (l:List Se) (k:Int):List Int×List Int×Int:=if(cg l k).all (fun s=>has ra s.pl)=true then((cg l k).map Se.pl,(cg l k).map (fun s=>aD ra s.pl),0) else([],[],12)
def vD (v:List Int×List Int×Int):PV:= .tup [.list (v.1.map u1) .no,.list (v.2.1.map i1) .no,.int .i64 v.2.2]
theorem yH {n:Nat} (v:List Int×List Int×Int):Low n (vD v):= .tup _ (dK (bD bU _) (bD iD _) (.int _ _))
def vN (args:List PV) (H:ae) (K:PV→Prop):Prop:=∃(q:Nat) (ra:List RwI) (most:Int) (c:Mt) (t1 t2:Tail) (k:Int),ak args [.ptr q 0,.agg [.int .u32 c.id,.int .i64 c.md,.int .u32 c.ins,.list (c.rows.map rrc) t1,.list (c.aa.map stc) t2],.int .i64 k]∧bO H q (rkI ra most)∧Ok ra most∧c.aa.length≤1000000∧
 (let v:=bn ra c.aa k; K (.tup [.list (v.1.map u1) .no,.list (v.2.1.map i1) .no,.int .i64 v.2.2]))
theorem zl:aO Tryd.prog gl 45 (.read vN):=by
 rintro args H K ⟨q,ra,most,c,t1,t2,k,he,hA,ok,hl,hk⟩
 have he:args=_:=he
 subst he
 refine⟨vD (bn ra c.aa k),?_,hk⟩
 refine bg (.cons (.refl _) (.cons (.agg (xs':=mtc c) (.cons (.refl _) (.cons (.refl _) (.cons (.refl _) (.cons (.list _ _) (.cons (.list _ _) .nil)))))) (.cons (.refl _) .nil))) ?_
 refine sK aq hA (args0:=[.ptr 0 0,c.pv,.int .i64 k]) (.cons (Ren.ptr (ρ:=fun _=>q) (n:=1) 0 0 (by omega)) (.cons (.low c.low) (.cons (.low (.int _ _)) .nil))) (yH _) ?_
 refine bA (AI ra most c k _ ⟨ra,most,c,k,ok,hl,(by show _=_; rw[List.length_map]),rfl,fun hA=>?_,fun i hA=>?_⟩)
 ·have e:bn ra c.aa k=((cg c.aa k).map Se.pl,(cg c.aa k).map (fun s=>aD ra s.pl),0):=if_pos (List.all_eq_true.2 hA)
  refine⟨_,.refl _,?_,[_],rfl⟩
  rw[e]; simp only[vD,List.map_map]; rfl
 ·have e:bn ra c.aa k=([],[],12):=if_neg (fun h=>hA (List.all_eq_true.1 h))
  refine⟨vD (bn ra c.aa k),?_,rfl,[_],rfl⟩
  rw[e]
  exact .tup (.cons (.list _ _) (.cons (.list _ _) (.cons (.refl _) .nil)))
end Go.Proofs.YtenaelaapdhbdaaDoor
