/-
  What the program's and the document's functions do, over plain values, part 7.
-/
import Derived.Test.YtenaelaapdhbdaaGreatDoorB3
import Derived.Test.YtenaelaapdhbdaaGreatDoorProg
namespace Go.Proofs.YtenaelaapdhbdaaGreatDoor
open Go Go.AM Go.Proofs
def gG (k:Int) (s:Se):Bool:=s.tm == k && (s.st == 2 || s.st == 3)
def a8 (l:List Se) (k:Int):List Se:=l.filter (gG k)
def pu1 (s:Se):List PV:=u1 s.pl
def pi1 (ra:List RwI) (s:Se):List PV:=i1 (bD ra s.pl)
theorem ot {n:Nat} (s:Se):∀ y∈pu1 s,Low n y:=bL _
theorem yn {n:Nat} (ra:List RwI) (s:Se):∀ y∈pi1 ra s,Low n y:=iu _
def TVT:Tab:=[(33,.read oL)]
theorem vt:TbK TVT:= .cons oo (.nil _ _)
theorem LR (ra:List RwI) (most:Int) (c:Mt) (k:Int) (i:Nat):(by refine(?_:_→_→_→_→_→Prop) (List.getD (c.aa.map stc) (Int.toNat (i:Int)) []) (PV.list (c.aa.map stc) .no) (PV.I c.aa.length) (PV.I (wI ((i:Int)+1))) (Ob.abs (rkI ra most)); exact fun g n p v w=>by refine(?_:_→_→_→_→Prop) (Ob.cells [.U c.id,.I c.md,.U c.ins,.list (c.rows.map rrc) .no,n]) [[PV.U (cI g 0)]] [PV.ptr 0 0,.I k,.E,.E,.I 0,n,p,.I i] (PV.U (cI g 0)); exact fun j r s u=>by refine(?_:_→Prop) (Ob.cells [u,.I (cI g 1),.I (cI g 2),.I (cI g 3),.I (cI g 4),.int .u64 (cI g 5)]); exact fun m=>by refine(?_:_→_→Prop) [Ob.abs (rkI ra most),j,m] [w,j,m,.tok,.tok]; exact fun h x=>∀(R:Ex→List PV→ae→Prop),by refine(?_:_→_→Prop) (R .normal [.ptr 0 0,.I k,.E,.E,.I 0,n,p,v] h) (R .ret [.ptr 0 0,.I k,.E,.E,.I 12,n,p,.I i] h); exact fun d f=>(br (decide ((i:Int)<(c.aa.length:Int))) (InL (c.aa.map stc) 6 (i:Int)∧br (true && aE [.int .u32,.int .i64,.int .i64,.int .i64,.int .i64,.int .u64] 0 g) (br ((cI g 1 != k) == false) (br ((cI g 3 != 2) == true) (br (cI g 3 != 3) d (∃(q:Nat) (l:List RwI) (most_1:Int) (t:Int),by refine(?_:_→Prop) [[PV.I (bD l t)]]; exact fun a=>ah [.ptr 0 0,u] [.ptr q 0,.U t]∧bR h q (rkI l most_1)∧Ok l most_1∧br (!has l t) f (aG [] r 1 4∧(List.all [u] PV.one=true∧r≠[])∧aG [] a 1 8∧(List.all [.I (bD l t)] PV.one=true∧a≠[])∧R .normal [.ptr 0 0,.I k,.list r (.tok 3),.list a (.tok 4),.I 0,n,p,v] x))) (∃(q:Nat) (l:List RwI) (most_1:Int) (t:Int),by refine(?_:_→Prop) [[PV.I (bD l t)]]; exact fun b=>ah [.ptr 0 0,u] [.ptr q 0,.U t]∧bR h q (rkI l most_1)∧Ok l most_1∧br (!has l t) f (aG [] r 1 4∧(List.all [u] PV.one=true∧r≠[])∧aG [] b 1 8∧(List.all [.I (bD l t)] PV.one=true∧b≠[])∧R .normal [.ptr 0 0,.I k,.list r (.tok 3),.list b (.tok 4),.I 0,n,p,v] x))) d) False) (R (.exit 0) s [w,j]))→Holds (wpK TVT [] (fun o=>match o.dst with|some 47=>1|some 51=>1|_=>0) (ai [1,0,1,0] (ag Tryz.f41)) [] (ak [0,2,6,7,8,14,15,16] s) [w,.cells (mtc c)] (fun ex e H=>R ex (List.map e [0,2,6,7,8,14,15,16]) H)):Prop):=fun R h=>hoE h
theorem Mj (ra:List RwI) (most:Int) (c:Mt) (k:Int) (a:List Se) (i:Nat):(by refine(?_:_→_→_→_→_→_→_→Prop) (List.getD (c.aa.map stc) (Int.toNat (i:Int)) []) (PV.list (c.aa.map stc) .no) (PV.I c.aa.length) (List.map (pi1 ra) a) (PV.I (wI ((i:Int)+1))) (PV.list (a.map pu1) (.tok 2)) (Ob.abs (rkI ra most)); exact fun h p r v w y C=>by refine(?_:_→_→_→_→_→Prop) (Ob.cells [.U c.id,.I c.md,.U c.ins,.list (c.rows.map rrc) .no,p]) [[PV.U (cI h 0)]] (PV.U (cI h 0)) C C; exact fun m s u A B=>by refine(?_:_→_→Prop) (Ob.cells [u,.I (cI h 1),.I (cI h 2),.I (cI h 3),.I (cI h 4),.int .u64 (cI h 5)]) (PV.list (a.map pu1++s) (.tok 5)); exact fun n z=>by refine(?_:_→_→Prop) [A,m,.tok,.tok,n] [A,m,.dead,.dead,n,.tok,.tok]; exact fun j x=>∀(R:Ex→List PV→ae→Prop),by refine(?_:_→_→Prop) (R .normal [.ptr 0 0,.I k,y,.list v (.tok 3),.I 0,p,r,w] j) (R .ret [.ptr 0 0,.I k,.E,.E,.I 12,p,r,.I i] j); exact fun f g=>(br (decide ((i:Int)<(c.aa.length:Int))) (InL (c.aa.map stc) 6 (i:Int)∧br (true && aE [.int .u32,.int .i64,.int .i64,.int .i64,.int .i64,.int .u64] 0 h) (br ((cI h 1 != k) == false) (br ((cI h 3 != 2) == true) (br (cI h 3 != 3) f (∃(q:Nat) (l:List RwI) (most_1:Int) (t:Int),by refine(?_:_→Prop) [[PV.I (bD l t)]]; exact fun b=>ah [.ptr 0 0,u] [.ptr q 0,.U t]∧bR j q (rkI l most_1)∧Ok l most_1∧br (!has l t) g (aG (a.map pu1) s 1 4∧(List.all [u] PV.one=true∧s≠[])∧aG v b 1 8∧(List.all [.I (bD l t)] PV.one=true∧b≠[])∧R .normal [.ptr 0 0,.I k,z,.list (List.map (pi1 ra) a++b) (.tok 6),.I 0,p,r,w] x))) (∃(q:Nat) (l:List RwI) (most_1:Int) (t:Int),by refine(?_:_→Prop) [[PV.I (bD l t)]]; exact fun d=>ah [.ptr 0 0,u] [.ptr q 0,.U t]∧bR j q (rkI l most_1)∧Ok l most_1∧br (!has l t) g (aG (a.map pu1) s 1 4∧(List.all [u] PV.one=true∧s≠[])∧aG v d 1 8∧(List.all [.I (bD l t)] PV.one=true∧d≠[])∧R .normal [.ptr 0 0,.I k,z,.list (List.map (pi1 ra) a++d) (.tok 6),.I 0,p,r,w] x))) f) False) (R (.exit 0) [.ptr 0 0,.I k,y,.list v (.tok 3),.I 0,p,r,.I i] [B,m,.tok,.tok]))→Holds (wpK TVT [] (fun o=>match o.dst with|some 47=>1|some 51=>1|_=>0) (ai [1,0,1,0] (ag Tryz.f41)) [] (ak [0,2,6,7,8,14,15,16] [.ptr 0 0,.I k,y,.list (a.map (pi1 ra)) (.tok 3),.I 0,p,r,.I i]) [B,.cells (mtc c),.tok,.tok] (fun ex e H=>R ex (List.map e [0,2,6,7,8,14,15,16]) H)):Prop):=fun R h=>hoE h
theorem ct0 (s:Se):cI (stc s) 0=s.pl:=rfl
theorem ct1 (s:Se):cI (stc s) 1=s.tm:=rfl
theorem ct3 (s:Se):cI (stc s) 3=s.st:=rfl
theorem uO {n:Nat} {α:Type} {f:α→List PV} (hf:∀ a,∀ x∈f a,Low 0 x) (l:List α) (t:Tail) (ht:NT t):Lid n (.list (l.map f) t):= .low (aH ht (bl fun a _=>hf a))
theorem kA {a b:List Se} {ra:List RwI} {t u:Tail} {c:Mt} {k e i:Int} (ht:NT t) (hu:NT u):∀ v∈[.ptr 0 0,.I k,.list (a.map pu1) t,.list (b.map (pi1 ra)) u,.I e,.list (c.aa.map stc) .no,.I c.aa.length,.I i],Lid 2 v:=by
 intro v hv
 simp only[List.mem_cons,List.not_mem_nil,or_false] at hv
 rcases hv with rfl|rfl|rfl|rfl|rfl|rfl|rfl|rfl
 ·exact .ptr _ _ (by decide)
 ·exact .low (.int _ _)
 ·exact uO ot _ _ ht
 ·exact uO (yn ra) _ _ hu
 ·exact .low (.int _ _)
 ·exact .low (dz _)
 ·exact .low (.int _ _)
 ·exact .low (.int _ _)
theorem JE {x y x' y' z:PV} {k e n i:Int} (h:Wk x x') (h2:Wk y y'):WkL [.ptr 0 0,.I k,x,y,.I e,z,.I n,.I i] [.ptr 0 0,.I k,x',y',.I e,z,.I n,.I i]:=
 .cons (.refl _) (.cons (.refl _) (.cons h (.cons h2 (.cons (.refl _) (.cons (.refl _) (.cons (.refl _) (.cons (.refl _) .nil)))))))
theorem xD {ra:List RwI} {most:Int} {c:Mt}:oH [.abs (rkI ra most),.cells (mtc c)]:=by
 intro o cs ho
 have k1:=(List.getElem?_eq_some_iff.1 ho).1
 simp at k1
 have:o=0∨o=1:=by omega
 rcases this with rfl|rfl<;>cases ho
 exact fun x hx=> .inl (ii c x hx)
theorem Ia {ra:List RwI} {most:Int} {c:Mt}:gD 2 [.abs (rkI ra most),.cells (mtc c)]:=by
 intro o cs ho x hx
 rcases xD o cs ho x hx with h|⟨q,off,h,rfl⟩
 ·exact .low h
 ·exact .ptr _ _ h
theorem HJ {c:Mt} {k i:Int}:C3 2 (fun T U=>[.ptr 0 0,.I k,T,U,.I 0,.list (c.aa.map stc) .no,.I c.aa.length,.I i]):=by
 intro ρ n k1 k2 es1 es2 h1 h2 h3 h4 h5 h6
 have e0:=Ren.ptr (ρ:=ρ) (n:=n) 0 0 (by omega)
 rw[h1 0 (by decide)] at e0
 exact .cons e0 (.cons (.low (.int _ _)) (.cons (.ltok es1 k1 h3 h5) (.cons (.ltok es2 k2 h4 h6) (.cons (.low (.int _ _)) (.cons (.low (dz _)) (.cons (.low (.int _ _)) (.cons (.low (.int _ _)) .nil)))))))
def M8:LSp:=fun e H Q=>∃(ra:List RwI) (most:Int) (c:Mt) (k:Int),Ok ra most∧c.aa.length≤1000000∧ah (List.map e [0,2,6,7,8,14,15,16]) [.ptr 0 0,.I k,.E,.E,.I 0,.list (c.aa.map stc) .no,.I c.aa.length,.I 0]∧av H [.abs (rkI ra most),.cells (mtc c)]∧((∀ s∈a8 c.aa k,has ra s.pl=true)→Q (.exit 0) (ak [0,2,6,7,8,14,15,16] [.ptr 0 0,.I k,.list ((a8 c.aa k).map pu1) .no,.list ((a8 c.aa k).map (pi1 ra)) .no,.I 0,.list (c.aa.map stc) .no,.I c.aa.length,.I c.aa.length]) [.abs (rkI ra most),.cells (mtc c)])∧(∀ i:Nat,¬ (∀ s∈a8 c.aa k,has ra s.pl=true)→Q .ret (ak [0,2,6,7,8,14,15,16] [.ptr 0 0,.I k,.E,.E,.I 12,.list (c.aa.map stc) .no,.I c.aa.length,.I i]) [.abs (rkI ra most),.cells (mtc c)])
theorem Gl:∀ e H Q,M8 e H Q→AwK Tryz.f41.ntmps (.loop (ai [1,0,1,0] (ag Tryz.f41))) Q e H:=by
 rintro e H Q ⟨ra,most,c,k,ok,hcl,he,hH,hQ0,hQ1⟩
 refine BK (f1:=pu1) (f2:=pi1 ra) (acc:=fun i=>a8 (c.aa.take i) k) (I:=fun i=>i≤c.aa.length∧∀ s∈a8 (c.aa.take i) k,has ra s.pl=true) (m:=fun i=>c.aa.length-i) aj [0,2,6,7,8,14,15,16] (fun T U i=>[.ptr 0 0,.I k,T,U,.I 0,.list (c.aa.map stc) .no,.I c.aa.length,.I i]) [.abs (rkI ra most),.cells (mtc c)] (0:Nat) xD Ia
  (fun a=>ot a) (fun a=>yn ra a) (fun _ _=>HJ) (fun _ _=>kA (a:=[]) (b:=[]) (ra:=ra) .exact .exact) ⟨Nat.zero_le _,fun _ h=>nomatch h⟩ rfl he hH ?_ ?_
 ·rintro i ⟨hi,hall⟩ ha
  have hi':i≤c.aa.length:=hi
  have ha:a8 (c.aa.take i) k=[]:=ha
  have hal:(a8 (c.aa.take i) k).length≤i:=fP _ _ _
  refine aY vt (ai [1,0,1,0] (ag Tryz.f41)) [] (.nil _ _ _ _ _) _ _ _ (LR ra most c k i _ ?_).out
  simp only[au,dt,an]
  by_cases h:i<c.aa.length
  ·rw[if_pos (by omega)]
   have inl:InL (c.aa.map stc) 6 (i:Int):=by rw[dZ bP (by decide)]; exact h
   obtain⟨s,hsd⟩:∃ s,s=c.aa.getD i default:=⟨_,rfl⟩
   have hs:a8 (c.aa.take (i+1)) k=a8 (c.aa.take i) k++(if gG k s=true then [s] else []):=by rw[hsd]; exact gw default h
   refine⟨inl,?_⟩
   simp only[getD_map default h,← hsd,ct0,ct1,ct3]
   rw[if_pos (by rfl)]
   by_cases c1:s.tm=k
   ·rw[if_pos (by simp[c1])]
    by_cases c2:s.st=2
    ·rw[if_neg (by simp[c2])]
     have hct:gG k s=true:=by simp[gG,c1,c2]
     rw[if_pos hct] at hs
     refine⟨0,ra,most,s.pl,rfl,rfl,ok,?_⟩
     by_cases hh:has ra s.pl=true
     ·rw[if_neg (by rw[hh]; decide)]
      refine⟨aF (f:=pu1) (l:=[]) (by_:=4) (fun _=>rfl) s (by show(0+1)*4≤_; decide),one_row (f:=pu1) (fun _=>dm _) s,aF (f:=pi1 ra) (l:=[]) (by_:=8) (fun _=>rfl) s (by show(0+1)*8≤_; decide),one_row (f:=pi1 ra) (fun _=>fD _) s,?_⟩
      have hall2:∀ s∈a8 (c.aa.take (i+1)) k,has ra s.pl=true:=by
       rw[hs]
       intro y hy
       rcases List.mem_append.1 hy with hy|hy
       ·exact hall y hy
       ·rcases List.mem_singleton.1 hy with rfl; exact hh
      exact⟨i+1,(show c.aa.length-(i+1)<c.aa.length-i by omega),⟨h,hall2⟩,.inr ⟨by(try dsimp only); rw[hs,ha]; simp,[_,.tok,.tok],3,4,rfl,rfl,rfl,by simp,by simp,by decide,by(try dsimp only); rw[ar h (by omega),hs,ha]; rfl⟩⟩
     ·rw[if_pos (by rw[eq_false_of_ne_true hh]; rfl)]
      exact⟨_,[_],rfl,.refl _,kA (a:=[]) (b:=[]) (ra:=ra) .exact .exact,hQ1 i fun hA=>hh (hA s (List.mem_filter.2 ⟨by rw[hsd]; exact aX h,hct⟩))⟩
    ·rw[if_pos (by simp[c2])]
     by_cases c3:s.st=3
     ·rw[if_neg (by simp[c3])]
      have hct:gG k s=true:=by simp[gG,c1,c3]
      rw[if_pos hct] at hs
      refine⟨0,ra,most,s.pl,rfl,rfl,ok,?_⟩
      by_cases hh:has ra s.pl=true
      ·rw[if_neg (by rw[hh]; decide)]
       refine⟨aF (f:=pu1) (l:=[]) (by_:=4) (fun _=>rfl) s (by show(0+1)*4≤_; decide),one_row (f:=pu1) (fun _=>dm _) s,aF (f:=pi1 ra) (l:=[]) (by_:=8) (fun _=>rfl) s (by show(0+1)*8≤_; decide),one_row (f:=pi1 ra) (fun _=>fD _) s,?_⟩
       have hall2:∀ s∈a8 (c.aa.take (i+1)) k,has ra s.pl=true:=by
        rw[hs]
        intro y hy
        rcases List.mem_append.1 hy with hy|hy
        ·exact hall y hy
        ·rcases List.mem_singleton.1 hy with rfl; exact hh
       exact⟨i+1,(show c.aa.length-(i+1)<c.aa.length-i by omega),⟨h,hall2⟩,.inr ⟨by(try dsimp only); rw[hs,ha]; simp,[_,.tok,.tok],3,4,rfl,rfl,rfl,by simp,by simp,by decide,by(try dsimp only); rw[ar h (by omega),hs,ha]; rfl⟩⟩
      ·rw[if_pos (by rw[eq_false_of_ne_true hh]; rfl)]
       exact⟨_,[_],rfl,.refl _,kA (a:=[]) (b:=[]) (ra:=ra) .exact .exact,hQ1 i fun hA=>hh (hA s (List.mem_filter.2 ⟨by rw[hsd]; exact aX h,hct⟩))⟩
     ·rw[if_pos (by simp[c3])]
      rw[gG,if_neg (by simp[c2,c3])] at hs
      rw[List.append_nil] at hs
      have hall2:∀ s∈a8 (c.aa.take (i+1)) k,has ra s.pl=true:=by rw[hs]; exact hall
      exact⟨i+1,(show c.aa.length-(i+1)<c.aa.length-i by omega),⟨h,hall2⟩,.inl ⟨hs.trans ha,[_],rfl,by rw[ar h (by omega)]⟩⟩
   ·rw[if_neg (by simp[c1])]
    rw[gG,if_neg (by simp[c1])] at hs
    rw[List.append_nil] at hs
    have hall2:∀ s∈a8 (c.aa.take (i+1)) k,has ra s.pl=true:=by rw[hs]; exact hall
    exact⟨i+1,(show c.aa.length-(i+1)<c.aa.length-i by omega),⟨h,hall2⟩,.inl ⟨hs.trans ha,[_],rfl,by rw[ar h (by omega)]⟩⟩
  ·rw[if_neg (by omega)]
   have:i=c.aa.length:=by omega
   subst this
   rw[List.take_length] at hall ha
   exact⟨_,[],(List.append_nil _).symm,JE (by rw[ha]; exact .list _ _) (by rw[ha]; exact .list _ _),kA .no .no,hQ0 hall⟩
 ·rintro i ⟨hi,hall⟩ ha
  have hi':i≤c.aa.length:=hi
  have ha:a8 (c.aa.take i) k≠[]:=ha
  have hal:(a8 (c.aa.take i) k).length≤i:=fP _ _ _
  refine aY vt (ai [1,0,1,0] (ag Tryz.f41)) [] (.nil _ _ _ _ _) _ _ _ (Mj ra most c k (a8 (c.aa.take i) k) i _ ?_).out
  simp only[au,dt,an]
  by_cases h:i<c.aa.length
  ·rw[if_pos (by omega)]
   have inl:InL (c.aa.map stc) 6 (i:Int):=by rw[dZ bP (by decide)]; exact h
   obtain⟨s,hsd⟩:∃ s,s=c.aa.getD i default:=⟨_,rfl⟩
   have hs:a8 (c.aa.take (i+1)) k=a8 (c.aa.take i) k++(if gG k s=true then [s] else []):=by rw[hsd]; exact gw default h
   refine⟨inl,?_⟩
   simp only[getD_map default h,← hsd,ct0,ct1,ct3]
   rw[if_pos (by rfl)]
   by_cases c1:s.tm=k
   ·rw[if_pos (by simp[c1])]
    by_cases c2:s.st=2
    ·rw[if_neg (by simp[c2])]
     have hct:gG k s=true:=by simp[gG,c1,c2]
     rw[if_pos hct] at hs
     refine⟨0,ra,most,s.pl,rfl,rfl,ok,?_⟩
     by_cases hh:has ra s.pl=true
     ·rw[if_neg (by rw[hh]; decide)]
      refine⟨aF (f:=pu1) (by_:=4) (fun _=>rfl) (a8 (c.aa.take i) k) s (by omega),one_row (f:=pu1) (fun _=>dm _) s,aF (f:=pi1 ra) (by_:=8) (fun _=>rfl) (a8 (c.aa.take i) k) s (by omega),one_row (f:=pi1 ra) (fun _=>fD _) s,?_⟩
      have hall2:∀ s∈a8 (c.aa.take (i+1)) k,has ra s.pl=true:=by
       rw[hs]
       intro y hy
       rcases List.mem_append.1 hy with hy|hy
       ·exact hall y hy
       ·rcases List.mem_singleton.1 hy with rfl; exact hh
      exact⟨i+1,(show c.aa.length-(i+1)<c.aa.length-i by omega),⟨h,hall2⟩,.inr ⟨by(try dsimp only); rw[hs]; simp,[.dead,.dead,_,.tok,.tok],5,6,rfl,rfl,rfl,by simp,by simp,by decide,by(try dsimp only); rw[ar h (by omega),hs,List.map_append,List.map_append]; rfl⟩⟩
     ·rw[if_pos (by rw[eq_false_of_ne_true hh]; rfl)]
      exact⟨_,[.tok,.tok,_],rfl,.refl _,kA (a:=[]) (b:=[]) (ra:=ra) .exact .exact,hQ1 i fun hA=>hh (hA s (List.mem_filter.2 ⟨by rw[hsd]; exact aX h,hct⟩))⟩
    ·rw[if_pos (by simp[c2])]
     by_cases c3:s.st=3
     ·rw[if_neg (by simp[c3])]
      have hct:gG k s=true:=by simp[gG,c1,c3]
      rw[if_pos hct] at hs
      refine⟨0,ra,most,s.pl,rfl,rfl,ok,?_⟩
      by_cases hh:has ra s.pl=true
      ·rw[if_neg (by rw[hh]; decide)]
       refine⟨aF (f:=pu1) (by_:=4) (fun _=>rfl) (a8 (c.aa.take i) k) s (by omega),one_row (f:=pu1) (fun _=>dm _) s,aF (f:=pi1 ra) (by_:=8) (fun _=>rfl) (a8 (c.aa.take i) k) s (by omega),one_row (f:=pi1 ra) (fun _=>fD _) s,?_⟩
       have hall2:∀ s∈a8 (c.aa.take (i+1)) k,has ra s.pl=true:=by
        rw[hs]
        intro y hy
        rcases List.mem_append.1 hy with hy|hy
        ·exact hall y hy
        ·rcases List.mem_singleton.1 hy with rfl; exact hh
       exact⟨i+1,(show c.aa.length-(i+1)<c.aa.length-i by omega),⟨h,hall2⟩,.inr ⟨by(try dsimp only); rw[hs]; simp,[.dead,.dead,_,.tok,.tok],5,6,rfl,rfl,rfl,by simp,by simp,by decide,by(try dsimp only); rw[ar h (by omega),hs,List.map_append,List.map_append]; rfl⟩⟩
      ·rw[if_pos (by rw[eq_false_of_ne_true hh]; rfl)]
       exact⟨_,[.tok,.tok,_],rfl,.refl _,kA (a:=[]) (b:=[]) (ra:=ra) .exact .exact,hQ1 i fun hA=>hh (hA s (List.mem_filter.2 ⟨by rw[hsd]; exact aX h,hct⟩))⟩
     ·rw[if_pos (by simp[c3])]
      rw[gG,if_neg (by simp[c2,c3])] at hs
      rw[List.append_nil] at hs
      have hall2:∀ s∈a8 (c.aa.take (i+1)) k,has ra s.pl=true:=by rw[hs]; exact hall
      exact⟨i+1,(show c.aa.length-(i+1)<c.aa.length-i by omega),⟨h,hall2⟩,.inr ⟨by(try dsimp only); rw[hs]; exact ha,[.tok,.tok,_],2,3,rfl,rfl,rfl,by simp,by simp,by decide,by(try dsimp only); rw[ar h (by omega),hs]⟩⟩
   ·rw[if_neg (by simp[c1])]
    rw[gG,if_neg (by simp[c1])] at hs
    rw[List.append_nil] at hs
    have hall2:∀ s∈a8 (c.aa.take (i+1)) k,has ra s.pl=true:=by rw[hs]; exact hall
    exact⟨i+1,(show c.aa.length-(i+1)<c.aa.length-i by omega),⟨h,hall2⟩,.inr ⟨by(try dsimp only); rw[hs]; exact ha,[.tok,.tok,_],2,3,rfl,rfl,rfl,by simp,by simp,by decide,by(try dsimp only); rw[ar h (by omega),hs]⟩⟩
  ·rw[if_neg (by omega)]
   have:i=c.aa.length:=by omega
   subst this
   rw[List.take_length] at hall ha
   rw[List.take_length]
   exact⟨_,[.tok,.tok],rfl,JE (.list _ _) (.list _ _),kA .no .no,hQ0 hall⟩
theorem Eb (ra:List RwI) (most:Int) (c:Mt) (k:Int):∀(K:PV→ae→Prop),(∃(ra_1:List RwI) (most_1:Int) (c_1:Mt) (k_1:Int),by refine(?_:_→_→Prop) (PV.list (c_1.aa.map stc) .no) (a8 c_1.aa k_1); exact fun b d=>by refine(?_:_→Prop) [Ob.abs (rkI ra_1 most_1),.cells [.U c_1.id,.I c_1.md,.U c_1.ins,.list (c_1.rows.map rrc) .no,b]]; exact fun a=>Ok ra_1 most_1∧c_1.aa.length≤1000000∧ah [.ptr 0 0,.I k,.E,.E,.I 0,.list (c.aa.map stc) .no,.I (↑(List.length (c.aa.map stc)):Int),.I 0] [.ptr 0 0,.I k_1,.E,.E,.I 0,b,.I c_1.aa.length,.I 0]∧av [.abs (rkI ra most),.cells [.U c.id,.I c.md,.U c.ins,.list (c.rows.map rrc) .no,.list (c.aa.map stc) .no]] a∧((∀(s:Se),s∈a8 c_1.aa k_1→has ra_1 s.pl=true)→K (.tup [.list (List.map pu1 d) .no,.list (List.map (pi1 ra_1) d) .no,.I 0]) a)∧∀(_:Nat),(¬∀(s:Se),s∈a8 c_1.aa k_1→has ra_1 s.pl=true)→K (.tup [.E,.E,.I 12]) a)→AcK 41 [.ptr 0 0,c.pv,.I k] [.abs (rkI ra most)] K:=fun K h=>acW (T:=TVT) (L:=[([1,0,1,0],M8)]) (fun _=>0) Tryz.func41 (vt) (.cons suE Gl (.nil _ _ _ _ _)) h
def bz (ra:List RwI) (l:List Se) (k:Int):List Int×List Int×Int:=if(a8 l k).all (fun s=>has ra s.pl)=true then((a8 l k).map Se.pl,(a8 l k).map (fun s=>bD ra s.pl),0) else([],[],12)
def xT (v:List Int×List Int×Int):PV:= .tup [.list (v.1.map u1) .no,.list (v.2.1.map i1) .no,.I v.2.2]
theorem zj {n:Nat} (v:List Int×List Int×Int):Low n (xT v):= .tup _ (dO (bp bL _) (bp iu _) (.int _ _))
def xU (args:List PV) (H:ae) (K:PV→Prop):Prop:=∃(q:Nat) (ra:List RwI) (most:Int) (c:Mt) (t1 t2:Tail) (k:Int),ah args [.ptr q 0,.agg [.U c.id,.I c.md,.U c.ins,.list (c.rows.map rrc) t1,.list (c.aa.map stc) t2],.I k]∧bR H q (rkI ra most)∧Ok ra most∧c.aa.length≤1000000∧
 (let v:=bz ra c.aa k; K (.tup [.list (v.1.map u1) .no,.list (v.2.1.map i1) .no,.I v.2.2]))
theorem Cb:SpK 41 (.read xU):=by
 rintro args H K ⟨q,ra,most,c,t1,t2,k,he,hA,ok,hl,hk⟩
 have he:args=_:=he
 subst he
 refine⟨xT (bz ra c.aa k),?_,hk⟩
 refine bc (.cons (.refl _) (.cons (.agg (xs':=mtc c) (.cons (.refl _) (.cons (.refl _) (.cons (.refl _) (.cons (.list _ _) (.cons (.list _ _) .nil)))))) (.cons (.refl _) .nil))) ?_
 refine tf aj hA (args0:=[.ptr 0 0,c.pv,.I k]) (.cons (Ren.ptr (ρ:=fun _=>q) (n:=1) 0 0 (by omega)) (.cons (.low c.low) (.cons (.low (.int _ _)) .nil))) (zj _) ?_
 refine a9 (Eb ra most c k _ ⟨ra,most,c,k,ok,hl,(by show _=_; rw[List.length_map]),rfl,fun hA=>?_,fun i hA=>?_⟩)
 ·have e:bz ra c.aa k=((a8 c.aa k).map Se.pl,(a8 c.aa k).map (fun s=>bD ra s.pl),0):=if_pos (List.all_eq_true.2 hA)
  refine⟨_,.refl _,?_,[_],rfl⟩
  rw[e]; simp only[xT,List.map_map]; rfl
 ·have e:bz ra c.aa k=([],[],12):=if_neg (fun h=>hA (List.all_eq_true.1 h))
  refine⟨xT (bz ra c.aa k),?_,rfl,[_],rfl⟩
  rw[e]
  exact .tup (.cons (.list _ _) (.cons (.list _ _) (.cons (.refl _) .nil)))
namespace CI
theorem FC (l:List Int):(l.map i1).flatten.length=l.length:=by rw[bA gB,Nat.mul_one]
theorem eC {n:Nat} (l:List Int):Low n (.list (l.map i1) .no):=bp iu l
theorem rz (l:List Int):∀(K:PV→ae→Prop),(∀(b:Bool),(List.flatten (l.map i1)≠[]→b=false)→br b (K (.E) []) (aG [] (l.map i1) 1 8∧List.all (List.flatten (l.map i1)) PV.one=true∧(l.map i1=[]→K (.E) [])∧(l.map i1≠[]→K (.list ([]++l.map i1) (.tok 0)) [.tok])))→AcK 44 [.list (l.map i1) .no] [] K:=fun K h=>acW (T:=[]) (L:=[]) (fun o=>match o.dst with|some 7=>4|_=>0) Tryz.func44 (aW.nil _ _) (LOk.nil _ _ _ _ _) h
theorem yf (H:ae)  (K:PV→ae→Prop) (h:∀(b:Bool),(([]:List PV)≠[]→b=false)→br b (K (.E) H) (aG [] [] 1 8∧K (.list [] .no) H)):AcK 44 [.list [] .no] H K:=
 acW (T:=[]) (L:=[]) (fun _=>0) Tryz.func44 (aW.nil _ _) (LOk.nil _ _ _ _ _) h
theorem yc (H:ae) (l:List Int):∀(K:PV→ae→Prop),(∀(b:Bool),(List.flatten (l.map i1)≠[]→b=false)→br b (K (.E) H) (List.length (List.flatten (l.map i1))=List.length (l.map i1)*1∧List.length (l.map i1)*8≤140737488355328∧0<List.length (l.map i1)∧∀(c:Nat),List.length (l.map i1)≤c→K (.arr H.length 0 (List.length (l.map i1)) c) (H++[.cells (List.flatten (l.map i1)++List.flatten (List.replicate (c-List.length (l.map i1)) [.I 0]))])))→AcK 44 [.list (l.map i1) .no] H K:=fun K h=>acW (T:=[]) (L:=[]) (fun o=>match o.dst with|some 7=>2|_=>0) Tryz.func44 (aW.nil _ _) (LOk.nil _ _ _ _ _) h
theorem xV {l:List Int} (h:l≠[]):(l.map i1).flatten≠[]:=by
 cases l with
 | nil=>exact absurd rfl h
 | cons a l=>simp[i1]
def CF (args:List PV) (K:List (List PV)→Prop):Prop:=∃(l:List Int) (tl:Tail),ah args [.list (l.map i1) tl]∧l.length≤1000000∧K (l.map i1)
theorem AB:SpK 44 (.mk CF):=by
 rintro args K ⟨l,tl,he,hl,hk⟩
 have he:args=_:=he
 subst he
 refine⟨l.map i1,hk,JQ aj (.cons (.list _ _) .nil) (bu (eC l)) (bl fun a _=>iu a) (rz l _ ?_)⟩
 intro b hb
 rw[au]
 cases b with
 | true=>
  rw[if_pos rfl]
  have hn:l=[]:=Classical.byContradiction fun h=>absurd (hb (xV h)) (by decide)
  subst hn
  exact⟨fun _=>rfl,fun h=>absurd rfl h⟩
 | false=>
  rw[if_neg (by decide)]
  refine⟨⟨(fun _ h=>nomatch h),b5 gB l,by simp; omega⟩,?_,fun h=>?_,fun h=>?_⟩
  ·exact List.all_eq_true.2 (by have:=FC l; intro y hy; obtain⟨c,h2,h3⟩:=List.mem_flatten.1 hy; obtain⟨a,_,rfl⟩:=List.mem_map.1 h2; exact fD a y h3)
  ·exact⟨fun _=>rfl,fun h2=>absurd h h2⟩
  ·exact⟨fun h2=>absurd h2 h,fun _=>⟨0,rfl,rfl⟩⟩
def IP (args:List PV) (K:PV→Prop):Prop:=∃(l:List Int) (tl:Tail),ah args [.list (l.map i1) tl]∧l.length≤1000000∧K (.list (l.map i1) .no)
theorem Hw:SpK 44 (.pure IP):=by
 rintro args K ⟨l,tl,he,hl,hk⟩
 obtain⟨es,rfl,h⟩:=AB [.list (l.map i1) .no] (fun es=>es=l.map i1) ⟨l,.no,rfl,hl,rfl⟩
 have he:args=_:=he
 subst he
 refine bB aj (.cons (.list _ _) .nil) (bu (eC l)) (eC l) (a9 ((h []).mono fun x H' k=>?_)) hk
 by_cases c:l.map i1=[]
 ·obtain⟨rfl,_⟩:=k.1 c
  rw[c]; exact⟨_,.list _ _,rfl⟩
 ·obtain⟨rfl,_⟩:=k.2 c
  exact⟨_,.list _ _,rfl⟩
end CI
def Bc (args:List PV) (K:PV→Prop):Prop:=∃(a b:List Int) (r:Int),ah args [.list (a.map i1) .no,.list (b.map i1) .no,.I r]∧a.length≤1000000∧b.length≤1000000∧(let v:=Elo.upd a b r; K (.tup [.list (v.1.map i1) .no,.list (v.2.1.map i1) .no,.I v.2.2]))
theorem Ga:SpK 45 (.pure Bc):=by
 rintro args K ⟨a,b,r,he,ha,hb,hk⟩
 have he:args=_:=he
 subst he
 exact Elo.zg _ K ⟨a,b,rfl,rfl,by unfold Elo.cm; omega,by unfold Elo.cm; omega,NT.no,NT.no,hk⟩
def TJU:Tab:=[(41,.read xU),(42,.pure CU.nJ),(43,.pure CI.nJ),(44,.pure CI.IP),(45,.pure Bc)]
theorem J7:TbK TJU:= .cons Cb (.cons CU.o6 (.cons CI.o6 (.cons CI.Hw (.cons Ga (.nil _ _)))))
theorem Mi (ra:List RwI) (most:Int) (c:Mt) (r:Int):∀(R:Ex→List PV→ae→Prop),(R .normal [.ptr 0 0,.I r,.ptr 1 0,.ptr 2 0,.ptr 3 0] [.abs (rkI ra most),.cells [.U c.id,.I c.md,.U c.ins,.list (c.rows.map rrc) .no,.list (c.aa.map stc) .no],.cells [.U 0,.U 0,.I 0,.E,.E,.E],.cells [.I 0]])→Holds (wpK [] [] (fun _=>0) (bX [0] (ag Tryz.f16)) [] (ak [0,1,2] [.ptr 0 0,c.pv,.I r]) [.abs (rkI ra most)] (fun ex e H=>R ex (List.map e [0,2,4,6,7]) H)):=fun R h=>hoE h
theorem Lj (ra:List RwI) (most:Int) (c:Mt) (r:Int):(by refine(?_:_→_→_→_→_→Prop) [PV.U c.id,.I c.md,.U c.ins,.list (c.rows.map rrc) .no,.list (c.aa.map stc) .no] (Ob.cells [.U 0,.U 0,.I 0,.E,.E,.E]) (Ob.abs (rkI ra most)) [PV.ptr 2 0,.ptr 3 0] (Ob.cells [.I 0]); exact fun w x y z A=>∀(R:Ex→List PV→ae→Prop),by refine(?_:_→Prop) (R .ret z [y,.cells w,x,.cells [.I 2]]); exact fun v=>(br (decide (r<0) == false) (br (decide (r≥3)) v (∃(q:Nat) (ra_1:List RwI) (most_1:Int) (c_1:Mt) (t1:Tail) (t2:Tail) (k:Int),by refine(?_:_→Prop) (bz ra_1 c_1.aa k); exact fun u=>by refine(?_:_→Prop) (Prod.snd u); exact fun s=>by refine(?_:_→_→Prop) [Ob.abs (rkI ra most),.cells w,x,.cells [.I (Prod.snd s)]] (List.map i1 (Prod.fst s)); exact fun p t=>ah [.ptr 0 0,.agg w,.I 1] [.ptr q 0,.agg [.U c_1.id,.I c_1.md,.U c_1.ins,.list (c_1.rows.map rrc) t1,.list (c_1.aa.map stc) t2],.I k]∧bR [y,.cells w,x,A] q (rkI ra_1 most_1)∧Ok ra_1 most_1∧c_1.aa.length≤1000000∧br (Prod.snd s != 0) (R .ret z p) (∃(q:Nat) (ra_2:List RwI) (most_2:Int) (c_2:Mt) (t1:Tail) (t2:Tail) (k_1:Int),by refine(?_:_→Prop) (bz ra_2 c_2.aa k_1); exact fun n=>by refine(?_:_→Prop) (Prod.snd n); exact fun j=>by refine(?_:_→Prop) (List.map i1 (Prod.fst j)); exact fun m=>ah [.ptr 0 0,.agg w,.I 2] [.ptr q 0,.agg [.U c_2.id,.I c_2.md,.U c_2.ins,.list (c_2.rows.map rrc) t1,.list (c_2.aa.map stc) t2],.I k_1]∧bR p q (rkI ra_2 most_2)∧Ok ra_2 most_2∧c_2.aa.length≤1000000∧br (Prod.snd j != 0) (R .ret z [y,.cells w,x,.cells [.I (Prod.snd j)]]) (∃(a:List Int) (b:List Int),ah [.list [[PV.list (List.map u1 (Prod.fst u)) .no],[.list (List.map u1 (Prod.fst n)) .no]] .exact] [.list [[PV.list (a.map u1) .no],[.list (b.map u1) .no]] .exact]∧a.length+b.length≤1000000∧∃(a_1:List Int) (b_1:List Int),by refine(?_:_→Prop) (PV.list (List.map i1 (a_1++b_1)) .no); exact fun i=>ah [.list [[PV.list t .no],[.list m .no]] .exact] [.list [[PV.list (a_1.map i1) .no],[.list (b_1.map i1) .no]] .exact]∧a_1.length+b_1.length≤1000000∧∃(l:List Int) (tl:Tail),by refine(?_:_→Prop) (Ob.cells [.U c.id,.U c.ins,.I r,.list (List.map u1 (a++b)) .no,i,.list (l.map i1) .no]); exact fun h=>by refine(?_:_→Prop) (R .ret z [y,.cells w,h,A]); exact fun g=>ah [i] [.list (l.map i1) tl]∧l.length≤1000000∧br (decide ((↑(List.length t):Int)>0) == true) (br (decide ((↑(List.length m):Int)>0)) (∃(a_2:List Int) (b_2:List Int) (r_1:Int),by refine(?_:_→Prop) (Elo.upd a_2 b_2 r_1); exact fun f=>by refine(?_:_→Prop) (Prod.snd f); exact fun d=>ah [.list t .no,.list m .no,.I r] [.list (a_2.map i1) .no,.list (b_2.map i1) .no,.I r_1]∧a_2.length≤1000000∧b_2.length≤1000000∧br (Prod.snd d != 0) (R .ret z [y,.cells w,h,.cells [.I (Prod.snd d)]]) (∃(a_3:List Int) (b_3:List Int),ah [.list [[PV.list (List.map i1 (Prod.fst f)) .no],[.list (List.map i1 (Prod.fst d)) .no]] .exact] [.list [[PV.list (a_3.map i1) .no],[.list (b_3.map i1) .no]] .exact]∧a_3.length+b_3.length≤1000000∧R .ret z [y,.cells w,.cells [.U c.id,.U c.ins,.I r,.list (List.map u1 (a++b)) .no,i,.list (List.map i1 (a_3++b_3)) .no],A])) g) g)))) v)→Holds (wpK TJU [] (fun o=>match o.dst with|some 22=>1|some 81=>1|some 25=>1|some 36=>1|some 32=>201006|some 33=>301001|some 43=>201006|some 44=>301001|some 46=>101001|some 48=>101201|some _=>0|none=>match o.op with| .store _ (.tmp 6) _=>201006| .store _ (.tmp 7) _=>301001|_=>0) (bX [1,1] (ag Tryz.f16)) [] (ak [0,2,4,6,7] [.ptr 0 0,.I r,.ptr 1 0,.ptr 2 0,.ptr 3 0]) [y,.cells (mtc c),x,A] (fun ex e H=>R ex (List.map e [6,7]) H)):Prop):=fun R h=>hoE h
theorem LI (R0 B0:Ob) (m i r e:Int) (x y z:PV)  (K:PV→ae→Prop) (h:br (e != 0) (K (.tup []) [R0,B0,.cells [.U 0,.U 0,.I 0,.E,.E,.E],.cells [.I e]]) (K (.tup []) [R0,B0,.cells [.U m,.U i,.I r,x,y,z],.cells [.I e]])):iB Tryz.prog gl 40 [.ptr 3 0,.ptr 2 0] [R0,B0,.cells [.U m,.U i,.I r,x,y,z],.cells [.I e]] K:=
 qe (T:=[]) (L:=[]) (fun _=>0) Tryz.func40 (by kernel_rfl) (by kernel_rfl) (by kernel_rfl) (aW.nil _ _) (LOk.nil _ _ _ _ _) (hoE h)
structure Vd where
 m:Int
 i:Int
 r:Int
 ps:List Int
 old:List Int
 new:List Int
def vd0:Vd:=⟨0,0,0,[],[],[]⟩
def vdC (v:Vd):List PV:=[.U v.m,.U v.i,.I v.r,.list (v.ps.map u1) .no,.list (v.old.map i1) .no,.list (v.new.map i1) .no]
theorem fI {n:Nat} (v:Vd):∀ y∈vdC v,Low n y:=by
 intro y hy
 simp only[vdC,List.mem_cons,List.not_mem_nil,or_false] at hy
 rcases hy with rfl|rfl|rfl|rfl|rfl|rfl<;>first|exact .int _ _|exact bp bL _|exact bp iu _
def bj (ra:List RwI) (c:Mt) (r:Int):Vd×Int:=
 if r<0∨3≤r then(vd0,2) else if(bz ra c.aa 1).2.2≠0 then(vd0,(bz ra c.aa 1).2.2) else if(bz ra c.aa 2).2.2≠0 then(vd0,(bz ra c.aa 2).2.2)
 else if 0<(bz ra c.aa 1).2.1.length∧0<(bz ra c.aa 2).2.1.length then
  (if(Elo.upd (bz ra c.aa 1).2.1 (bz ra c.aa 2).2.1 r).2.2≠0 then(vd0,(Elo.upd (bz ra c.aa 1).2.1 (bz ra c.aa 2).2.1 r).2.2)
   else(⟨c.id,c.ins,r,(bz ra c.aa 1).1++(bz ra c.aa 2).1,(bz ra c.aa 1).2.1++(bz ra c.aa 2).2.1,(Elo.upd (bz ra c.aa 1).2.1 (bz ra c.aa 2).2.1 r).1++(Elo.upd (bz ra c.aa 1).2.1 (bz ra c.aa 2).2.1 r).2.1⟩,0))
 else(⟨c.id,c.ins,r,(bz ra c.aa 1).1++(bz ra c.aa 2).1,(bz ra c.aa 1).2.1++(bz ra c.aa 2).2.1,(bz ra c.aa 1).2.1++(bz ra c.aa 2).2.1⟩,0)
theorem fN (ra:List RwI) (l:List Se) (k:Int):(bz ra l k).1.length≤l.length∧(bz ra l k).2.1.length=(bz ra l k).1.length:=by
 unfold bz
 split
 ·exact⟨by rw[List.length_map]; exact List.length_filter_le _ _,by rw[List.length_map,List.length_map]⟩
 ·exact⟨Nat.zero_le _,rfl⟩
theorem uk (a b:List Int) (r:Int):(Elo.upd a b r).1.length≤4∧(Elo.upd a b r).2.1.length≤4:=by
 unfold Elo.upd
 split
 ·exact⟨Nat.zero_le _,Nat.zero_le _⟩
 ·split
  ·exact⟨Nat.zero_le _,Nat.zero_le _⟩
  ·simp only[Elo.b8]; omega
def x8 (K:PV→ae→Prop):Ex→List PV→ae→Prop:=fun ex vs H3=>(ex = .normal∨ex = .ret)∧iB Tryz.prog gl 40 [.ptr 3 0,.ptr 2 0] H3 fun _ H4=>kF Tryz.prog Tryz.f16.results.toList K ex (ak [6,7] vs) H4
set_option maxRecDepth 10000 in
theorem JL {K:PV→ae→Prop} {R0 B0:Ob} {m i r e:Int} {x y z:PV} (h:e≠0→K (.tup [.agg [.U 0,.U 0,.I 0,.E,.E,.E],.I e]) [R0,B0,.cells [.U 0,.U 0,.I 0,.E,.E,.E],.cells [.I e]])
  (h0:e=0→K (.tup [.agg [.U m,.U i,.I r,x,y,z],.I e]) [R0,B0,.cells [.U m,.U i,.I r,x,y,z],.cells [.I e]]):x8 K .ret [.ptr 2 0,.ptr 3 0] [R0,B0,.cells [.U m,.U i,.I r,x,y,z],.cells [.I e]]:=by
 refine⟨.inr rfl,LI R0 B0 m i r e x y z _ ?_⟩
 rw[au]
 by_cases c:e=0
 ·rw[if_neg (by simp[c])]
  exact Eq.mpr (by kernel_rfl) (h0 c)
 ·rw[if_pos (by simp[c])]
  exact Eq.mpr (by kernel_rfl) (h c)
def pT (v:Vd×Int):PV:= .tup [.agg (vdC v.1),.I v.2]
theorem oI {n:Nat} (v:Vd×Int):Low n (pT v):= .tup _ (bn (.agg _ (fI _)) (.int _ _))
def jK (ra:List RwI) (most:Int) (v:Vd×Int):PV→ae→Prop:=fun x H'=>Wk x (pT v)∧∃ G,H' = .abs (rkI ra most)::G
theorem mX {e:Int}:Wk (.tup [.agg [.U 0,.U 0,.I 0,.E,.E,.E],.I e]) (pT (vd0,e)):= .tup (.cons (.agg (xs':=vdC vd0) (.cons (.refl _) (.cons (.refl _) (.cons (.refl _) (.cons (.list _ _) (.cons (.list _ _) (.cons (.list _ _) .nil))))))) (.cons (.refl _) .nil))
theorem Bn {ra:List RwI} {most:Int} {c:Mt} {v:Vd×Int} {m i r e:Int} {x y z:PV} (h:v=(vd0,e)) (he:e≠0):x8 (jK ra most v) .ret [.ptr 2 0,.ptr 3 0] [.abs (rkI ra most),.cells (mtc c),.cells [.U m,.U i,.I r,x,y,z],.cells [.I e]]:=
 JL (fun _=>by rw[h]; exact⟨mX,_,rfl⟩) (fun h0=>absurd h0 he)
theorem EU {ra:List RwI} {most:Int} {c:Mt} {v:Vd×Int} {w:Vd} (h:v=(w,0)):x8 (jK ra most v) .ret [.ptr 2 0,.ptr 3 0] [.abs (rkI ra most),.cells (mtc c),.cells (vdC w),.cells [.I 0]]:=
 JL (fun h0=>absurd rfl h0) (fun _=>by rw[h]; exact⟨.refl _,_,rfl⟩)
theorem MZ [Dfr] {ra:List RwI} {most:Int} {c:Mt} {r:Int} (ok:Ok ra most) (hl:c.aa.length≤100000) {e:Env} (he:ah (List.map e [0,2,4,6,7]) [.ptr 0 0,.I r,.ptr 1 0,.ptr 2 0,.ptr 3 0]):AwK Tryz.f16.ntmps (bX [1,1] (ag Tryz.f16)) (fun ex e3 H3=>(ex = .normal∨ex = .ret)∧iB Tryz.prog gl 40 [.ptr 3 0,.ptr 2 0] H3 fun _ H4=>kF Tryz.prog Tryz.f16.results.toList (jK ra most (bj ra c r)) ex e3 H4) e [.abs (rkI ra most),.cells (mtc c),.cells [.U 0,.U 0,.I 0,.E,.E,.E],.cells [.I 0]]:=by
 refine dj (T:=TJU) (slots:=[0,2,4,6,7]) (outs:=[6,7]) (hn:=fun o=>match o.dst with|some 22=>1|some 81=>1|some 25=>1|some 36=>1|some 32=>201006|some 33=>301001|some 43=>201006|some 44=>301001|some 46=>101001|some 48=>101201|some _=>0|none=>match o.op with| .store _ (.tmp 6) _=>201006| .store _ (.tmp 7) _=>301001|_=>0) J7 (.nil _ _ _ _ _) he rfl (Lj ra most c r (x8 (jK ra most (bj ra c r))) ?_)
 simp only[au,List.length_map]
 by_cases c1:r<0
 ·rw[if_neg (by simpa using c1)]
  exact Bn (by unfold bj; rw[if_pos (.inl c1)]) (by decide)
 rw[if_pos (by simpa using c1)]
 by_cases c2:3≤r
 ·rw[if_pos (by simpa using c2)]
  exact Bn (by unfold bj; rw[if_pos (.inr c2)]) (by decide)
 rw[if_neg (by simpa using c2)]
 have n0:¬ (r<0∨3≤r):=by omega
 refine⟨0,ra,most,c,.no,.no,1,rfl,rfl,ok,by omega,?_⟩
 obtain⟨l1,l2⟩:=fN ra c.aa 1
 obtain⟨l3,l4⟩:=fN ra c.aa 2
 by_cases c3:(bz ra c.aa 1).2.2=0
 ·rw[if_neg (by simpa using c3)]
  refine⟨0,ra,most,c,.no,.no,2,rfl,rfl,ok,by omega,?_⟩
  by_cases c4:(bz ra c.aa 2).2.2=0
  ·rw[if_neg (by simpa using c4)]
   refine⟨_,_,rfl,by omega,_,_,rfl,by omega,_,.no,rfl,by rw[List.length_append]; omega,?_⟩
   have good:∀ w e,0<(bz ra c.aa 1).2.1.length∧0<(bz ra c.aa 2).2.1.length→_:=fun(_:Unit) (_:Unit) h=>h
   clear good
   by_cases c5:0<(bz ra c.aa 1).2.1.length
   ·rw[if_pos (by rw[decide_eq_true (by omega)]; try rfl)]
    by_cases c6:0<(bz ra c.aa 2).2.1.length
    ·rw[if_pos (by rw[decide_eq_true (by omega)]; try rfl)]
     refine⟨_,_,r,rfl,by omega,by omega,?_⟩
     obtain⟨l5,l6⟩:=uk (bz ra c.aa 1).2.1 (bz ra c.aa 2).2.1 r
     by_cases c7:(Elo.upd (bz ra c.aa 1).2.1 (bz ra c.aa 2).2.1 r).2.2=0
     ·rw[if_neg (by simpa using c7)]
      refine⟨_,_,rfl,by omega,?_⟩
      exact EU (w:=⟨c.id,c.ins,r,_,_,_⟩) (by unfold bj; rw[if_neg n0,if_neg (by simpa using c3),if_neg (by simpa using c4),if_pos ⟨c5,c6⟩,if_neg (by simpa using c7)])
     ·rw[if_pos (by simpa using c7)]
      exact Bn (by unfold bj; rw[if_neg n0,if_neg (by simpa using c3),if_neg (by simpa using c4),if_pos ⟨c5,c6⟩,if_pos c7]) c7
    ·rw[if_neg (by rw[decide_eq_false (by omega)]; decide)]
     exact EU (w:=⟨c.id,c.ins,r,_,_,_⟩) (by unfold bj; rw[if_neg n0,if_neg (by simpa using c3),if_neg (by simpa using c4),if_neg (fun h=>c6 h.2)])
   ·rw[if_neg (by rw[decide_eq_false (by omega)]; decide)]
    exact EU (w:=⟨c.id,c.ins,r,_,_,_⟩) (by unfold bj; rw[if_neg n0,if_neg (by simpa using c3),if_neg (by simpa using c4),if_neg (fun h=>c5 h.1)])
  ·rw[if_pos (by simpa using c4)]
   exact Bn (by unfold bj; rw[if_neg n0,if_neg (by simpa using c3),if_pos c4]) c4
 ·rw[if_pos (by simpa using c3)]
  exact Bn (by unfold bj; rw[if_neg n0,if_pos c3]) c3
def sO (args:List PV) (H:ae) (K:PV→Prop):Prop:=∃(q:Nat) (ra:List RwI) (most:Int) (c:Mt) (t1 t2:Tail) (r:Int),ah args [.ptr q 0,.agg [.U c.id,.I c.md,.U c.ins,.list (c.rows.map rrc) t1,.list (c.aa.map stc) t2],.I r]∧bR H q (rkI ra most)∧Ok ra most∧c.aa.length≤100000∧
 (let v:=bj ra c r; K (.tup [.agg [.U v.1.m,.U v.1.i,.I v.1.r,.list (v.1.ps.map u1) .no,.list (v.1.old.map i1) .no,.list (v.1.new.map i1) .no],.I v.2]))
theorem uA:SpK 16 (.read sO):=by
 rintro args H K ⟨q,ra,most,c,t1,t2,r,he,hA,ok,hl,hk⟩
 have he:args=_:=he
 subst he
 refine⟨pT (bj ra c r),?_,hk⟩
 refine bc (.cons (.refl _) (.cons (.agg (xs':=mtc c) (.cons (.refl _) (.cons (.refl _) (.cons (.refl _) (.cons (.list _ _) (.cons (.list _ _) .nil)))))) (.cons (.refl _) .nil))) ?_
 refine tf aj hA (args0:=[.ptr 0 0,c.pv,.I r]) (.cons (Ren.ptr (ρ:=fun _=>q) (n:=1) 0 0 (by omega)) (.cons (.low c.low) (.cons (.low (.int _ _)) .nil))) (oI _) ?_
 refine a9 (ax.mono (K:=jK ra most (bj ra c r)) ?_ fun x H' ⟨h1,h2⟩=>⟨_,h1,rfl,h2⟩)
 refine mj (t:=15) 0 Tryz.func16 (by kernel_rfl) (by kernel_rfl) (by kernel_rfl) (by kernel_rfl) (by kernel_rfl) ?_
 refine dj (T:=[]) (slots:=[0,1,2]) (fF:=[.ptr 0 0,c.pv,.I r]) (outs:=[0,2,4,6,7]) (hn:=fun _=>0) (.nil _ _) (.nil _ _ _ _ _) rfl rfl (Mi ra most c r (fun ex vs H'=>ex = .normal∧opw Tryz.prog gl (Lu (ag Tryz.f16)).op 0 (ev gl (ak [0,2,4,6,7] vs)) H' fun x H2=>∃ F caps,x = .fn F caps∧cU Tryz.prog F=true∧
   ∀ D:Dfr,@AW D Tryz.prog gl Tryz.f16.ntmps (bX [1,1] (ag Tryz.f16)) (fun ex e3 H3=>(ex = .normal∨ex = .ret)∧iB Tryz.prog gl F caps H3 fun _ H4=>kF Tryz.prog Tryz.f16.results.toList (jK ra most (bj ra c r)) ex e3 H4) (upd (ak [0,2,4,6,7] vs) (some 15) x) H2) ?_)
 refine⟨rfl,?_⟩
 have hmk:(Lu (ag Tryz.f16)).op = .makeFunc (.func 40) #[] #[.tmp 7,.tmp 6]:=by kernel_rfl
 rw[hmk]
 have key:∀ K':PV→ae→Prop,K' (.fn 40 [.ptr 3 0,.ptr 2 0]) [.abs (rkI ra most),.cells (mtc c),.cells [.U 0,.U 0,.I 0,.E,.E,.E],.cells [.I 0]]→opw Tryz.prog gl (.makeFunc (.func 40) #[] #[.tmp 7,.tmp 6]) 0 (ev gl (ak [0,2,4,6,7] [.ptr 0 0,.I r,.ptr 1 0,.ptr 2 0,.ptr 3 0])) [.abs (rkI ra most),.cells (mtc c),.cells [.U 0,.U 0,.I 0,.E,.E,.E],.cells [.I 0]] K':=fun K' h=>⟨rfl,Eq.mpr (by kernel_rfl) h⟩
 exact key _ ⟨40,[.ptr 3 0,.ptr 2 0],rfl,by kernel_rfl,fun D=> @MZ D ra most c r ok hl _ rfl⟩
def dy (ra:List RwI) (most:Int) (xs:List (Int×Int)):List RwI:=xs.foldl (fun l x=>(cV l most x.1 x.2).1) ra
def TAP:Tab:=[(33,.read oL),(22,.heap wq)]
theorem wz:TbK TAP:= .cons oo (.cons sq (.nil _ _))
theorem K0 (ra:List RwI) (most:Int) (v:Vd) (i:Nat):(by refine(?_:_→_→_→Prop) (PV.list (v.ps.map u1) .no) (List.getD (v.ps.map u1) (Int.toNat (i:Int)) []) (PV.I v.ps.length); exact fun c d f=>by refine(?_:_→_→Prop) [Ob.abs (rkI ra most),.cells [.U v.m,.U v.i,.I v.r,c,.list (v.old.map i1) .no,.list (v.new.map i1) .no]] [PV.ptr 0 0,.ptr 1 0,.I 0,c,f,.I i]; exact fun a b=>∀(R:Ex→List PV→ae→Prop),(br (decide ((i:Int)<(v.ps.length:Int))) (InL (v.ps.map u1) 1 (i:Int)∧br (true && aE [.int .u32] 0 d) (∃(q:Nat) (l:List RwI) (most_1:Int) (t:Int),ah [.ptr 0 0,.U (cI d 0)] [.ptr q 0,.U t]∧bR a q (rkI l most_1)∧Ok l most_1∧br (!has l t) (R .ret [.ptr 0 0,.ptr 1 0,.I 12,c,f,.I i] a) (R .normal [.ptr 0 0,.ptr 1 0,.I 0,c,f,.I (wI ((i:Int)+1))] a)) False) (R (.exit 0) b a))→Holds (wpK TAP [] (fun _=>0) (ai [1,1,0,1,0] (ag Tryz.f18)) [] (ak [0,3,4,19,20,21] b) [.abs (rkI ra most),.cells (vdC v)] (fun ex e H=>R ex (List.map e [0,3,4,19,20,21]) H)):Prop):=fun R h=>hoE h
theorem JX (ra:List RwI) (most:Int) (v:Vd) (i:Nat):(by refine(?_:_→_→_→_→Prop) (Int.toNat (i:Int)) (PV.list (v.ps.map u1) .no) (Ob.abs (rkI ra most)) (PV.I v.ps.length); exact fun c d f j=>by refine(?_:_→_→_→_→Prop) (Ob.cells [.U v.m,.U v.i,.I v.r,d,.list (v.old.map i1) .no,.list (v.new.map i1) .no]) [PV.ptr 0 0,.ptr 1 0,d,j,.I i] (List.getD (v.new.map i1) c []) (List.getD (v.ps.map u1) c []); exact fun a b g h=>∀(R:Ex→List PV→ae→Prop),(br (decide ((i:Int)<(v.ps.length:Int))) (InL (v.ps.map u1) 1 (i:Int)∧br (true && aE [.int .u32] 0 h) (InL (v.new.map i1) 1 (i:Int)∧br (true && aE [.int .i64] 0 g) (∃(l:List RwI) (most_1:Int) (t:Int) (v_1:Int),ah [.U (cI h 0),.I (cI g 0)] [.U t,.I v_1]∧bR [f,a] 0 (rkI l most_1)∧Ok l most_1∧R .normal [.ptr 0 0,.ptr 1 0,d,j,.I (wI ((i:Int)+1))] [.abs (rkI (Prod.fst (cV l most_1 t v_1)) most_1),a]) False) False) (R (.exit 2) b [f,a]))→Holds (wpK TAP [] (fun _=>0) (ai [1,1,1,0,1,0] (ag Tryz.f18)) [] (ak [0,3,35,36,37] b) [f,.cells (vdC v)] (fun ex e H=>R ex (List.map e [0,3,35,36,37]) H)):Prop):=fun R h=>hoE h
def hasAll (ra:List RwI) (l:List Int):Bool:=l.all fun p=>has ra p
def cE (ra:List RwI) (most:Int) (v:Vd):List RwI×Int:=if v.new.length≠v.ps.length then(ra,21) else if hasAll ra v.ps=true then(dy ra most (v.ps.zip v.new),0) else(ra,12)
theorem pC {ra:List RwI} {most:Int} (ok:Ok ra most) (xs:List (Int×Int)):Ok (dy ra most xs) most:=by
 unfold dy
 induction xs generalizing ra with
 | nil=>exact ok
 | cons x xs ih=>exact ih (ok.put _ _)
theorem An {ra:List RwI} {most:Int} (ok:Ok ra most) (v:Vd):Ok (cE ra most v).1 most:=by
 unfold cE
 split
 ·exact ok
 ·split
  ·exact pC ok _
  ·exact ok
theorem wo {ra:List RwI} {most:Int} {ps ns:List Int} {i:Nat} (h:i<ps.length) (hl:ns.length=ps.length):dy ra most ((ps.zip ns).take (i+1))=(cV (dy ra most ((ps.zip ns).take i)) most (ps.getD i 0) (ns.getD i 0)).1:=by
 have hz:i<(ps.zip ns).length:=by rw[List.length_zip]; omega
 unfold dy
 rw[aI (0,0) hz,List.foldl_append]
 rw[List.getD_eq_getElem?_getD,List.getD_eq_getElem?_getD,List.getD_eq_getElem?_getD,List.getElem?_eq_getElem hz,List.getElem?_eq_getElem h,List.getElem?_eq_getElem (by omega),List.getElem_zip]
 rfl
def Jw:LSp:=fun e H Q=>∃(ra:List RwI) (most:Int) (v:Vd),Ok ra most∧v.ps.length≤1000000∧ah (List.map e [0,3,4,19,20,21]) [.ptr 0 0,.ptr 1 0,.I 0,.list (v.ps.map u1) .no,.I v.ps.length,.I 0]∧av H [.abs (rkI ra most),.cells (vdC v)]∧(hasAll ra v.ps=true→Q (.exit 0) (ak [0,3,4,19,20,21] [.ptr 0 0,.ptr 1 0,.I 0,.list (v.ps.map u1) .no,.I v.ps.length,.I v.ps.length]) [.abs (rkI ra most),.cells (vdC v)])∧(hasAll ra v.ps=false→∀ i:Nat,Q .ret (ak [0,3,4,19,20,21] [.ptr 0 0,.ptr 1 0,.I 12,.list (v.ps.map u1) .no,.I v.ps.length,.I i]) [.abs (rkI ra most),.cells (vdC v)])
theorem DC:∀ e H Q,Jw e H Q→AwK Tryz.f18.ntmps (.loop (ai [1,1,0,1,0] (ag Tryz.f18))) Q e H:=by
 rintro e H Q ⟨ra,most,v,ok,hl,he,hH,hQ0,hQ1⟩
 refine aB (hn:=fun _=>0) aj wz (.nil _ _ _ _ _) (σ:=Nat) [0,3,4,19,20,21] (fun i=>i≤v.ps.length∧hasAll ra (v.ps.take i)=true) (fun i=>[.ptr 0 0,.ptr 1 0,.I 0,.list (v.ps.map u1) .no,.I v.ps.length,.I i]) (fun _=>[.abs (rkI ra most),.cells (vdC v)]) (fun i=>v.ps.length-i) 0 ⟨Nat.zero_le _,rfl⟩ he hH ?_
 rintro i ⟨hi,hall⟩
 refine K0 ra most v i _ ?_
 simp only[au,dt,an]
 by_cases h:i<v.ps.length
 ·rw[if_pos (by omega)]
  have inl:InL (v.ps.map u1) 1 (i:Int):=by rw[dM]; exact h
  have cp:∀ z:Int,cI (u1 z) 0=z:=fun _=>rfl
  have cq:∀ z:Int,cI (i1 z) 0=z:=fun _=>rfl
  refine⟨inl,?_⟩
  simp only[getD_map 0 h,cp]
  rw[if_pos (by rfl)]
  refine⟨0,ra,most,v.ps.getD i 0,rfl,rfl,ok,?_⟩
  have hs:hasAll ra (v.ps.take (i+1))=(hasAll ra (v.ps.take i) && has ra (v.ps.getD i 0)):=by unfold hasAll; rw[aI 0 h,List.all_append]; simp
  by_cases c:has ra (v.ps.getD i 0)=true
  ·rw[if_neg (by rw[c]; decide)]
   exact⟨i+1,(show v.ps.length-(i+1)<v.ps.length-i by omega),⟨h,by rw[hs,hall,c]; rfl⟩,by rw[ar h (by omega)],[],rfl,Nat.le_refl _,.inl rfl⟩
  ·rw[if_pos (by rw[eq_false_of_ne_true c]; rfl)]
   refine hQ1 ?_ i
   refine eq_false_of_ne_true fun hA=>c (List.all_eq_true.1 hA _ ?_)
   rw[List.getD_eq_getElem?_getD,List.getElem?_eq_getElem h]; exact List.getElem_mem h
 ·rw[if_neg (by omega)]
  have:i=v.ps.length:=by omega
  subst this
  rw[List.take_length] at hall
  exact hQ0 hall
def IV:LSp:=fun e H Q=>∃(ra:List RwI) (most:Int) (v:Vd),Ok ra most∧v.ps.length≤1000000∧v.new.length=v.ps.length∧ah (List.map e [0,3,35,36,37]) [.ptr 0 0,.ptr 1 0,.list (v.ps.map u1) .no,.I v.ps.length,.I 0]∧av H [.abs (rkI ra most),.cells (vdC v)]∧Q (.exit 2) (ak [0,3,35,36,37] [.ptr 0 0,.ptr 1 0,.list (v.ps.map u1) .no,.I v.ps.length,.I v.ps.length]) [.abs (rkI (dy ra most (v.ps.zip v.new)) most),.cells (vdC v)]
theorem Fo:∀ e H Q,IV e H Q→AwK Tryz.f18.ntmps (.loop (ai [1,1,1,0,1,0] (ag Tryz.f18))) Q e H:=by
 rintro e H Q ⟨ra,most,v,ok,hl,hnl,he,hH,hQ⟩
 refine aB (hn:=fun _=>0) aj wz (.nil _ _ _ _ _) (σ:=Nat) [0,3,35,36,37] (fun i=>i≤v.ps.length) (fun i=>[.ptr 0 0,.ptr 1 0,.list (v.ps.map u1) .no,.I v.ps.length,.I i]) (fun i=>[.abs (rkI (dy ra most ((v.ps.zip v.new).take i)) most),.cells (vdC v)]) (fun i=>v.ps.length-i) 0 (Nat.zero_le _) he hH ?_
 intro i hi
 have hi':i≤v.ps.length:=hi
 refine JX _ most v i _ ?_
 simp only[au,dt,an]
 by_cases h:i<v.ps.length
 ·rw[if_pos (by omega)]
  have inl:InL (v.ps.map u1) 1 (i:Int):=by rw[dM]; exact h
  have cp:∀ z:Int,cI (u1 z) 0=z:=fun _=>rfl
  have cq:∀ z:Int,cI (i1 z) 0=z:=fun _=>rfl
  refine⟨inl,?_⟩
  simp only[getD_map 0 h,cp]
  rw[if_pos (by rfl)]
  refine⟨by rw[u5]; omega,?_⟩
  simp only[getD_map 0 (show i<v.new.length by omega),cq]
  rw[if_pos (by rfl)]
  refine⟨_,most,v.ps.getD i 0,v.new.getD i 0,rfl,rfl,pC ok _,?_⟩
  rw[← wo h hnl]
  exact⟨i+1,(show v.ps.length-(i+1)<v.ps.length-i by omega),h,by rw[ar h (by omega)],[],rfl,Nat.le_refl _,.inl rfl⟩
 ·rw[if_neg (by omega)]
  have:i=v.ps.length:=by omega
  subst this
  rw[List.take_of_length_le (by rw[List.length_zip]; omega)]
  exact hQ
theorem L8 (ra:List RwI) (most:Int) (v:Vd):(by refine(?_:_→_→Prop) (↑(List.length (v.ps.map u1)):Int) (PV.list (v.ps.map u1) .no); exact fun f g=>by refine(?_:_→Prop) [Ob.abs (rkI ra most),.cells [.U v.m,.U v.i,.I v.r,g,.list (v.old.map i1) .no,.list (v.new.map i1) .no]]; exact fun e=>∀(K:PV→ae→Prop),(br ((↑(List.length (v.new.map i1)):Int) != f) (K (.I 21) e) (∃(ra_1:List RwI) (most_1:Int) (v_1:Vd),by refine(?_:_→Prop) (PV.list (v_1.ps.map u1) .no); exact fun d=>by refine(?_:_→Prop) [Ob.abs (rkI ra_1 most_1),.cells [.U v_1.m,.U v_1.i,.I v_1.r,d,.list (v_1.old.map i1) .no,.list (v_1.new.map i1) .no]]; exact fun c=>Ok ra_1 most_1∧v_1.ps.length≤1000000∧ah [.ptr 0 0,.ptr 1 0,.I 0,g,.I f,.I 0] [.ptr 0 0,.ptr 1 0,.I 0,d,.I v_1.ps.length,.I 0]∧av e c∧(hasAll ra_1 v_1.ps=true→∃(ra:List RwI) (most:Int) (v:Vd),by refine(?_:_→Prop) (PV.list (v.ps.map u1) .no); exact fun b=>by refine(?_:_→Prop) (Ob.cells [.U v.m,.U v.i,.I v.r,b,.list (v.old.map i1) .no,.list (v.new.map i1) .no]); exact fun a=>Ok ra most∧v.ps.length≤1000000∧v.new.length=v.ps.length∧ah [.ptr 0 0,.ptr 1 0,d,.I (↑(List.length (v_1.ps.map u1)):Int),.I 0] [.ptr 0 0,.ptr 1 0,b,.I v.ps.length,.I 0]∧av c [.abs (rkI ra most),a]∧K (.I 0) [.abs (rkI (dy ra most (List.zip v.ps v.new)) most),a])∧(hasAll ra_1 v_1.ps=false→∀(_:Nat),K (.I 12) c)))→AcK 18 [.ptr 0 0,.agg (vdC v)] [.abs (rkI ra most)] K:Prop):=fun K h=>acW (T:=TAP) (L:=[([1,1,0,1,0],Jw),([1,1,1,0,1,0],IV)]) (fun _=>0) Tryz.func18 (wz) (.cons suE DC (.cons suE Fo (.nil _ _ _ _ _))) h
def nU (args:List PV) (H:ae) (K:PV→ae→Prop):Prop:=match args with
 | .ptr q 0::rest=>∃(ra:List RwI) (most:Int) (v:Vd) (t1 t2 t3:Tail),ah rest [.agg [.int .u32 v.m,.int .u32 v.i,.int .i64 v.r,.list (v.ps.map u1) t1,.list (v.old.map i1) t2,.list (v.new.map i1) t3]]∧bR H q (rkI ra most)∧Ok ra most∧v.ps.length≤1000000∧K (.int .i64 (cE ra most v).2) (H.set q (.abs (rkI (cE ra most v).1 most)))
 | _=>False
theorem tc:SpK 18 (.heap nU):=by
 intro args H K h
 unfold nU at h
 split at h
 ·rename_i q rest
  obtain⟨ra,most,v,t1,t2,t3,he,hA,ok,hl,hk⟩:=h
  have he:rest=_:=he
  subst he
  refine bc (.cons (.refl _) (.cons (.agg (xs':=vdC v) (.cons (.refl _) (.cons (.refl _) (.cons (.refl _) (.cons (.list _ _) (.cons (.list _ _) (.cons (.list _ _) .nil))))))) .nil)) ?_
  refine uI aj (R':=rkI (cE ra most v).1 most) hA (bu (.agg _ (fI v))) (.int _ _) ?_ hk
  refine L8 ra most v (fun x H'=>x = .I (cE ra most v).2∧∃ G,H' = .abs (rkI (cE ra most v).1 most)::G) ?_
  simp only[au,List.length_map]
  by_cases c:v.new.length=v.ps.length
  ·rw[if_neg (by simp[c])]
   refine⟨ra,most,v,ok,hl,(by first|rfl|(show _=_; simp)),rfl,fun h1=>?_,fun h1 i=>?_⟩
   ·have e:cE ra most v=(dy ra most (v.ps.zip v.new),0):=by unfold cE; rw[if_neg (by simp[c]),if_pos h1]
    refine⟨ra,most,v,ok,hl,c,(by first|rfl|(show _=_; simp)),rfl,?_⟩
    rw[e]; exact⟨rfl,[_],rfl⟩
   ·have e:cE ra most v=(ra,12):=by unfold cE; rw[if_neg (by simp[c]),if_neg (by rw[h1]; decide)]
    rw[e]; exact⟨rfl,[_],rfl⟩
  ·rw[if_pos (by simp; omega)]
   have e:cE ra most v=(ra,21):=by unfold cE; rw[if_pos c]
   rw[e]; exact⟨rfl,[_],rfl⟩
 ·exact h.elim
theorem pS {c:Mt} (h:c.Ok):c.aa.length=tot c.rows:=by
 have e:=h.pm.length_eq
 unfold fb pairs at e
 rw[List.length_map,List.length_flatMap] at e
 rw[e]; unfold tot
 congr 1
 exact List.map_congr_left fun r _=>List.length_map _
theorem Jg {c:Mt} (h:c.Ok):tot c.rows≤8:=by rw[mL h.tm]; have:=h.t1; have:=h.t2; omega
def EN (args:List PV) (H:ae) (K:PV→ae→Prop):Prop:=∃(w:List Mt) (m id:Int),ah args [.ptr 2 0,.U id]∧cj H 2 1 (rkM (aq w) m)∧MO w m∧K (.tup [(gM w id).pv,.bool (bC Mt.id w id)]) (H.set 1 (.abs (rkM (aq (fa Mt.id w id)) m)))
theorem HI:SpK 37 (.heap EN):=fun args H K ⟨w,m,id,he,hb,ro,hk⟩=>Md args H K ⟨2,1,w,m,id,he,hb,ro,hk⟩
def TRP:Tab:=[(9,.read sP),(16,.read sO),(18,.heap nU),(37,.heap EN)]
theorem LH:TbK TRP:= .cons r5 (.cons uA (.cons tc (.cons HI (.nil _ _))))
theorem Kx (ra:List RwI) (mb:Int) (w:List Mt) (m ins id r:Int):(by refine(?_:_→_→_→_→_→Prop) [PV.U 0,.U 0,.I 0,.E,.E,.E] [PV.U 0,.I 0,.U 0,.E,.E] (Ob.abs (rkM (aq w) m)) [PV.ptr 2 0,.U id] (Ob.abs (rkI ra mb)); exact fun j k l n o=>∀(K:PV→ae→Prop),(∃(q:Nat) (r_1:Nat) (w_1:List Mt) (m_1:Int) (t:Int),by refine(?_:_→Prop) [PV.U (Mt.id (gM w_1 t)),.I (Mt.md (gM w_1 t)),.U (Mt.ins (gM w_1 t)),.list (List.map rrc (Mt.rows (gM w_1 t))) .no,.list (List.map stc (Mt.aa (gM w_1 t))) .no]; exact fun g=>by refine(?_:_→Prop) [o,l,.cells [.ptr 1 0],.cells j,.cells k,.cells g]; exact fun h=>ah n [.ptr q 0,.U t]∧cj [.abs (rkI ra mb),l,.cells [.ptr 1 0],.cells j,.cells k] q r_1 (rkM (aq w_1) m_1)∧MO w_1 m_1∧br (!bC Mt.id w_1 t) (K (.tup [.agg j,.agg k,.I 12]) h) (br (Mt.ins (gM w_1 t) != ins) (K (.tup [.agg j,.agg k,.I 13]) h) (∃(q:Nat) (ra_1:List RwI) (most:Int) (c:Mt) (t1:Tail) (t2:Tail) (r_2:Int),by refine(?_:_→Prop) (bj ra_1 c r_2); exact fun f=>by refine(?_:_→Prop) (Prod.fst f); exact fun e=>by refine(?_:_→Prop) [PV.U (Vd.m e),.U (Vd.i e),.I (Vd.r e),.list (List.map u1 (Vd.ps e)) .no,.list (List.map i1 (Vd.old e)) .no,.list (List.map i1 (Vd.new e)) .no]; exact fun b=>by refine(?_:_→Prop) [o,l,.cells [.ptr 1 0],.cells j,.cells k,.cells g,.cells b]; exact fun d=>ah [.ptr 0 0,.agg g,.I r] [.ptr q 0,.agg [.U c.id,.I c.md,.U c.ins,.list (c.rows.map rrc) t1,.list (c.aa.map stc) t2],.I r_2]∧bR h q (rkI ra_1 most)∧Ok ra_1 most∧c.aa.length≤100000∧br (Prod.snd f != 0) (K (.tup [.agg j,.agg k,.I (Prod.snd f)]) d) (∃(ra_2:List RwI) (most:Int) (v:Vd) (t1:Tail) (t2:Tail) (t3:Tail),by refine(?_:_→Prop) (Ob.abs (rkI (Prod.fst (cE ra_2 most v)) most)); exact fun a=>ah [.agg b] [.agg [.U v.m,.U v.i,.I v.r,.list (v.ps.map u1) t1,.list (v.old.map i1) t2,.list (v.new.map i1) t3]]∧bR d 0 (rkI ra_2 most)∧Ok ra_2 most∧v.ps.length≤1000000∧∃(w_2:List Mt) (m_2:Int) (id_1:Int),ah n [.ptr 2 0,.U id_1]∧cj [a,l,.cells [.ptr 1 0],.cells j,.cells k,.cells g,.cells b] 2 1 (rkM (aq w_2) m_2)∧MO w_2 m_2∧K (.tup [.agg b,.agg g,.I 0]) [a,.abs (rkM (aq (fa Mt.id w_2 id_1)) m_2),.cells [.ptr 1 0],.cells b,.cells g,.cells g,.cells b]))))→AcK 10 [.ptr 0 0,.ptr 2 0,.U ins,.U id,.I r] [.abs (rkI ra mb),l,.cells [.ptr 1 0]] K:Prop):=fun K h=>acW (T:=TRP) (L:=[]) (fun o=>match o.dst with|some 37=>1|some 48=>1|some 53=>601006|some 54=>501005|some _=>0|none=>match o.op with| .store _ (.tmp 10) (.tmp 53)=>301006| .store _ (.tmp 11) (.tmp 54)=>401005|_=>0) Tryz.func10 (LH) (LOk.nil _ _ _ _ _) h
structure Rp where
 ra:List RwI
 w:List Mt
 v:Vd
 c:Mt
 e:Int
def bZ (ra:List RwI) (mb:Int) (w:List Mt) (ins id r:Int):Rp:=
 if bC Mt.id w id=false then⟨ra,w,vd0,mt0,12⟩ else if(gM w id).ins≠ins then⟨ra,w,vd0,mt0,13⟩ else if(bj ra (gM w id) r).2≠0 then⟨ra,w,vd0,mt0,(bj ra (gM w id) r).2⟩
 else⟨(cE ra mb (bj ra (gM w id) r).1).1,fa Mt.id w id,(bj ra (gM w id) r).1,gM w id,0⟩
def M0 (p:Rp):PV:= .tup [.agg (vdC p.v),p.c.pv,.I p.e]
theorem AA {n:Nat} (p:Rp):Low n (M0 p):= .tup _ (dO (.agg _ (fI _)) (p.c.low) (.int _ _))
theorem wi {ra:List RwI} {c:Mt} {r:Int}:(bj ra c r).1.ps.length≤2*c.aa.length:=by
 have l1:=(fN ra c.aa 1).1
 have l2:=(fN ra c.aa 2).1
 have z:vd0.ps.length≤2*c.aa.length:=Nat.zero_le _
 unfold bj
 split
 ·exact z
 split
 ·exact z
 split
 ·exact z
 split
 ·split
  ·exact z
  ·show(_++_:List Int).length≤_; rw[List.length_append]; omega
 ·show(_++_:List Int).length≤_; rw[List.length_append]; omega
theorem rj {e:Int}:Wk (.tup [.agg [.U 0,.U 0,.I 0,.E,.E,.E],.agg [.U 0,.I 0,.U 0,.E,.E],.I e]) (.tup [.agg (vdC vd0),mt0.pv,.I e]):=
 .tup (.cons (.agg (xs':=vdC vd0) (.cons (.refl _) (.cons (.refl _) (.cons (.refl _) (.cons (.list _ _) (.cons (.list _ _) (.cons (.list _ _) .nil))))))) (.cons (.agg (xs':=mtc mt0) (.cons (.refl _) (.cons (.refl _) (.cons (.refl _) (.cons (.list _ _) (.cons (.list _ _) .nil)))))) (.cons (.refl _) .nil)))
theorem uS {ra:List RwI} {mb:Int} {w:List Mt} {m:Int} (ok:Ok ra mb) (ro:MO w m) (ins id r:Int):AcK 10 [.ptr 0 0,.ptr 2 0,.U ins,.U id,.I r] [.abs (rkI ra mb),.abs (rkM (aq w) m),.cells [.ptr 1 0]] (fun x H'=>Wk x (M0 (bZ ra mb w ins id r))∧∃ G,H' = .abs (rkI (bZ ra mb w ins id r).ra mb) :: .abs (rkM (aq (bZ ra mb w ins id r).w) m) :: .cells [.ptr 1 0]::G):=by
 refine Kx ra mb w m ins id r _ ?_
 simp only[au]
 refine⟨2,1,w,m,id,rfl,⟨rfl,rfl⟩,ro,?_⟩
 by_cases c1:bC Mt.id w id=true
 ·rw[if_neg (by rw[c1]; decide)]
  by_cases c2:(gM w id).ins=ins
  ·rw[if_neg (by simp[c2])]
   have hs:(gM w id).aa.length≤8:=by have h:=ro.cs _ (fC c1).1; rw[pS h]; exact Jg h
   refine⟨0,ra,mb,gM w id,.no,.no,r,rfl,rfl,ok,by omega,?_⟩
   by_cases c3:(bj ra (gM w id) r).2=0
   ·rw[if_neg (by simp[c3])]
    have hl:=wi (ra:=ra) (c:=gM w id) (r:=r)
    have e:bZ ra mb w ins id r=⟨(cE ra mb (bj ra (gM w id) r).1).1,fa Mt.id w id,(bj ra (gM w id) r).1,gM w id,0⟩:=by unfold bZ; rw[if_neg (by rw[c1]; decide),if_neg (by simp[c2]),if_neg (by simp[c3])]
    refine⟨ra,mb,(bj ra (gM w id) r).1,.no,.no,.no,rfl,rfl,ok,by omega,w,m,id,rfl,⟨rfl,rfl⟩,ro,?_⟩
    rw[e]
    exact⟨.refl _,_,rfl⟩
   ·rw[if_pos (by simpa using c3)]
    have e:bZ ra mb w ins id r=⟨ra,w,vd0,mt0,(bj ra (gM w id) r).2⟩:=by unfold bZ; rw[if_neg (by rw[c1]; decide),if_neg (by simp[c2]),if_pos c3]
    rw[e]; exact⟨rj,_,rfl⟩
  ·rw[if_pos (by simpa using c2)]
   have e:bZ ra mb w ins id r=⟨ra,w,vd0,mt0,13⟩:=by unfold bZ; rw[if_neg (by rw[c1]; decide),if_pos c2]
   rw[e]; exact⟨rj,_,rfl⟩
 ·rw[if_pos (by rw[eq_false_of_ne_true c1]; rfl)]
  have e:bZ ra mb w ins id r=⟨ra,w,vd0,mt0,12⟩:=by unfold bZ; rw[if_pos (eq_false_of_ne_true c1)]
  rw[e]; exact⟨rj,_,rfl⟩
theorem oA {ra:List RwI} {mb:Int} {w:List Mt} {m:Int} (ok:Ok ra mb) (ro:MO w m) (ins id r:Int):Ok (bZ ra mb w ins id r).ra mb∧MO (bZ ra mb w ins id r).w m:=by
 unfold bZ
 split
 ·exact⟨ok,ro⟩
 split
 ·exact⟨ok,ro⟩
 split
 ·exact⟨ok,ro⟩
 ·exact⟨An ok _,ro.drop _⟩
def ou (args:List PV) (H:ae) (K:PV→ae→Prop):Prop:=match args with
 | .ptr q 0 :: .ptr t 0::rest=>match Jb H t with
  | some a=>∃(ra:List RwI) (mb:Int) (w:List Mt) (m ins id r:Int),ah rest [.int .u32 ins,.int .u32 id,.int .i64 r]∧bR H q (rkI ra mb)∧cj H t a (rkM (aq w) m)∧q≠a∧Ok ra mb∧MO w m∧
   (let p:=bZ ra mb w ins id r; K (.tup [.agg [.U p.v.m,.U p.v.i,.I p.v.r,.list (p.v.ps.map u1) .no,.list (p.v.old.map i1) .no,.list (p.v.new.map i1) .no],.agg [.U p.c.id,.I p.c.md,.U p.c.ins,.list (p.c.rows.map rrc) .no,.list (p.c.aa.map stc) .no],.I p.e]) ((H.set q (.abs (rkI p.ra mb))).set a (.abs (rkM (aq p.w) m))))
  | none=>False
 | _=>False
theorem zK:SpK 10 (.heap ou):=by
 intro args H K h
 unfold ou at h
 split at h
 ·rename_i q t rest
  split at h
  ·rename_i a ha
   obtain⟨ra,mb,w,m,ins,id,r,he,hI,hB,hne,ok,ro,hk⟩:=h
   have he:rest=_:=he
   subst he
   exact pz aj hI hB hne (dO (.int _ _) (.int _ _) (.int _ _)) (AA (bZ ra mb w ins id r)) (a9 ((uS ok ro ins id r).mono fun x H' ⟨h1,h2⟩=>⟨_,h1,rfl,h2⟩)) hk
  ·exact h.elim
 ·exact h.elim
theorem yW (w:List RwI) (m:Int) (t:Int) (i:Nat):(by refine(?_:_→_→_→Prop) [Ob.cells [.list (w.map csI) .no,.I m]] (List.drop 0 (List.getD (w.map csI) (Int.toNat (i:Int)) [])) [PV.U t,.ptr 0 0,.I 0,.I i]; exact fun a b c=>∀(R:Ex→List PV→ae→Prop),(br (decide ((i:Int)<(↑(List.length (w.map csI)):Int))) (InL (w.map csI) 2 (i:Int)∧br (true && aE [.int .u32] 0 b) (br (cI b 0 == t) (R .ret [.U t,.ptr 0 0,.I i,.I i] a) (R .normal [.U t,.ptr 0 0,.I 0,.I (wI ((i:Int)+1))] a)) False) (R (.exit 0) c a))→Holds (wpK [] [] (fun _=>0) (ai [1,0,1,0] (ag Tryz.f54)) [] (ak [1,2,4,5] c) a (fun ex e H=>R ex (List.map e [1,2,4,5]) H)):Prop):=fun R h=>hoE h
theorem zN (w:List RwI) (m:Int) (t:Int) (i:Nat):(by refine(?_:_→_→_→_→_→Prop) (List.getD (w.map csI) (Int.toNat (i:Int)) []) [PV.U t,.ptr 0 0,.ptr 1 0,.ptr 2 0,.I (wI ((i:Int)+1))] [PV.U t,.ptr 0 0,.ptr 1 0,.ptr 2 0,.I i] (Ob.cells [.E,.I 0]) [PV.list (w.map csI) .no,.I m]; exact fun a d f g h=>by refine(?_:_→_→Prop) [Ob.cells h,g,.cells [.E,.I m]] (PV.I (cI a 1)); exact fun b j=>by refine(?_:_→Prop) [[PV.U (cI a 0),j]]; exact fun c=>∀(R:Ex→List PV→ae→Prop),(br (decide ((i:Int)<(↑(List.length (w.map csI)):Int))) (InL (w.map csI) 2 (i:Int)∧br (true && aE [.int .u32] 0 (List.drop 0 a)) (br (cI (List.drop 0 a) 0 != t) (InL (w.map csI) 2 (i:Int)∧br (true && aE [.int .u32,.int .i64] 0 a) (aG [] c 2 16∧(List.all [.U (cI a 0),j] PV.one=true∧c≠[])∧R .normal d [.cells h,g,.cells [.list c (.tok 3),.I m],.tok]) False) (R .normal d b)) False) (R (.exit 0) f b))→Holds (wpK [] [] (fun o=>match o.op with| .load t _=>(match t with|31=>1|_=>0)|_=>match o.dst with|some 33=>1|_=>0) (ai [1,1,0,1,0] (ag Tryz.f55)) [] (ak [1,2,4,5,6] f) b (fun ex e H=>R ex (List.map e [1,2,4,5,6]) H)):Prop):=fun R h=>hoE h
theorem yY (w:List RwI) (m:Int) (t:Int) (es:List (List PV)) (i:Nat):(by refine(?_:_→_→_→_→_→Prop) (List.getD (w.map csI) (Int.toNat (i:Int)) []) [PV.U t,.ptr 0 0,.ptr 1 0,.ptr 2 0,.I (wI ((i:Int)+1))] [PV.U t,.ptr 0 0,.ptr 1 0,.ptr 2 0,.I i] (Ob.cells [.E,.I 0]) [PV.list (w.map csI) .no,.I m]; exact fun a d f g h=>by refine(?_:_→_→Prop) [Ob.cells h,g,.cells [.list es (.tok 3),.I m],.tok] (PV.I (cI a 1)); exact fun b j=>by refine(?_:_→Prop) [[PV.U (cI a 0),j]]; exact fun c=>∀(R:Ex→List PV→ae→Prop),(br (decide ((i:Int)<(↑(List.length (w.map csI)):Int))) (InL (w.map csI) 2 (i:Int)∧br (true && aE [.int .u32] 0 (List.drop 0 a)) (br (cI (List.drop 0 a) 0 != t) (InL (w.map csI) 2 (i:Int)∧br (true && aE [.int .u32,.int .i64] 0 a) (aG es c 2 16∧(List.all [.U (cI a 0),j] PV.one=true∧c≠[])∧R .normal d [.cells h,g,.cells [.list (es++c) (.tok 4),.I m],.dead,.tok]) False) (R .normal d b)) False) (R (.exit 0) f b))→Holds (wpK [] [] (fun o=>match o.op with| .load t _=>(match t with|31=>1|_=>0)|_=>match o.dst with|some 33=>1|_=>0) (ai [1,1,0,1,0] (ag Tryz.f55)) [] (ak [1,2,4,5,6] f) b (fun ex e H=>R ex (List.map e [1,2,4,5,6]) H)):Prop):=fun R h=>hoE h
theorem iO (w:List RwI) (i:Nat):InL (w.map csI) 2 (i:Int)=(i<w.length):=dZ eY (by decide) w i
theorem px {n:Nat} (w:List RwI):∀ x∈(w.map csI).flatten,Low n x:=bl fun a _=>kS a
theorem uN (w:List RwI):uni 2 (w.map csI):=by
 intro e he
 obtain⟨a,_,rfl⟩:=List.mem_map.1 he
 rfl
theorem fM {n:Nat} (w:List RwI) (m:Int):∀ x∈[PV.list (w.map csI) .no,.I m],Low n x:=by
 intro x hx
 simp only[List.mem_cons,List.not_mem_nil,or_false] at hx
 rcases hx with rfl|rfl
 ·exact aH NT.no (px w)
 ·exact .int _ _
theorem cK (w:List RwI) (m:Int):Low 0 (.agg [.list (w.map csI) .no,.I m]):= .agg _ (fM w m)
theorem tw (w:List RwI) (t:Int):fiW w t≤w.length:=List.findIdx_le_length
def uc:LSp:=fun e H Q=>∃(w:List RwI) (m t:Int),w.length≤1000000∧ah (List.map e [1,2,4,5]) [.U t,.ptr 0 0,.I 0,.I 0]∧av H [.cells [.list (w.map csI) .no,.I m]]∧
 (fiW w t<w.length→Q .ret (ak [1,2,4,5] [.U t,.ptr 0 0,.I (fiW w t),.I (fiW w t)]) [.cells [.list (w.map csI) .no,.I m]])∧
 (fiW w t=w.length→Q (.exit 0) (ak [1,2,4,5] [.U t,.ptr 0 0,.I 0,.I w.length]) [.cells [.list (w.map csI) .no,.I m]])
theorem uz:∀ e H Q,uc e H Q→AwK Tryz.f54.ntmps (.loop (ai [1,0,1,0] (ag Tryz.f54))) Q e H:=by
 rintro e H Q ⟨w,m,t,hl,he,hH,hr,hx⟩
 have hle:=tw w t
 refine aB (hn:=fun _=>0) aj (.nil _ _) (.nil _ _ _ _ _) (σ:=Nat) [1,2,4,5] (fun i=>i≤fiW w t)
  (fun i=>[.U t,.ptr 0 0,.I 0,.I i]) (fun _=>[.cells [.list (w.map csI) .no,.I m]]) (fun i=>w.length-i) 0 (Nat.zero_le _) he hH ?_
 intro i hi
 refine yW w m t i _ ?_
 simp only[au,dt,List.length_map]
 by_cases h:i<w.length
 ·rw[if_pos (by omega),iO,an,getD_map default h]
  refine⟨h,?_⟩
  rw[if_pos (by rfl),List.drop_zero]
  have hc:cI (csI (w.getD i default)) 0=(w.getD i default).id:=rfl
  rw[hc]
  by_cases c:((w.getD i default).id == t)=true
  ·rw[if_pos c]
   have hge:fiW w t=i:=dY default hi h c
   rw[hge] at hr
   exact hr h
  ·rw[if_neg c]
   have hlt:i<fiW w t:=dS default hi h (by simpa using c)
   exact⟨i+1,(show w.length-(i+1)<w.length-i by omega),hlt,by rw[ar h (by omega)],[],rfl,Nat.le_refl _,.inl rfl⟩
 ·rw[if_neg (by omega)]
  have hi':i≤fiW w t:=hi
  have:i=w.length:=by omega
  subst this
  exact hx (by omega)
theorem vy (w:List RwI) (m:Int) (t:Int):∀(K:PV→Prop),(∃(w_1:List RwI) (m_1:Int) (t_1:Int),w_1.length≤1000000∧ah [.U t,.ptr 0 0,.I 0,.I 0] [.U t_1,.ptr 0 0,.I 0,.I 0]∧av [.cells [.list (w.map csI) .no,.I m]] [.cells [.list (w_1.map csI) .no,.I m_1]]∧(fiW w_1 t_1<w_1.length→K (.I (↑(fiW w_1 t_1):Int)))∧(fiW w_1 t_1=w_1.length→K (.I (-1))))→AcK 54 [.agg [.list (w.map csI) .no,.I m],.U t] [] (fun x _=>K x):=fun K h=>acW (T:=[]) (L:=[([1,0,1,0],uc)]) (fun _=>0) Tryz.func54 (aW.nil _ _) (.cons suE uz (.nil _ _ _ _ _)) h
def tF (args:List PV) (K:PV→Prop):Prop:=∃(w:List RwI) (m t:Int),ah args [.agg [.list (w.map csI) .no,.I m],.U t]∧w.length≤1000000∧K (.I (iG w t))
theorem zP:SpK 54 (.pure tF):=by
 rintro args K ⟨w,m,t,he,hl,hk⟩
 have he:args=_:=he
 subst he
 have hle:=tw w t
 refine ck aj (by intro x hx; simp only[List.mem_cons,List.not_mem_nil,or_false] at hx; rcases hx with rfl|rfl; exact cK w m; exact .int _ _) (.int _ _) (vy w m t (fun x=>x = .I (iG w t)) ⟨w,m,t,hl,rfl,rfl,fun h=>?_,fun h=>?_⟩) hk
 ·unfold iG; rw[if_pos h]
 ·unfold iG; rw[if_neg (by omega)]
def tr (w:List RwI) (m:Int) (acc:List RwI):ae:=match acc with
 | []=>[.cells [.list (w.map csI) .no,.int .i64 m],.cells [.list [] .exact,.int .i64 0],.cells [.list [] .exact,.int .i64 m]]
 | a::acc=>[.cells [.list (w.map csI) .no,.int .i64 m],.cells [.list [] .exact,.int .i64 0],.cells [.list ((a::acc).map csI) (.tok 3),.int .i64 m],.tok]
def wY:LSp:=fun e H Q=>∃(w:List RwI) (m t:Int),w.length≤1000000∧ah (List.map e [1,2,4,5,6]) [.U t,.ptr 0 0,.ptr 1 0,.ptr 2 0,.I 0]∧av H [.cells [.list (w.map csI) .no,.I m],.cells [.E,.I 0],.cells [.E,.I m]]∧
 (bI w t=[]→Q (.exit 0) (ak [1,2,4,5,6] [.U t,.ptr 0 0,.ptr 1 0,.ptr 2 0,.I w.length]) [.cells [.list (w.map csI) .no,.I m],.cells [.E,.I 0],.cells [.E,.I m]])∧
 (bI w t≠[]→Q (.exit 0) (ak [1,2,4,5,6] [.U t,.ptr 0 0,.ptr 1 0,.ptr 2 0,.I w.length]) [.cells [.list (w.map csI) .no,.I m],.cells [.E,.I 0],.cells [.list ((bI w t).map csI) (.tok 3),.I m],.tok])
theorem mq {n:Nat} (m:Int):∀ x∈[PV.E,.I m],Low n x:=by
 intro x hx
 simp only[List.mem_cons,List.not_mem_nil,or_false] at hx
 rcases hx with rfl|rfl
 ·exact aH NT.exact (fun _ h=>nomatch h)
 ·exact .int _ _
theorem zH {ρ:Nat→Nat} {n:Nat} {es:List RwI} {m:Int} {k:Nat} (h3:ρ 3=k) (hn:3<n):dA ρ n (.cells [.list (es.map csI) (.tok 3),.I m]) (.cells [.list (es.map csI) (.tok k),.I m]):=by
 subst h3
 exact .cells (.cons (.ltok _ 3 hn (px es)) (aU.low cN))
theorem tL {ρ:Nat→Nat} {n:Nat} {t i:Int} (h0:ρ 0=0) (h1:ρ 1=1) (h2:ρ 2=2) (hn:2<n):aU ρ n [.U t,.ptr 0 0,.ptr 1 0,.ptr 2 0,.I i] [.U t,.ptr 0 0,.ptr 1 0,.ptr 2 0,.I i]:=by
 have a0:=Ren.ptr (ρ:=ρ) (n:=n) 0 0 (by omega)
 have a1:=Ren.ptr (ρ:=ρ) (n:=n) 1 0 (by omega)
 have a2:=Ren.ptr (ρ:=ρ) (n:=n) 2 0 (by omega)
 rw[h0] at a0
 rw[h1] at a1
 rw[h2] at a2
 exact .cons (.low (.int _ _)) (.cons a0 (.cons a1 (.cons a2 (.cons (.low (.int _ _)) .nil))))
theorem xS (w:List RwI) (m t i:Int):ef 3 [.U t,.ptr 0 0,.ptr 1 0,.ptr 2 0,.I i] [.cells [.list (w.map csI) .no,.I m],.cells [.E,.I 0],.cells [.E,.I m]] [.U t,.ptr 0 0,.ptr 1 0,.ptr 2 0,.I i] [.cells [.list (w.map csI) .no,.I m],.cells [.E,.I 0],.cells [.E,.I m]]:=
 aR [0,1,2] (.refl _) (.cons rfl (lZ (fM w m)) (.cons rfl (lZ (mq _)) (.cons rfl (lZ (mq _)) .nil))) (by decide) (Nat.le_refl _) (by decide) (tL rfl rfl rfl (by simp))
theorem nW (w es:List RwI) (m t i:Int) (k:Nat) (hk:3≤k) {er:List (List PV)} (hee:er=es.map csI) {X:ae} (hX:([.cells [.list (w.map csI) .no,.I m],.cells [.E,.I 0],.cells [.list er (.tok k),.I m]]++X:ae)[k]?=some .tok):
  ef 3 [.U t,.ptr 0 0,.ptr 1 0,.ptr 2 0,.I i] ([.cells [.list (w.map csI) .no,.I m],.cells [.E,.I 0],.cells [.list er (.tok k),.I m]]++X) [.U t,.ptr 0 0,.ptr 1 0,.ptr 2 0,.I i] [.cells [.list (w.map csI) .no,.I m],.cells [.E,.I 0],.cells [.list (es.map csI) (.tok 3),.I m],.tok]:=by
 subst hee
 exact aR [0,1,2,k] (.refl _) (.cons rfl (lZ (fM w m)) (.cons rfl (lZ (mq _)) (.cons rfl (zH rfl (by simp)) (.cons hX .tok .nil)))) (by simp; omega) (by simp) (by intro o ho; rcases (show o=0∨o=1∨o=2 by omega) with rfl|rfl|rfl<;>rfl) (tL rfl rfl rfl (by simp))
theorem vS:∀ e H Q,wY e H Q→AwK Tryz.f55.ntmps (.loop (ai [1,1,0,1,0] (ag Tryz.f55))) Q e H:=by
 rintro e H Q ⟨w,m,t,hl,he,hH,hx0,hx1⟩
 have hH2:H=_:=hH
 subst hH2
 refine fB (hn:=fun o=>match o.op with| .load t _=>(match t with|31=>1|_=>0)|_=>match o.dst with|some 33=>1|_=>0) aj (.nil _ _) (.nil _ _ _ _ _) (σ:=Nat) [1,2,4,5,6] (fun i=>i≤w.length)
  (fun i=>[.U t,.ptr 0 0,.ptr 1 0,.ptr 2 0,.I i]) (fun i=>tr w m (bI (w.take i) t)) (fun i=>w.length-i) 0 (Nat.zero_le _) he rfl ?_
 intro i hi
 have hi':i≤w.length:=hi
 have hstep:∀ h:i<w.length,bI (w.take (i+1)) t=if((w.getD i default).id != t)=true then bI (w.take i) t++[w.getD i default] else bI (w.take i) t:=by
  intro h
  unfold bI
  rw[aI default h,List.filter_append,List.filter_cons]
  split<;>simp
 have hc:cI (csI (w.getD i default)) 0=(w.getD i default).id:=rfl
 have hlen:(bI (w.take i) t).length≤1000000:=Nat.le_trans (List.length_filter_le _ _) (by rw[List.length_take]; omega)
 cases hacc:bI (w.take i) t with
 | nil=>
  rw[hacc] at hstep
  refine zN w m t i _ ?_
  simp only[au,dt,List.length_map]
  by_cases h:i<w.length
  ·rw[if_pos (by omega),iO,an,getD_map default h]
   refine⟨h,?_⟩
   rw[if_pos (by rfl),List.drop_zero,hc]
   have hs:=hstep h
   by_cases c:((w.getD i default).id != t)=true
   ·rw[if_pos c] at hs
    rw[if_pos c]
    refine⟨h,?_⟩
    rw[if_pos (by rfl)]
    refine⟨⟨(by intro e he; simp at he),(by intro e he; simp at he; subst he; rfl),by simp⟩,⟨by rfl,by simp⟩,i+1,(show w.length-(i+1)<w.length-i by omega),h,?_⟩
    show ef 3 _ _ [PV.U t,.ptr 0 0,.ptr 1 0,.ptr 2 0,.I ((i+1:Nat):Int)] (tr w m (bI (w.take (i+1)) t))
    rw[hs,ar h (by omega)]
    exact nW w [w.getD i default] m t _ 3 (Nat.le_refl _) rfl (X:=[.tok]) rfl
   ·rw[if_neg c] at hs
    rw[if_neg c]
    refine⟨i+1,(show w.length-(i+1)<w.length-i by omega),h,?_⟩
    show ef 3 _ _ [PV.U t,.ptr 0 0,.ptr 1 0,.ptr 2 0,.I ((i+1:Nat):Int)] (tr w m (bI (w.take (i+1)) t))
    rw[hs,ar h (by omega)]
    exact xS w m t _
  ·rw[if_neg (by omega)]
   have:i=w.length:=by omega
   subst this
   rw[List.take_length] at hacc
   exact⟨_,_,xS w m t _,hx0 hacc⟩
 | cons a acc=>
  rw[hacc] at hstep hlen
  refine yY w m t ((a::acc).map csI) i _ ?_
  simp only[au,dt,List.length_map]
  by_cases h:i<w.length
  ·rw[if_pos (by omega),iO,an,getD_map default h]
   refine⟨h,?_⟩
   rw[if_pos (by rfl),List.drop_zero,hc]
   have hs:=hstep h
   by_cases c:((w.getD i default).id != t)=true
   ·rw[if_pos c] at hs
    rw[if_pos c]
    refine⟨h,?_⟩
    rw[if_pos (by rfl)]
    refine⟨⟨uN _,(by intro e he; simp at he; subst he; rfl),by rw[List.length_map,List.length_singleton]; omega⟩,⟨by rfl,by simp⟩,i+1,(show w.length-(i+1)<w.length-i by omega),h,?_⟩
    show ef 3 _ _ [PV.U t,.ptr 0 0,.ptr 1 0,.ptr 2 0,.I ((i+1:Nat):Int)] (tr w m (bI (w.take (i+1)) t))
    rw[hs,ar h (by omega)]
    exact nW w (a::acc++[w.getD i default]) m t _ 4 (by decide) (by rw[List.map_append]; rfl) (X:=[.dead,.tok]) rfl
   ·rw[if_neg c] at hs
    rw[if_neg c]
    refine⟨i+1,(show w.length-(i+1)<w.length-i by omega),h,?_⟩
    show ef 3 _ _ [PV.U t,.ptr 0 0,.ptr 1 0,.ptr 2 0,.I ((i+1:Nat):Int)] (tr w m (bI (w.take (i+1)) t))
    rw[hs,ar h (by omega)]
    exact nW w (a::acc) m t _ 3 (Nat.le_refl _) rfl (X:=[.tok]) rfl
  ·rw[if_neg (by omega)]
   have:i=w.length:=by omega
   subst this
   rw[List.take_length] at hacc
   rw[hacc] at hx1
   exact⟨_,_,nW w (a::acc) m t _ 3 (Nat.le_refl _) rfl (X:=[.tok]) rfl,hx1 (List.cons_ne_nil _ _)⟩
theorem ud (w:List RwI) (m:Int) (t:Int):∀(K:PV→ae→Prop),(∃(w_1:List RwI) (m_1:Int) (t_1:Int),by refine(?_:_→_→_→Prop) [PV.list (List.map csI (bI w_1 t_1)) (.tok 3),.I m_1] [PV.E,.I m_1] (Ob.cells [.list (w_1.map csI) .no,.I m_1]); exact fun a b c=>w_1.length≤1000000∧ah [.U t,.ptr 0 0,.ptr 1 0,.ptr 2 0,.I 0] [.U t_1,.ptr 0 0,.ptr 1 0,.ptr 2 0,.I 0]∧av [.cells [.list (w.map csI) .no,.I m],.cells [.E,.I 0],.cells [.E,.I m]] [c,.cells [.E,.I 0],.cells b]∧(bI w_1 t_1=[]→K (.agg b) [c,.cells b,.cells b])∧(bI w_1 t_1≠[]→K (.agg a) [c,.cells a,.cells a,.tok]))→AcK 55 [.agg [.list (w.map csI) .no,.I m],.U t] [] K:=fun K h=>acW (T:=[]) (L:=[([1,1,0,1,0],wY)]) (fun o=>match o.op with| .load t _=>(match t with|31=>1|_=>0)|_=>match o.dst with|some 33=>1|_=>0) Tryz.func55 (aW.nil _ _) (.cons suE vS (.nil _ _ _ _ _)) h
theorem nt (w:List RwI) (m t:Int):∀ x∈[PV.agg [.list (w.map csI) .no,.I m],.U t],Low 0 x:=by
 intro x hx
 simp only[List.mem_cons,List.not_mem_nil,or_false] at hx
 rcases hx with rfl|rfl
 ·exact cK w m
 ·exact .int _ _
theorem Bi {x y:PV} {xs:List PV} (h:Wk x y):Wk (.agg (x::xs)) (.agg (y::xs)):= .agg (.cons h (.refl _))
def q5 (args:List PV) (H:ae) (K:PV→ae→Prop):Prop:=∃(w:List RwI) (m t:Int),ah args [.agg [.list (w.map csI) .no,.I m],.U t]∧w.length≤1000000∧
 (bI w t=[]→K (.agg [.E,.I m]) H)∧(bI w t≠[]→K (.agg [.list ((bI w t).map csI) (.tok H.length),.I m]) (H++[.tok]))
theorem vk:SpK 55 (.heap q5):=by
 rintro args H K ⟨w,m,t,he,hl,hk0,hk1⟩
 have he:args=_:=he
 subst he
 refine aL (LM aj (es:=(bI w t).map csI) (rest:=[.I m]) (.refl _) (nt w m t) (px _) cN ?_ H) ?_
 ·refine ud w m t _ ⟨w,m,t,hl,rfl,rfl,fun h=>⟨fun _=>rfl,fun k=>absurd (by rw[h]; rfl) k⟩,fun h=>⟨fun k=>absurd (List.map_eq_nil_iff.1 k) h,fun _=>⟨3,rfl,rfl⟩⟩⟩
 ·rintro x H' ⟨h0,h1⟩
  by_cases c:bI w t=[]
  ·obtain⟨rfl,rfl⟩:=h0 (by rw[c]; rfl)
   exact hk0 c
  ·obtain⟨rfl,rfl⟩:=h1 (fun k=>c (List.map_eq_nil_iff.1 k))
   exact hk1 c
def LB:Tab:=[(54,.pure tF),(53,.pure xC),(55,.heap q5)]
theorem ym:TbK LB:= .cons zP (.cons wy (.cons vk (.nil _ _)))
theorem we (w:List RwI) (m:Int) (t v:Int):(by refine(?_:_→_→Prop) (PV.agg [.list (w.map csI) .no,.I m]) [PV.U t,.I v]; exact fun b e=>by refine(?_:_→_→Prop) [e] e; exact fun c d=>∀(K:PV→Prop),by refine(?_:_→Prop) (∃(w_2:List RwI) (m_2:Int) (t_3:Int),ah [b,.U t] [.agg [.list (w_2.map csI) .no,.I m_2],.U t_3]∧w_2.length≤1000000∧(bI w_2 t_3=[]→aG [] c 2 16∧(List.all d PV.one=true∧c≠[])∧K (.tup [.agg [.list c (.tok 3),.I m_2],.I 0]))∧(bI w_2 t_3≠[]→aG (List.map csI (bI w_2 t_3)) c 2 16∧(List.all d PV.one=true∧c≠[])∧K (.tup [.agg [.list (List.map csI (bI w_2 t_3)++c) (.tok 4),.I m_2],.I 0]))); exact fun a=>(∃(t_1:Int),0≤t_1∧ah [.U t] [.U t_1]∧br (!aC t_1) (K (.tup [b,.I 14])) (∃(w_1:List RwI) (m_1:Int) (t_2:Int),ah [b,.U t] [.agg [.list (w_1.map csI) .no,.I m_1],.U t_2]∧w_1.length≤1000000∧br (decide (iG w_1 t_2<0) == true) (br (decide ((↑(List.length (w.map csI)):Int)≥m)) (K (.tup [b,.I 10])) a) a))→AcK 23 [b,.U t,.I v] [] (fun x _=>K x):Prop):=fun K h=>acW (T:=LB) (L:=[]) (fun o=>match o.op with| .load t _=>(match t with|31=>1|_=>0)|_=>match o.dst with|some 35=>1|_=>0) Tryz.func23 (ym) (LOk.nil _ _ _ _ _) h
theorem nB (w:List RwI) (t:Int):decide (iG w t<0) = !eK w t:=by
 unfold iG eK
 by_cases c:fiW w t<w.length
 ·rw[if_pos c,decide_eq_true c,decide_eq_false (by omega)]; rfl
 ·rw[if_neg c,decide_eq_false c]; rfl
theorem vY (w:List RwI) (m n:Int):Low 0 (.tup [.agg [.list (w.map csI) .no,.I m],.I n]):= .tup _ (by
 intro y hy
 simp only[List.mem_cons,List.not_mem_nil,or_false] at hy
 rcases hy with rfl|rfl
 ·exact cK w m
 ·exact .int _ _)
def oV (args:List PV) (K:PV→Prop):Prop:=∃(w:List RwI) (m t v:Int),ah args [.agg [.list (w.map csI) .no,.I m],.U t,.I v]∧w.length≤1000000∧0≤t∧K (.tup [.agg [.list ((iL w m t v).1.map csI) .no,.I m],.I (iL w m t v).2])
theorem tX {rows:List (List PV)} {tl:Tail} {m n:Int}:Wk (.tup [.agg [.list rows tl,.I m],.I n]) (.tup [.agg [.list rows .no,.I m],.I n]):= .tup (.cons (Bi (.list _ _)) (.refl _))
theorem nK (w:List RwI) (t:Int):(bI w t).length≤w.length:=List.length_filter_le _ _
theorem rN (w:List RwI) (m t v:Int):∀ x∈[PV.agg [.list (w.map csI) .no,.I m],.U t,.I v],Low 0 x:=by
 intro x hx
 simp only[List.mem_cons,List.not_mem_nil,or_false] at hx
 rcases hx with rfl|rfl|rfl
 ·exact cK w m
 ·exact .int _ _
 ·exact .int _ _
theorem qB:SpK 23 (.pure oV):=by
 rintro args K ⟨w,m,t,v,he,hl,h0,hk⟩
 have he:args=_:=he
 subst he
 refine ck aj (rN w m t v) (vY _ _ _) (ij (aL (we w m t v (fun x=>Wk x (.tup [.agg [.list ((iL w m t v).1.map csI) .no,.I m],.I (iL w m t v).2])) ⟨t,h0,rfl,?_⟩) fun x H' h=>⟨_,H',h,.refl _,rfl⟩)) hk
 unfold iL
 rw[au]
 by_cases c:aC t=true
 ·rw[if_neg (by simp[c]),if_pos c]
  refine⟨w,m,t,rfl,hl,?_⟩
  simp only[au,bt,nB,List.length_map]
  have fin:∀ rs:List RwI×Int,rs=(bI w t++[⟨t,v⟩],0)→∃(w_2:List RwI),∃(m_2:Int),∃(t_3:Int),ah [PV.agg [PV.list (List.map csI w) Tail.no,PV.int IntKind.i64 m],PV.int IntKind.u32 t] [PV.agg [PV.list (List.map csI w_2) Tail.no,PV.int IntKind.i64 m_2],PV.int IntKind.u32 t_3]∧List.length w_2≤1000000∧(bI w_2 t_3=[]→aG [] [[PV.int IntKind.u32 t,PV.int IntKind.i64 v]] 2 16∧(List.all [PV.int IntKind.u32 t,PV.int IntKind.i64 v] PV.one=true∧[[PV.int IntKind.u32 t,PV.int IntKind.i64 v]]≠[])∧Wk (PV.tup [PV.agg [PV.list [[PV.int IntKind.u32 t,PV.int IntKind.i64 v]] (Tail.tok 3),PV.int IntKind.i64 m_2],PV.int IntKind.i64 0]) (.tup [.agg [.list (rs.1.map csI) .no,.I m],.I rs.2]))∧(bI w_2 t_3≠[]→aG (List.map csI (bI w_2 t_3)) [[PV.int IntKind.u32 t,PV.int IntKind.i64 v]] 2 16∧(List.all [PV.int IntKind.u32 t,PV.int IntKind.i64 v] PV.one=true∧[[PV.int IntKind.u32 t,PV.int IntKind.i64 v]]≠[])∧Wk (PV.tup [PV.agg [PV.list (List.map csI (bI w_2 t_3)++[[PV.int IntKind.u32 t,PV.int IntKind.i64 v]]) (Tail.tok 4),PV.int IntKind.i64 m_2],PV.int IntKind.i64 0]) (.tup [.agg [.list (rs.1.map csI) .no,.I m],.I rs.2])):=by
   rintro rs rfl
   refine⟨w,m,t,rfl,hl,fun h=>⟨⟨(by intro e he; simp at he),(by intro e he; simp at he; subst he; rfl),by simp⟩,⟨rfl,by simp⟩,?_⟩,fun _=>⟨⟨uN _,(by intro e he; simp at he; subst he; rfl),?_⟩,⟨rfl,by simp⟩,?_⟩⟩
   ·rw[h]; exact tX
   ·have:=nK w t; rw[List.length_map,List.length_singleton]; omega
   ·rw[List.map_append]; exact tX
  by_cases c2:eK w t=true
  ·rw[if_neg (by simp[c2]),if_neg (by simp[c2])]
   exact fin _ rfl
  ·have c2':eK w t=false:=by simpa using c2
   rw[if_pos (by simp[c2'])]
   by_cases c3:(w.length:Int)≥m
   ·rw[if_pos (decide_eq_true c3),if_pos ⟨c2',c3⟩]
    exact .refl _
   ·rw[if_neg (by simpa using c3),if_neg (fun h=>c3 h.2)]
    exact fin _ rfl
 ·rw[if_pos (by simpa using c),if_neg c]
  exact .refl _
structure Wd where
 ra:List (Int×Int)
 rows:List (List Rr)
 st:List Int
def prC (p:Int×Int):List PV:=[.U p.1,.I p.2]
theorem HW (p:Int×Int):(prC p).length=2:=rfl
theorem H9 {n:Nat} (p:Int×Int):∀ y∈prC p,Low n y:=bn (.int _ _) (.int _ _)
def wdC (w:Wd):List PV:=[.list (w.ra.map prC) .no,.list (w.rows.map lcs) .no,.list (w.st.map i1) .no]
theorem rF {n:Nat} (w:Wd):∀ y∈wdC w,Low n y:=dO (bp H9 _) (bp jU _) (bp iu _)
theorem K6 (w:Wd) (i j:Nat):(by refine(?_:_→_→_→Prop) (List.getD (w.rows.map lcs) (Int.toNat (i:Int)) []) [Ob.cells [.list (w.ra.map prC) .no,.list (w.rows.map lcs) .no,.list (w.st.map i1) .no]] [PV.ptr 0 0,.bool false,.I i,.I j]; exact fun a b d=>by refine(?_:_→_→Prop) (List.drop 1 (List.getD (cL a 0) (Int.toNat (j:Int)) [])) (true && aE [.list] 0 a); exact fun c f=>∀(R:Ex→List PV→ae→Prop),(InL (w.rows.map lcs) 1 (i:Int)∧br f (br (decide ((j:Int)<(↑(List.length (cL a 0)):Int))) (InL (w.rows.map lcs) 1 (i:Int)∧br f (InL (cL a 0) 4 (j:Int)∧br (true && aE [.list] 0 c) (br (decide ((↑(List.length (cL c 0)):Int)>8)) (R .ret [.ptr 0 0,.bool true,.I i,.I j] b) (R .normal [.ptr 0 0,.bool false,.I i,.I (wI ((j:Int)+1))] b)) False) False) (R (.exit 2) d b)) False)→Holds (wpK [] [] (fun _=>0) (ai [1,1,0,1,0,0,1,0,0,1,1,0] (ag Tryz.f6)) [] (ak [1,2,3,4] d) [.cells (wdC w)] (fun ex e H=>R ex (List.map e [1,2,3,4]) H)):Prop):=fun R h=>hoE h
def g8 (r:Rr):Bool:=decide (r.pl.length>8)
def qm (l:List Rr):Bool:=decide (l.length>8) || l.any g8
def fk (w:Wd):Bool:=decide (w.ra.length>40) || decide (w.rows.length>6) || decide (w.st.length>60) || w.rows.any qm
theorem yg {α:Type} {p:α→Bool} {l:List α} {i:Nat} (d:α) (h:i<l.length):(l.take (i+1)).any p=((l.take i).any p || p (l.getD i d)):=by
 rw[aI d h,List.any_append]; simp
theorem rY {α:Type} {p:α→Bool} {l:List α} {i:Nat} (d:α) (h:i<l.length) (hp:p (l.getD i d)=true):l.any p=true:=
 List.any_eq_true.2 ⟨_,by rw[List.getD_eq_getElem?_getD,List.getElem?_eq_getElem h]; exact List.getElem_mem h,hp⟩
def EZ:LSp:=fun e H Q=>∃(w:Wd) (i:Nat),i<w.rows.length∧(w.rows.getD i []).length≤1000000∧ah (List.map e [1,2,3,4]) [.ptr 0 0,.bool false,.I i,.I 0]∧av H [.cells (wdC w)]∧((w.rows.getD i []).any g8=false→∀ j:Int,Q (.exit 2) (ak [1,2,3,4] [.ptr 0 0,.bool false,.I i,.I j]) [.cells (wdC w)])∧((w.rows.getD i []).any g8=true→∀ j:Int,Q .ret (ak [1,2,3,4] [.ptr 0 0,.bool true,.I i,.I j]) [.cells (wdC w)])
theorem AO:∀ e H Q,EZ e H Q→AwK Tryz.f6.ntmps (.loop (ai [1,1,0,1,0,0,1,0,0,1,1,0] (ag Tryz.f6))) Q e H:=by
 rintro e H Q ⟨w,i,hi,hll,he,hH,hQ0,hQ1⟩
 have inl:InL (w.rows.map lcs) 1 (i:Int):=by rw[cn]; exact hi
 obtain⟨l,hl⟩:∃ l,l=w.rows.getD i []:=⟨_,rfl⟩
 rw[← hl] at hll hQ0 hQ1
 have c0:cL (lcs l) 0=l.map rrc:=rfl
 refine aB (hn:=fun _=>0) aj (.nil _ _) (.nil _ _ _ _ _) (σ:=Nat) [1,2,3,4] (fun j=>j≤l.length∧(l.take j).any g8=false) (fun j=>[.ptr 0 0,.bool false,.I i,.I j]) (fun _=>[.cells (wdC w)]) (fun j=>l.length-j) 0 ⟨Nat.zero_le _,rfl⟩ he hH ?_
 rintro j ⟨hj,ha⟩
 refine K6 w i j _ ?_
 simp only[au,dt,an,getD_map [] hi,← hl,c0,List.length_map]
 refine⟨inl,?_⟩
 rw[if_pos (by rfl)]
 by_cases h:j<l.length
 ·rw[if_pos (by omega)]
  have inl2:InL (l.map rrc) 4 (j:Int):=by rw[dP]; exact h
  have c1:∀ r:Rr,cL (List.drop 1 (rrc r)) 0=r.pl.map u1:=fun _=>rfl
  refine⟨inl,?_⟩
  rw[if_pos (by rfl)]
  refine⟨inl2,?_⟩
  simp only[getD_map default h,c1,List.length_map]
  rw[if_pos (by rfl)]
  by_cases c:g8 (l.getD j default)=true
  ·have c':(l.getD j default).pl.length>8:=by simpa[g8] using c
   rw[if_pos (by omega)]
   exact hQ1 (rY default h c) _
  ·have c':¬ (l.getD j default).pl.length>8:=by simpa[g8] using c
   rw[if_neg (by omega)]
   exact⟨j+1,(show l.length-(j+1)<l.length-j by omega),⟨h,by rw[yg default h,ha,eq_false_of_ne_true c]; rfl⟩,by rw[ar h (by omega)],[],rfl,Nat.le_refl _,.inl rfl⟩
 ·rw[if_neg (by omega)]
  have:j=l.length:=by omega
  subst this
  rw[List.take_length] at ha
  exact hQ0 ha _
theorem LG:ai [1,0,0,1,1,0] (ai [1,1,0,1,0] (ag Tryz.f6))=ai [1,1,0,1,0,0,1,0,0,1,1,0] (ag Tryz.f6):=by kernel_rfl
theorem zh:∀ e H Q,EZ e H Q→AwK Tryz.f6.ntmps (.loop (ai [1,0,0,1,1,0] (ai [1,1,0,1,0] (ag Tryz.f6)))) Q e H:=by rw[LG]; exact AO
theorem L1 (w:Wd) (i:Nat):(by refine(?_:_→_→_→Prop) [Ob.cells [.list (w.ra.map prC) .no,.list (w.rows.map lcs) .no,.list (w.st.map i1) .no]] (List.getD (w.rows.map lcs) (Int.toNat (i:Int)) []) [PV.ptr 0 0,.bool false,.I i]; exact fun c d f=>∀(R:Ex→List PV→ae→Prop),(br (decide ((i:Int)<(↑(List.length (w.rows.map lcs)):Int))) (InL (w.rows.map lcs) 1 (i:Int)∧br (true && aE [.list] 0 d) (br (decide ((↑(List.length (cL d 0)):Int)>8)) (R .ret [.ptr 0 0,.bool true,.I i] c) (∃(w_1:Wd) (i_1:Nat),by refine(?_:_→_→Prop) [Ob.cells [.list (w_1.ra.map prC) .no,.list (w_1.rows.map lcs) .no,.list (w_1.st.map i1) .no]] (List.getD w_1.rows i_1 []); exact fun a b=>i_1<w_1.rows.length∧List.length b≤1000000∧ah [.ptr 0 0,.bool false,.I i,.I 0] [.ptr 0 0,.bool false,.I i_1,.I 0]∧av c a∧(List.any b g8=false→∀(_:Int),R .normal [.ptr 0 0,.bool false,.I (wI ((i_1:Int)+1))] a)∧(List.any b g8=true→∀(_:Int),R .ret [.ptr 0 0,.bool true,.I i_1] a))) False) (R (.exit 0) f c))→Holds (wpK [] [([1,0,0,1,1,0],EZ)] (fun _=>0) (ai [1,1,0,1,0] (ag Tryz.f6)) [] (ak [1,2,3] f) [.cells (wdC w)] (fun ex e H=>R ex (List.map e [1,2,3]) H)):Prop):=fun R h=>hoE h
def JM:LSp:=fun e H Q=>∃(w:Wd),w.rows.length≤1000000∧ah (List.map e [1,2,3]) [.ptr 0 0,.bool false,.I 0]∧av H [.cells (wdC w)]∧(w.rows.any qm=false→∀ i:Int,Q (.exit 0) (ak [1,2,3] [.ptr 0 0,.bool false,.I i]) [.cells (wdC w)])∧(w.rows.any qm=true→∀ i:Int,Q .ret (ak [1,2,3] [.ptr 0 0,.bool true,.I i]) [.cells (wdC w)])
theorem CW:∀ e H Q,JM e H Q→AwK Tryz.f6.ntmps (.loop (ai [1,1,0,1,0] (ag Tryz.f6))) Q e H:=by
 rintro e H Q ⟨w,hwl,he,hH,hQ0,hQ1⟩
 refine aB (hn:=fun _=>0) aj (.nil _ _) (.cons suE zh (.nil _ _ _ _ _)) (σ:=Nat) [1,2,3] (fun i=>i≤w.rows.length∧(w.rows.take i).any qm=false) (fun i=>[.ptr 0 0,.bool false,.I i]) (fun _=>[.cells (wdC w)]) (fun i=>w.rows.length-i) 0 ⟨Nat.zero_le _,rfl⟩ he hH ?_
 rintro i ⟨hi,ha⟩
 refine L1 w i _ ?_
 simp only[au,dt,an,List.length_map]
 by_cases h:i<w.rows.length
 ·rw[if_pos (by omega)]
  have inl:InL (w.rows.map lcs) 1 (i:Int):=by rw[cn]; exact h
  have c0:∀ l:List Rr,cL (lcs l) 0=l.map rrc:=fun _=>rfl
  refine⟨inl,?_⟩
  simp only[getD_map [] h,c0,List.length_map]
  rw[if_pos (by rfl)]
  by_cases c:(w.rows.getD i []).length>8
  ·rw[if_pos (by omega)]
   exact hQ1 (rY [] h (by unfold qm; rw[decide_eq_true c]; rfl)) _
  ·rw[if_neg (by omega)]
   refine⟨w,i,h,by omega,rfl,rfl,fun h0 _=>?_,fun h1 _=>?_⟩
   ·exact⟨i+1,(show w.rows.length-(i+1)<w.rows.length-i by omega),⟨h,by rw[yg [] h,ha]; unfold qm; rw[h0,decide_eq_false c]; rfl⟩,by rw[ar h (by omega)],[],rfl,Nat.le_refl _,.inl rfl⟩
   ·exact hQ1 (rY [] h (by unfold qm; rw[h1]; simp)) _
 ·rw[if_neg (by omega)]
  have:i=w.rows.length:=by omega
  subst this
  rw[List.take_length] at ha
  exact hQ0 ha _
theorem LP (w:Wd):∀(K:PV→Prop),(br (decide ((↑(List.length (w.ra.map prC)):Int)>40) == false) (br (decide ((↑(List.length (w.rows.map lcs)):Int)>6) == false) (br (decide ((↑(List.length (w.st.map i1)):Int)>60)) (K (.bool true)) (∃(w_1:Wd),w_1.rows.length≤1000000∧ah [.ptr 0 0,.bool false,.I 0] [.ptr 0 0,.bool false,.I 0]∧av [.cells [.list (w.ra.map prC) .no,.list (w.rows.map lcs) .no,.list (w.st.map i1) .no]] [.cells [.list (w_1.ra.map prC) .no,.list (w_1.rows.map lcs) .no,.list (w_1.st.map i1) .no]]∧(List.any w_1.rows qm=false→∀(_:Int),K (.bool false))∧(List.any w_1.rows qm=true→∀(_:Int),K (.bool true)))) (K (.bool true))) (K (.bool true)))→AcK 6 [.agg (wdC w)] [] (fun x _=>K x):=fun K h=>acW (T:=[]) (L:=[([1,1,0,1,0],JM)]) (fun _=>0) Tryz.func6 (aW.nil _ _) (.cons suE CW (.nil _ _ _ _ _)) h
def Jh (args:List PV) (K:PV→Prop):Prop:=∃(w:Wd) (t1 t2 t3:Tail),ah args [.agg [.list (w.ra.map prC) t1,.list (w.rows.map lcs) t2,.list (w.st.map i1) t3]]∧K (.bool (fk w))
theorem KZ:SpK 6 (.pure Jh):=by
 rintro args K ⟨w,t1,t2,t3,he,hk⟩
 have he:args=_:=he
 subst he
 refine bB aj (.cons (.agg (xs':=wdC w) (.cons (.list _ _) (.cons (.list _ _) (.cons (.list _ _) .nil)))) .nil) (bu (.agg _ (rF w))) (.bool _) (LP w (fun x=>x = .bool (fk w)) ?_) hk
 simp only[au,List.length_map]
 by_cases c1:w.ra.length>40
 ·rw[if_neg (by simp; omega)]
  unfold fk; rw[decide_eq_true c1]; rfl
 ·rw[if_pos (by simp; omega)]
  by_cases c2:w.rows.length>6
  ·rw[if_neg (by simp; omega)]
   unfold fk; rw[decide_eq_true c2]; simp
  ·rw[if_pos (by simp; omega)]
   by_cases c3:w.st.length>60
   ·rw[if_pos (by simp; omega)]
    unfold fk; rw[decide_eq_true c3]; simp
   ·rw[if_neg (by simp; omega)]
    refine⟨w,by omega,(by first|rfl|(show _=_; simp)),rfl,fun h0 _=>?_,fun h1 _=>?_⟩
    ·unfold fk; rw[decide_eq_false c1,decide_eq_false c2,decide_eq_false c3,h0]; rfl
    ·unfold fk; rw[h1]; simp
theorem yV {w:Wd} (h:fk w=false):w.ra.length≤40∧w.rows.length≤6∧w.st.length≤60∧∀ l∈w.rows,smR l:=by
 unfold fk at h
 simp only[Bool.or_eq_false_iff,decide_eq_false_iff_not] at h
 obtain⟨⟨⟨h1,h2⟩,h3⟩,h4⟩:=h
 refine⟨by omega,by omega,by omega,fun l hl=>?_⟩
 have:=List.any_eq_false.1 h4 l hl
 unfold qm at this
 simp only[Bool.or_eq_true,decide_eq_true_eq,not_or,Bool.not_eq_true] at this
 refine⟨by omega,fun r hr=>?_⟩
 have:=List.any_eq_false.1 this.2 r hr
 unfold g8 at this
 have:=(by simpa using this:r.pl.length≤8)
 omega
def Cs (args:List PV) (H:ae) (K:PV→ae→Prop):Prop:=∃(l:List RwI) (most t v:Int),ah args [.ptr 2 0,.U t,.I v]∧bR H 2 (rkI l most)∧Ok l most∧K (.I (cV l most t v).2) (H.set 2 (.abs (rkI (cV l most t v).1 most)))
theorem Hj:SpK 22 (.chg Cs):=by
 rintro args H K ⟨l,most,t,v,he,hb,ok,hk⟩
 have he:args=_:=he
 subst he
 exact⟨_,_,sq _ H (fun x H1=>x=_∧H1=_) ⟨l,most,t,v,rfl,hb,ok,⟨rfl,rfl⟩⟩,hk⟩
def Dd (args:List PV) (H:ae) (K:PV→ae→Prop):Prop:=∃(w:List Mt) (m p st un no:Int),ah args [.ptr 4 0,.U p,.I st,.I un,.int .u64 no]∧cj H 4 3 (rkM (aq w) m)∧MO w m∧K (.I (ec w p st un no).2) (H.set 3 (.abs (rkM (aq (ec w p st un no).1) m)))
theorem H8:SpK 26 (.chg Dd):=fun args H _ ⟨w,m,p,st,un,no,he,hb,ro,hk⟩=>⟨_,_,Cp args H (fun x H1=>x=_∧H1=_) ⟨4,3,w,m,p,st,un,no,he,hb,ro,⟨rfl,rfl⟩⟩,hk⟩
def xw (args:List PV) (H:ae) (K:PV→ae→Prop):Prop:=∃(w:List Mt) (m id md ins:Int) (l:List Rr) (t:Tail),ah args [.ptr 4 0,.U id,.I md,.U ins,.list (l.map rrc) t]∧cj H 4 3 (rkM (aq w) m)∧MO w m∧smR l∧K (.I (dB w m id md ins l).2) (H.set 3 (.abs (rkM (aq (dB w m id md ins l).1) m)))
theorem CP:SpK 24 (.heap xw):=fun args H K ⟨w,m,id,md,ins,l,t,he,hb,ro,hl,hk⟩=>yC args H K ⟨4,3,w,m,id,md,ins,l,t,he,hb,ro,hl,hk⟩
def TOP:Tab:=[(22,.chg Cs),(23,.pure oV),(26,.chg Dd),(27,.pure E1),(24,.heap xw),(25,.pure x6),(20,.heap vL),(21,.heap vu)]
theorem kv:TbK TOP:= .cons Hj (.cons qB (.cons H8 (.cons F9 (.cons CP (.cons DV (.cons ya (.cons xu (.nil _ _))))))))
theorem Mk (d:Wd) (ra:List RwI) (r:List RwI) (i:Nat):(by refine(?_:_→_→_→_→_→Prop) (List.getD (d.ra.map prC) (Int.toNat (i:Int)) []) [PV.ptr 0 0,.ptr 1 0,.ptr 2 0,.ptr 4 0,.ptr 5 0,.E,.I i] [PV.list (d.ra.map prC) .no,.list (d.rows.map lcs) .no,.list (d.st.map i1) .no] [PV.list (r.map csI) .no,.I 40] (Ob.cells [.E,.I 0]); exact fun a c f g h=>by refine(?_:_→_→_→_→_→Prop) [Ob.cells f,h,.abs (rkI ra 40),.abs (rkM [] 6),.cells [.ptr 3 0],.cells g] (true && aE [.int .u32] 0 (List.drop 0 a)) (true && aE [.int .i64] 0 (List.drop 1 a)) (PV.U (cI (List.drop 0 a) 0)) (PV.I (cI (List.drop 1 a) 0)); exact fun b j k n p=>∀(R:Ex→List PV→ae→Prop),(br (decide ((i:Int)<(↑(List.length (d.ra.map prC)):Int))) (InL (d.ra.map prC) 2 (i:Int)∧br j (InL (d.ra.map prC) 2 (i:Int)∧br k (∃(l:List RwI) (most:Int) (t:Int) (v:Int),ah [.ptr 2 0,n,p] [.ptr 2 0,.U t,.I v]∧bR b 2 (rkI l most)∧Ok l most∧InL (d.ra.map prC) 2 (i:Int)∧br j (InL (d.ra.map prC) 2 (i:Int)∧br k (∃(w:List RwI) (m:Int) (t_1:Int) (v_1:Int),ah [.agg g,n,p] [.agg [.list (w.map csI) .no,.I m],.U t_1,.I v_1]∧w.length≤1000000∧0≤t_1∧R .normal [.ptr 0 0,.ptr 1 0,.ptr 2 0,.ptr 4 0,.ptr 5 0,.E,.I (wI ((i:Int)+1))] [.cells f,h,.abs (rkI (Prod.fst (cV l most t v)) most),.abs (rkM [] 6),.cells [.ptr 3 0],.cells [.list (List.map csI (Prod.fst (iL w m t_1 v_1))) .no,.I m]]) False) False) False) False) (R (.exit 0) c b))→Holds (wpK TOP [] (fun o=>match o.dst with|some 41=>7|some 30=>1001|some 36=>1001|some 34=>900|some 40=>900|some 43=>501002|some 45=>1001|some 51=>1001|some 49=>900|some 55=>900|some _=>0|none=>match o.op with| .store _ (.tmp 8) _=>501002|_=>0) (ai [1,1,1,1,0,1,0] (ag Tryz.f7)) [] (ak [1,4,6,7,8,9,10] c) [.cells (wdC d),h,.abs (rkI ra 40),.abs (rkM (aq []) 6),.cells [.ptr 3 0],.cells g] (fun ex e H=>R ex (List.map e [1,4,6,7,8,9,10]) H)):Prop):=fun R h=>hoE h
theorem Ls (d:Wd) (ra r:List RwI) (w:List Mt) (at_ i k j:Nat):(by refine(?_:_→_→_→_→_→_→_→Prop) (List.getD (d.rows.map lcs) (Int.toNat (i:Int)) []) (List.getD (d.st.map i1) (Int.toNat (at_:Int)) []) (Ob.cells [.list (r.map csI) .no,.I 40]) [PV.list (d.ra.map prC) .no,.list (d.rows.map lcs) .no,.list (d.st.map i1) .no] (Ob.cells [.E,.I 0]) (Ob.abs (rkM (aq w) 6)) (PV.list (w.map mtc) .no); exact fun c g n q s y z=>by refine(?_:_→_→_→_→_→_→Prop) (List.drop 1 (List.getD (cL c 0) (Int.toNat (k:Int)) [])) [Ob.cells q,s,.abs (rkI ra 40),y,.cells [.ptr 3 0],n,.dead] [PV.ptr 0 0,.ptr 1 0,.ptr 2 0,.ptr 4 0,.ptr 5 0,z,.I at_,.I i,.I k,.I j] (true && aE [.list] 0 c) (true && aE [.int .i64] 0 g) (PV.I (cI g 0)); exact fun b f l t x B=>by refine(?_:_→_→Prop) (List.getD (cL b 0) (Int.toNat (j:Int)) []) (true && aE [.list] 0 b); exact fun h u=>by refine(?_:_→_→Prop) (true && aE [.int .u32] 0 h) (PV.U (cI h 0)); exact fun v A=>∀(R:Ex→List PV→ae→Prop),by refine(?_:_→Prop) (R (.exit 8) l f); exact fun a=>(InL (d.rows.map lcs) 1 (i:Int)∧br t (InL (cL c 0) 4 (k:Int)∧br u (br (decide ((j:Int)<(↑(List.length (cL b 0)):Int)) == true) (br (decide ((at_:Int)<(↑(List.length (d.st.map i1)):Int))) (InL (d.rows.map lcs) 1 (i:Int)∧br t (InL (cL c 0) 4 (k:Int)∧br u (InL (cL b 0) 1 (j:Int)∧br v (InL (d.st.map i1) 1 (at_:Int)∧br x (∃(w_1:List Mt) (m:Int) (p:Int) (st:Int) (un:Int) (no:Int),ah [.ptr 4 0,A,B,.I 0,.int .u64 0] [.ptr 4 0,.U p,.I st,.I un,.int .u64 no]∧cj f 4 3 (rkM (aq w_1) m)∧MO w_1 m∧InL (d.rows.map lcs) 1 (i:Int)∧br t (InL (cL c 0) 4 (k:Int)∧br u (InL (cL b 0) 1 (j:Int)∧br v (InL (d.st.map i1) 1 (at_:Int)∧br x (∃(w_2:List Mt) (m_1:Int) (p_1:Int) (st_1:Int) (un_1:Int) (no_1:Int) (t0:Tail),ah [z,A,B,.I 0,.int .u64 0] [.list (w_2.map mtc) t0,.U p_1,.I st_1,.I un_1,.int .u64 no_1]∧MO w_2 m_1∧m_1≤100000∧R .normal [.ptr 0 0,.ptr 1 0,.ptr 2 0,.ptr 4 0,.ptr 5 0,.list (List.map mtc (Prod.fst (ec w_2 p_1 st_1 un_1 no_1))) .no,.I (wI ((at_:Int)+1)),.I i,.I k,.I (wI ((j:Int)+1))] [.cells q,s,.abs (rkI ra 40),.abs (rkM (aq (Prod.fst (ec w_1 p st un no))) m),.cells [.ptr 3 0],n,.dead]) False) False) False) False) False) False) False) False) a) a) False) False)→Holds (wpK TOP [] (fun o=>match o.dst with|some 172=>7|some 156=>1101|some 168=>1201|some 159=>900|some 163=>900|some 166=>900|some 171=>900|_=>0) (ai [1,1,1,1,1,1,0,1,0,0,1,0,0,1,1,1,1,1,0,0,1,0,0,1,0] (ag Tryz.f7)) [] (ak [1,4,6,7,8,9,11,12,16,17] l) [.cells (wdC d),s,.abs (rkI ra 40),y,.cells [.ptr 3 0],n,.dead] (fun ex e H=>R ex (List.map e [1,4,6,7,8,9,11,12,16,17]) H)):Prop):=fun R h=>hoE h
def mI (xs:List (Int×Int)):List RwI:=xs.foldl (fun w x=>(iL w 40 x.1 x.2).1) []
theorem jA {α β:Type} {f:β→α→β} {b:β} {l:List α} {i:Nat} (d:α) (h:i<l.length):(l.take (i+1)).foldl f b=f ((l.take i).foldl f b) (l.getD i d):=by
 rw[aI d h,List.foldl_append]; rfl
theorem E3 (xs:List (Int×Int)):(mI xs).length≤xs.length:=by
 have:∀(xs:List (Int×Int)) (w:List RwI),(xs.foldl (fun w x=>(iL w 40 x.1 x.2).1) w).length≤w.length+xs.length:=by
  intro xs
  induction xs with
  | nil=>intro w; exact Nat.le_refl _
  | cons x xs ih=>
   intro w
   have h1:(iL w 40 x.1 x.2).1.length≤w.length+1:=by
    unfold iL
    split
    ·split
     ·exact Nat.le_succ _
     ·show(bI w x.1++[(⟨x.1,x.2⟩:RwI)]).length≤_
      have:=nK w x.1
      rw[List.length_append]; simp; omega
    ·exact Nat.le_succ _
   have:=ih (iL w 40 x.1 x.2).1
   rw[List.foldl_cons,List.length_cons]; omega
 have:=this xs []
 simpa[mI] using this
theorem AU {A:ae} {cs cs':List PV} (h:WkL cs cs'):WkH (A++[.cells cs]) (A++[.cells cs']):=by
 refine⟨by simp,fun o x ho=>?_⟩
 by_cases c:o<A.length
 ·rw[List.getElem?_append_left c] at ho
  exact⟨x,by rw[List.getElem?_append_left c]; exact ho,.refl x⟩
 ·have k:=(List.getElem?_eq_some_iff.1 ho).1
  simp at k
  have:o=A.length:=by omega
  subst this
  rw[at0] at ho; cases ho
  exact⟨_,at0 ..,.cells h⟩
theorem Mb {z:List PV} (hz:∀ x∈z,Low 0 x):∀ v∈(.ptr 0 0 :: .ptr 1 0 :: .ptr 2 0 :: .ptr 4 0 :: .ptr 5 0::z:List PV),Low 6 v:=by
 intro v hv
 simp only[List.mem_cons] at hv
 rcases hv with rfl|rfl|rfl|rfl|rfl|hv
 ·exact .ptr _ _ (by decide)
 ·exact .ptr _ _ (by decide)
 ·exact .ptr _ _ (by decide)
 ·exact .ptr _ _ (by decide)
 ·exact .ptr _ _ (by decide)
 ·exact(hz v hv).up
def Ji:LSp:=fun e H Q=>∃(d:Wd),d.ra.length≤1000∧(∀ p∈d.ra,0≤p.1)∧ah (List.map e [1,4,6,7,8,9,10]) [.ptr 0 0,.ptr 1 0,.ptr 2 0,.ptr 4 0,.ptr 5 0,.E,.I 0]∧av H [.cells (wdC d),.cells [.E,.I 0],.abs (rkI [] 40),.abs (rkM (aq []) 6),.cells [.ptr 3 0],.cells [.E,.I 40]]∧Q (.exit 0) (ak [1,4,6,7,8,9,10] [.ptr 0 0,.ptr 1 0,.ptr 2 0,.ptr 4 0,.ptr 5 0,.E,.I d.ra.length]) [.cells (wdC d),.cells [.E,.I 0],.abs (rkI (dy [] 40 d.ra) 40),.abs (rkM (aq []) 6),.cells [.ptr 3 0],.cells [.list ((mI d.ra).map csI) .no,.I 40]]
theorem Bh:∀ e H Q,Ji e H Q→AwK Tryz.f7.ntmps (.loop (ai [1,1,1,1,0,1,0] (ag Tryz.f7))) Q e H:=by
 rintro e H Q ⟨d,hl,hp,he,hH,hQ⟩
 have hH:H=_:=hH
 subst hH
 refine AW.Lm (H1:=[.cells (wdC d),.cells [.E,.I 0],.abs (rkI [] 40),.abs (rkM (aq []) 6),.cells [.ptr 3 0],.cells [.list (([]:List RwI).map csI) .no,.I 40]]) (AU (A:=[.cells (wdC d),.cells [.E,.I 0],.abs (rkI [] 40),.abs (rkM (aq []) 6),.cells [.ptr 3 0]]) (.cons (.list _ _) (.cons (.refl _) .nil))) ?_
 refine aB (hn:=fun o=>match o.dst with|some 41=>7|some 30=>1001|some 36=>1001|some 34=>900|some 40=>900|some 43=>501002|some 45=>1001|some 51=>1001|some 49=>900|some 55=>900|some _=>0|none=>match o.op with| .store _ (.tmp 8) _=>501002|_=>0) aj kv (.nil _ _ _ _ _) (σ:=Nat) [1,4,6,7,8,9,10] (fun i=>i≤d.ra.length) (fun i=>[.ptr 0 0,.ptr 1 0,.ptr 2 0,.ptr 4 0,.ptr 5 0,.E,.I i]) (fun i=>[.cells (wdC d),.cells [.E,.I 0],.abs (rkI (dy [] 40 (d.ra.take i)) 40),.abs (rkM (aq []) 6),.cells [.ptr 3 0],.cells [.list ((mI (d.ra.take i)).map csI) .no,.I 40]]) (fun i=>d.ra.length-i) 0 (Nat.zero_le _) he rfl ?_
 intro i hi
 have hi':i≤d.ra.length:=hi
 refine Mk d (dy [] 40 (d.ra.take i)) (mI (d.ra.take i)) i _ ?_
 simp only[au,dt,an,List.length_map]
 by_cases h:i<d.ra.length
 ·rw[if_pos (by omega)]
  obtain⟨p,hpd⟩:∃ p,p=d.ra.getD i (0,0):=⟨_,rfl⟩
  have hpm:p∈d.ra:=by rw[hpd]; exact aX h
  have inl:InL (d.ra.map prC) 2 (i:Int):=by rw[dZ HW (by decide)]; exact h
  have c0:∀ p:Int×Int,cI (List.drop 0 (prC p)) 0=p.1:=fun _=>rfl
  have c1:∀ p:Int×Int,cI (List.drop 1 (prC p)) 0=p.2:=fun _=>rfl
  have ok:Ok (dy [] 40 (d.ra.take i)) 40:=pC (Ok.none (by decide) (by decide)) _
  have hr:=E3 (d.ra.take i)
  rw[List.length_take] at hr
  have e1:dy [] 40 (d.ra.take (i+1))=(cV (dy [] 40 (d.ra.take i)) 40 p.1 p.2).1:=by rw[hpd]; exact jA (0,0) h
  have e2:mI (d.ra.take (i+1))=(iL (mI (d.ra.take i)) 40 p.1 p.2).1:=by rw[hpd]; exact jA (0,0) h
  simp only[getD_map (0,0) h,← hpd,c0,c1]
  refine⟨inl,?_⟩
  rw[if_pos (by rfl)]
  refine⟨inl,?_⟩
  rw[if_pos (by rfl)]
  refine⟨_,40,p.1,p.2,rfl,rfl,ok,inl,?_⟩
  rw[if_pos (by rfl)]
  refine⟨inl,?_⟩
  rw[if_pos (by rfl)]
  refine⟨_,40,p.1,p.2,rfl,by omega,hp p hpm,?_⟩
  rw[← e1,← e2]
  exact⟨i+1,(show d.ra.length-(i+1)<d.ra.length-i by omega),h,by rw[ar h (by omega)],[],rfl,Nat.le_refl _,.inl rfl⟩
 ·rw[if_neg (by omega)]
  have:i=d.ra.length:=by omega
  subst this
  rw[List.take_length]
  exact hQ
def vsS (st:List Int) (x:List Mt×Nat) (p:Int):List Mt×Nat:=if x.2<st.length then((ec x.1 p (st.getD x.2 0) 0 0).1,x.2+1) else x
def vsP (st:List Int) (x:List Mt×Nat) (ps:List Int):List Mt×Nat:=ps.foldl (vsS st) x
def vsR (st:List Int) (x:List Mt×Nat) (rows:List Rr):List Mt×Nat:=rows.foldl (fun x r=>vsP st x r.pl) x
theorem Ca {st:List Int} {x:List Mt×Nat} (h:¬ x.2<st.length):∀ ps:List Int,vsP st x ps=x:=by
 intro ps
 unfold vsP
 induction ps with
 | nil=>rfl
 | cons p ps ih=>rw[List.foldl_cons]; unfold vsS; rw[if_neg h]; exact ih
theorem Es {st:List Int} {m:Int} {x:List Mt×Nat} (ro:MO x.1 m) (hx:x.2≤st.length) (ps:List Int):MO (vsP st x ps).1 m∧(vsP st x ps).2≤st.length:=by
 unfold vsP
 induction ps generalizing x with
 | nil=>exact⟨ro,hx⟩
 | cons p ps ih=>
  rw[List.foldl_cons]
  unfold vsS
  by_cases c:x.2<st.length
  ·rw[if_pos c]; exact ih (ro.set _ _ _ _) c
  ·rw[if_neg c]; exact ih ro hx
theorem AQ {st:List Int} {m:Int} {x:List Mt×Nat} (ro:MO x.1 m) (hx:x.2≤st.length) (rows:List Rr):MO (vsR st x rows).1 m∧(vsR st x rows).2≤st.length:=by
 unfold vsR
 induction rows generalizing x with
 | nil=>exact⟨ro,hx⟩
 | cons r rows ih=>
  obtain⟨h1,h2⟩:=Es ro hx r.pl
  exact ih h1 h2
def Ew:LSp:=fun e H Q=>∃(d:Wd) (ra r:List RwI) (x:List Mt×Nat) (i k:Nat),i<d.rows.length∧k<(d.rows.getD i []).length∧((d.rows.getD i []).getD k default).pl.length≤1000000∧d.st.length≤1000000∧MO x.1 6∧x.2≤d.st.length∧ah (List.map e [1,4,6,7,8,9,11,12,16,17]) [.ptr 0 0,.ptr 1 0,.ptr 2 0,.ptr 4 0,.ptr 5 0,.list (x.1.map mtc) .no,.I x.2,.I i,.I k,.I 0]∧av H [.cells (wdC d),.cells [.E,.I 0],.abs (rkI ra 40),.abs (rkM (aq x.1) 6),.cells [.ptr 3 0],.cells [.list (r.map csI) .no,.I 40],.dead]∧
 (∀ j:Nat,Q (.exit 8) (ak [1,4,6,7,8,9,11,12,16,17] [.ptr 0 0,.ptr 1 0,.ptr 2 0,.ptr 4 0,.ptr 5 0,.list ((vsP d.st x ((d.rows.getD i []).getD k default).pl).1.map mtc) .no,.I (vsP d.st x ((d.rows.getD i []).getD k default).pl).2,.I i,.I k,.I j]) [.cells (wdC d),.cells [.E,.I 0],.abs (rkI ra 40),.abs (rkM (aq (vsP d.st x ((d.rows.getD i []).getD k default).pl).1) 6),.cells [.ptr 3 0],.cells [.list (r.map csI) .no,.I 40],.dead])
theorem Ev:∀ e H Q,Ew e H Q→AwK Tryz.f7.ntmps (.loop (ai [1,1,1,1,1,1,0,1,0,0,1,0,0,1,1,1,1,1,0,0,1,0,0,1,0] (ag Tryz.f7))) Q e H:=by
 rintro e H Q ⟨d,ra,r,x,i,k,hi,hk,hpl,hst,ro,hx,he,hH,hQ⟩
 obtain⟨l,hl⟩:∃ l,l=d.rows.getD i []:=⟨_,rfl⟩
 rw[← hl] at hk hpl hQ
 obtain⟨s,hs⟩:∃ s,s=l.getD k default:=⟨_,rfl⟩
 rw[← hs] at hpl hQ
 have inl:InL (d.rows.map lcs) 1 (i:Int):=by rw[cn]; exact hi
 have inl2:InL (l.map rrc) 4 (k:Int):=by rw[dP]; exact hk
 have c0:cL (lcs l) 0=l.map rrc:=rfl
 have c1:cL (List.drop 1 (rrc s)) 0=s.pl.map u1:=rfl
 refine aB (hn:=fun o=>match o.dst with|some 172=>7|some 156=>1101|some 168=>1201|some 159=>900|some 163=>900|some 166=>900|some 171=>900|_=>0) aj kv (.nil _ _ _ _ _) (σ:=Nat) [1,4,6,7,8,9,11,12,16,17] (fun j=>j≤s.pl.length) (fun j=>[.ptr 0 0,.ptr 1 0,.ptr 2 0,.ptr 4 0,.ptr 5 0,.list ((vsP d.st x (s.pl.take j)).1.map mtc) .no,.I (vsP d.st x (s.pl.take j)).2,.I i,.I k,.I j]) (fun j=>[.cells (wdC d),.cells [.E,.I 0],.abs (rkI ra 40),.abs (rkM (aq (vsP d.st x (s.pl.take j)).1) 6),.cells [.ptr 3 0],.cells [.list (r.map csI) .no,.I 40],.dead]) (fun j=>s.pl.length-j) 0 (Nat.zero_le _) he hH ?_
 intro j hj
 have hj':j≤s.pl.length:=hj
 obtain⟨y,hy⟩:∃ y,y=vsP d.st x (s.pl.take j):=⟨_,rfl⟩
 obtain⟨ro2,hx2⟩:=Es ro hx (s.pl.take j)
 rw[← hy] at ro2 hx2 ⊢
 refine Ls d ra r y.1 y.2 i k j _ ?_
 simp only[au,dt,an,getD_map [] hi,← hl,c0,getD_map default hk,← hs,c1,List.length_map]
 refine⟨inl,?_⟩
 rw[if_pos (by rfl)]
 refine⟨inl2,?_⟩
 rw[if_pos (by rfl)]
 have fin:vsP d.st x s.pl=y→BN Q [1,4,6,7,8,9,11,12,16,17] (fun j=>j≤s.pl.length) (fun j=>[.ptr 0 0,.ptr 1 0,.ptr 2 0,.ptr 4 0,.ptr 5 0,.list ((vsP d.st x (s.pl.take j)).1.map mtc) .no,.I (vsP d.st x (s.pl.take j)).2,.I i,.I k,.I j]) (fun j=>[.cells (wdC d),.cells [.E,.I 0],.abs (rkI ra 40),.abs (rkM (aq (vsP d.st x (s.pl.take j)).1) 6),.cells [.ptr 3 0],.cells [.list (r.map csI) .no,.I 40],.dead]) (fun j=>s.pl.length-j) j (.exit 8) [.ptr 0 0,.ptr 1 0,.ptr 2 0,.ptr 4 0,.ptr 5 0,.list (y.1.map mtc) .no,.I y.2,.I i,.I k,.I j] [.cells (wdC d),.cells [.E,.I 0],.abs (rkI ra 40),.abs (rkM (aq y.1) 6),.cells [.ptr 3 0],.cells [.list (r.map csI) .no,.I 40],.dead]:=fun e=>by
  have:=hQ j
  rw[e] at this
  exact this
 by_cases h:j<s.pl.length
 ·rw[if_pos (by rw[decide_eq_true (by omega)]; rfl)]
  have hstep:vsP d.st x (s.pl.take (j+1))=vsS d.st y (s.pl.getD j 0):=by rw[hy]; exact jA 0 h
  by_cases c:y.2<d.st.length
  ·rw[if_pos (by omega)]
   have inl3:InL (s.pl.map u1) 1 (j:Int):=by rw[dM]; exact h
   have inl4:InL (d.st.map i1) 1 (y.2:Int):=by rw[u5]; exact c
   have cu:∀ z:Int,cI (u1 z) 0=z:=fun _=>rfl
   have ci:∀ z:Int,cI (i1 z) 0=z:=fun _=>rfl
   simp only[getD_map 0 h,getD_map 0 c,cu,ci]
   refine⟨inl,?_⟩
   rw[if_pos (by rfl)]
   refine⟨inl2,?_⟩
   rw[if_pos (by rfl)]
   refine⟨inl3,?_⟩
   rw[if_pos (by rfl)]
   refine⟨inl4,?_⟩
   rw[if_pos (by rfl)]
   refine⟨y.1,6,s.pl.getD j 0,d.st.getD y.2 0,0,0,rfl,⟨rfl,rfl⟩,ro2,inl,?_⟩
   rw[if_pos (by rfl)]
   refine⟨inl2,?_⟩
   rw[if_pos (by rfl)]
   refine⟨inl3,?_⟩
   rw[if_pos (by rfl)]
   refine⟨inl4,?_⟩
   rw[if_pos (by rfl)]
   refine⟨y.1,6,s.pl.getD j 0,d.st.getD y.2 0,0,0,.no,rfl,ro2,by decide,?_⟩
   unfold vsS at hstep
   rw[if_pos c] at hstep
   exact⟨j+1,(show s.pl.length-(j+1)<s.pl.length-j by omega),h,by(try dsimp only); rw[hstep,ar h (by omega),ar c (by omega)],[],by(try dsimp only); rw[hstep]; rfl,Nat.le_refl _,.inl rfl⟩
  ·rw[if_neg (by omega)]
   refine fin ?_
   rw[← List.take_append_drop j s.pl]
   unfold vsP
   rw[List.foldl_append]
   show vsP d.st (vsP d.st x (s.pl.take j)) _=y
   rw[← hy]
   exact Ca c _
 ·rw[if_neg (by rw[decide_eq_false (by omega)]; decide)]
  have:j=s.pl.length:=by omega
  subst this
  rw[List.take_length] at hy
  exact fin hy.symm
theorem Gd:ai [1,0,0,1,0] (ai [1,1,1,1,1,1,0,1,0,0,1,0,0,1,1,1,1,1,0] (ag Tryz.f7))=ai [1,1,1,1,1,1,0,1,0,0,1,0,0,1,1,1,1,1,0,0,1,0,0,1,0] (ag Tryz.f7):=by kernel_rfl
theorem zE:∀ e H Q,Ew e H Q→AwK Tryz.f7.ntmps (.loop (ai [1,0,0,1,0] (ai [1,1,1,1,1,1,0,1,0,0,1,0,0,1,1,1,1,1,0] (ag Tryz.f7)))) Q e H:=by rw[Gd]; exact Ev
theorem J5 (d:Wd) (ra r:List RwI) (w:List Mt) (at_ i k:Nat):(by refine(?_:_→_→_→_→_→Prop) (Ob.cells [.E,.I 0]) (List.getD (d.rows.map lcs) (Int.toNat (i:Int)) []) (Ob.cells [.list (r.map csI) .no,.I 40]) (Ob.abs (rkM (aq w) 6)) (PV.list (w.map mtc) .no); exact fun m n o p q=>by refine(?_:_→_→Prop) [Ob.cells [.list (d.ra.map prC) .no,.list (d.rows.map lcs) .no,.list (d.st.map i1) .no],m,.abs (rkI ra 40),p,.cells [.ptr 3 0],o,.dead] [PV.ptr 0 0,.ptr 1 0,.ptr 2 0,.ptr 4 0,.ptr 5 0,q,.I at_,.I i,.I k]; exact fun j l=>∀(R:Ex→List PV→ae→Prop),(InL (d.rows.map lcs) 1 (i:Int)∧br (true && aE [.list] 0 n) (br (decide ((k:Int)<(↑(List.length (cL n 0)):Int))) (∃(d_1:Wd) (ra_1:List RwI) (r_1:List RwI) (x:List Mt×Nat) (i_1:Nat) (k_1:Nat),by refine(?_:_→_→_→_→Prop) (Ob.cells [.list (d_1.ra.map prC) .no,.list (d_1.rows.map lcs) .no,.list (d_1.st.map i1) .no]) (Ob.cells [.list (r_1.map csI) .no,.I 40]) (List.getD d_1.rows i_1 []) (Ob.abs (rkI ra_1 40)); exact fun b c f h=>by refine(?_:_→Prop) (Rr.pl (List.getD f k_1 default)); exact fun a=>by refine(?_:_→Prop) (Prod.fst (vsP d_1.st x a)); exact fun g=>i_1<d_1.rows.length∧k_1<List.length f∧List.length a≤1000000∧d_1.st.length≤1000000∧MO (Prod.fst x) 6∧Prod.snd x≤d_1.st.length∧ah [.ptr 0 0,.ptr 1 0,.ptr 2 0,.ptr 4 0,.ptr 5 0,q,.I at_,.I i,.I k,.I 0] [.ptr 0 0,.ptr 1 0,.ptr 2 0,.ptr 4 0,.ptr 5 0,.list (List.map mtc (Prod.fst x)) .no,.I (↑(Prod.snd x):Int),.I i_1,.I k_1,.I 0]∧av j [b,m,h,.abs (rkM (aq (Prod.fst x)) 6),.cells [.ptr 3 0],c,.dead]∧∀(_:Nat),R .normal [.ptr 0 0,.ptr 1 0,.ptr 2 0,.ptr 4 0,.ptr 5 0,.list (List.map mtc g) .no,.I (↑(Prod.snd (vsP d_1.st x a)):Int),.I i_1,.I (wI ((k_1:Int)+1))] [b,m,h,.abs (rkM (aq g) 6),.cells [.ptr 3 0],c,.dead]) (R (.exit 6) l j)) False)→Holds (wpK TOP [([1,0,0,1,0],Ew)] (fun _=>0) (ai [1,1,1,1,1,1,0,1,0,0,1,0,0,1,1,1,1,1,0] (ag Tryz.f7)) [] (ak [1,4,6,7,8,9,11,12,16] l) [.cells (wdC d),m,.abs (rkI ra 40),p,.cells [.ptr 3 0],o,.dead] (fun ex e H=>R ex (List.map e [1,4,6,7,8,9,11,12,16]) H)):Prop):=fun R h=>hoE h
theorem Ho (d:Wd) (ra r:List RwI) (w:List Mt) (at_ i k:Nat):(by refine(?_:_→_→_→_→_→_→Prop) (List.getD (d.rows.map lcs) (Int.toNat (i:Int)) []) (Ob.cells [.list (r.map csI) .no,.I 40]) (Ob.cells [.list (d.ra.map prC) .no,.list (d.rows.map lcs) .no,.list (d.st.map i1) .no]) (Ob.cells [.E,.I 0]) (Ob.abs (rkM (aq w) 6)) (PV.list (w.map mtc) .no); exact fun b g h j l s=>by refine(?_:_→_→_→Prop) (List.getD (cL b 0) (Int.toNat (k:Int)) []) [PV.ptr 0 0,.ptr 1 0,.ptr 2 0,.ptr 4 0,.ptr 5 0,s,.I at_,.I i,.E,.I k] (true && aE [.list] 0 b); exact fun a f p=>by refine(?_:_→_→_→_→Prop) (PV.I (cI a 2)) (PV.I (cI a 3)) (PV.list ([]++cL a 1) .no) (PV.I (cI a 0)); exact fun m n q t=>by refine(?_:_→Prop) [[PV.I (cI a 0),q,m,n]]; exact fun c=>∀(R:Ex→List PV→ae→Prop),(InL (d.rows.map lcs) 1 (i:Int)∧br p (br (decide ((k:Int)<(↑(List.length (cL b 0)):Int))) (InL (d.rows.map lcs) 1 (i:Int)∧br p (InL (cL b 0) 4 (k:Int)∧br (true && aE [.int .i64,.list,.int .i64,.int .i64] 0 a) (aG [] (cL a 1) 1 4∧aG [] c 4 48∧(List.all [t,q,m,n] PV.one=true∧c≠[])∧R .normal [.ptr 0 0,.ptr 1 0,.ptr 2 0,.ptr 4 0,.ptr 5 0,s,.I at_,.I i,.list c (.tok 7),.I (wI ((k:Int)+1))] [h,j,.abs (rkI ra 40),l,.cells [.ptr 3 0],g,.cells [t,.list (cL a 1) (cT a 1),m,n],.tok]) False) False) (R (.exit 4) f [h,j,.abs (rkI ra 40),l,.cells [.ptr 3 0],g])) False)→Holds (wpK TOP [] (fun o=>match o.dst with|some 90=>0|some 97=>1|_=>0) (ai [1,1,1,1,1,1,0,1,0,0,1,0,0,1,0,1,0] (ag Tryz.f7)) [] (ak [1,4,6,7,8,9,11,12,13,14] f) [.cells (wdC d),j,.abs (rkI ra 40),l,.cells [.ptr 3 0],g] (fun ex e H=>R ex (List.map e [1,4,6,7,8,9,11,12,13,14]) H)):Prop):=fun R h=>hoE h
theorem FP (d:Wd) (ra r:List RwI) (w:List Mt) (b:List Rr) (at_ i k:Nat):(by refine(?_:_→_→_→_→_→_→Prop) (List.getD (d.rows.map lcs) (Int.toNat (i:Int)) []) (Ob.cells [.list (r.map csI) .no,.I 40]) (Ob.cells [.list (d.ra.map prC) .no,.list (d.rows.map lcs) .no,.list (d.st.map i1) .no]) (Ob.cells [.E,.I 0]) (Ob.abs (rkM (aq w) 6)) (PV.list (w.map mtc) .no); exact fun c h j l m t=>by refine(?_:_→_→_→Prop) (List.getD (cL c 0) (Int.toNat (k:Int)) []) [PV.ptr 0 0,.ptr 1 0,.ptr 2 0,.ptr 4 0,.ptr 5 0,t,.I at_,.I i,.list (b.map rrc) (.tok 6),.I k] (true && aE [.list] 0 c); exact fun a g q=>by refine(?_:_→_→_→_→Prop) (PV.I (cI a 2)) (PV.I (cI a 3)) (PV.list ([]++cL a 1) .no) (PV.I (cI a 0)); exact fun n p s u=>by refine(?_:_→Prop) [[PV.I (cI a 0),s,n,p]]; exact fun f=>∀(R:Ex→List PV→ae→Prop),(InL (d.rows.map lcs) 1 (i:Int)∧br q (br (decide ((k:Int)<(↑(List.length (cL c 0)):Int))) (InL (d.rows.map lcs) 1 (i:Int)∧br q (InL (cL c 0) 4 (k:Int)∧br (true && aE [.int .i64,.list,.int .i64,.int .i64] 0 a) (aG [] (cL a 1) 1 4∧aG (b.map rrc) f 4 48∧(List.all [u,s,n,p] PV.one=true∧f≠[])∧R .normal [.ptr 0 0,.ptr 1 0,.ptr 2 0,.ptr 4 0,.ptr 5 0,t,.I at_,.I i,.list (b.map rrc++f) (.tok 8),.I (wI ((k:Int)+1))] [j,l,.abs (rkI ra 40),m,.cells [.ptr 3 0],h,.dead,.cells [u,.list (cL a 1) (cT a 1),n,p],.tok]) False) False) (R (.exit 4) g [j,l,.abs (rkI ra 40),m,.cells [.ptr 3 0],h,.tok])) False)→Holds (wpK TOP [] (fun o=>match o.dst with|some 90=>0|some 97=>1|_=>0) (ai [1,1,1,1,1,1,0,1,0,0,1,0,0,1,0,1,0] (ag Tryz.f7)) [] (ak [1,4,6,7,8,9,11,12,13,14] g) [.cells (wdC d),l,.abs (rkI ra 40),m,.cells [.ptr 3 0],h,.tok] (fun ex e H=>R ex (List.map e [1,4,6,7,8,9,11,12,13,14]) H)):Prop):=fun R h=>hoE h
theorem mU {n:Nat}:Low n (.E):=aH NT.exact (by simp)
theorem xL {d:Wd} {ra r:List RwI} {w:List Mt}:∀(o:Nat) cs,([.cells (wdC d),.cells [.E,.I 0],.abs (rkI ra 40),.abs (rkM (aq w) 6),.cells [.ptr 3 0],.cells [.list (r.map csI) .no,.I 40]]:ae)[o]?=some (.cells cs)→∀ x∈cs,Low 6 x:=by
 intro o cs ho
 have k1:=(List.getElem?_eq_some_iff.1 ho).1
 simp at k1
 have:o=0∨o=1∨o=2∨o=3∨o=4∨o=5:=by omega
 rcases this with rfl|rfl|rfl|rfl|rfl|rfl<;>cases ho
 ·exact rF d
 ·exact bn mU (.int _ _)
 ·exact bu (.ptr _ _ (by decide))
 ·exact bn (bp kS _) (.int _ _)
theorem Gx {w:List Mt} {at_ i k:Int} {T:PV} (hT:Low 6 T):∀ v∈[.ptr 0 0,.ptr 1 0,.ptr 2 0,.ptr 4 0,.ptr 5 0,.list (w.map mtc) .no,.I at_,.I i,T,.I k],Low 6 v:=by
 intro v hv
 simp only[List.mem_cons,List.not_mem_nil,or_false] at hv
 rcases hv with rfl|rfl|rfl|rfl|rfl|rfl|rfl|rfl|rfl|rfl
 ·exact .ptr _ _ (by decide)
 ·exact .ptr _ _ (by decide)
 ·exact .ptr _ _ (by decide)
 ·exact .ptr _ _ (by decide)
 ·exact .ptr _ _ (by decide)
 ·exact bK w
 ·exact .int _ _
 ·exact .int _ _
 ·exact hT
 ·exact .int _ _
theorem CH {a b c d e f g i T T' k:PV} (h:Wk T T'):WkL [a,b,c,d,e,f,g,i,T,k] [a,b,c,d,e,f,g,i,T',k]:= .cons (.refl _) (.cons (.refl _) (.cons (.refl _) (.cons (.refl _) (.cons (.refl _) (.cons (.refl _) (.cons (.refl _) (.cons (.refl _) (.cons h (.cons (.refl _) .nil)))))))))
def BL:LSp:=fun e H Q=>∃(d:Wd) (ra r:List RwI) (w:List Mt) (at_ i:Nat),i<d.rows.length∧smR (d.rows.getD i [])∧ah (List.map e [1,4,6,7,8,9,11,12,13,14]) [.ptr 0 0,.ptr 1 0,.ptr 2 0,.ptr 4 0,.ptr 5 0,.list (w.map mtc) .no,.I at_,.I i,.E,.I 0]∧av H [.cells (wdC d),.cells [.E,.I 0],.abs (rkI ra 40),.abs (rkM (aq w) 6),.cells [.ptr 3 0],.cells [.list (r.map csI) .no,.I 40]]∧Q (.exit 4) (ak [1,4,6,7,8,9,11,12,13,14] [.ptr 0 0,.ptr 1 0,.ptr 2 0,.ptr 4 0,.ptr 5 0,.list (w.map mtc) .no,.I at_,.I i,.list ((d.rows.getD i []).map rrc) .no,.I (d.rows.getD i []).length]) [.cells (wdC d),.cells [.E,.I 0],.abs (rkI ra 40),.abs (rkM (aq w) 6),.cells [.ptr 3 0],.cells [.list (r.map csI) .no,.I 40],.dead]
set_option maxRecDepth 10000 in
theorem B3:∀ e H Q,BL e H Q→AwK Tryz.f7.ntmps (.loop (ai [1,1,1,1,1,1,0,1,0,0,1,0,0,1,0,1,0] (ag Tryz.f7))) Q e H:=by
 rintro e H Q ⟨d,ra,r,w,at_,i,hi,sm,he,hH,hQ⟩
 have hH:H=_:=hH
 obtain⟨l,hl⟩:∃ l,l=d.rows.getD i []:=⟨_,rfl⟩
 rw[← hl] at sm hQ
 have hll:=sm.1
 have inl:InL (d.rows.map lcs) 1 (i:Int):=by rw[cn]; exact hi
 have c0:cL (lcs l) 0=l.map rrc:=rfl
 refine kJ (f:=rrc) (acc:=fun k=>l.take k) (I:=fun k=>k≤l.length) (m:=fun k=>l.length-k) aj [1,4,6,7,8,9,11,12,13,14] (fun T k=>[.ptr 0 0,.ptr 1 0,.ptr 2 0,.ptr 4 0,.ptr 5 0,.list (w.map mtc) .no,.I at_,.I i,T,.I k]) [.cells (wdC d),.cells [.E,.I 0],.abs (rkI ra 40),.abs (rkM (aq w) 6),.cells [.ptr 3 0],.cells [.list (r.map csI) .no,.I 40]] (0:Nat)
  xL (fun _ _ a _=>bG a) (fun es k j _ h=> .same (.ptr _ _ (by simp)) (.same (.ptr _ _ (by simp)) (.same (.ptr _ _ (by simp)) (.same (.ptr _ _ (by simp)) (.same (.ptr _ _ (by simp)) (.same (bK w) (.same (.int _ _) (.same (.int _ _) (.row h (.same (.int _ _) .nil)))))))))) (fun k _=>Gx mU) (Nat.zero_le _) rfl he hH ?_ ?_
 ·intro k hk ha
  have hk':k≤l.length:=hk
  have ha:l.take k=[]:=ha
  refine aY kv (ai [1,1,1,1,1,1,0,1,0,0,1,0,0,1,0,1,0] (ag Tryz.f7)) [] (.nil _ _ _ _ _) _ _ _ (Ho d ra r w at_ i k _ ?_).out
  simp only[au,dt,an,getD_map [] hi,← hl,c0,List.length_map]
  refine⟨inl,?_⟩
  rw[if_pos (by rfl)]
  by_cases h:k<l.length
  ·rw[if_pos (by omega)]
   obtain⟨s,hs⟩:∃ s,s=l.getD k default:=⟨_,rfl⟩
   have hsucc:l.take (k+1)=l.take k++[s]:=by rw[aI default h,hs]
   have inl2:InL (l.map rrc) 4 (k:Int):=by rw[dP]; exact h
   have hsl:s.pl.length≤100:=sm.2 s (by rw[hs]; exact aX h)
   have r0:cI (rrc s) 0=s.tm:=rfl
   have r1:cL (rrc s) 1=s.pl.map u1:=rfl
   have r2:cI (rrc s) 2=s.rt:=rfl
   have r3:cI (rrc s) 3=s.wd:=rfl
   refine⟨inl,?_⟩
   rw[if_pos (by rfl)]
   refine⟨inl2,?_⟩
   simp only[getD_map default h,← hs]
   rw[if_pos (by rfl)]
   refine⟨⟨fun _ h=>(nomatch h),b5 dc s.pl,by show(0+(s.pl.map u1).length)*4≤_; rw[List.length_map]; omega⟩,aF (l:=[]) (by_:=48) fo s (by show(0+1)*48≤_; decide),one_row ru s,?_⟩
   exact aV (k+1) (show l.length-(k+1)<l.length-k by omega) h (hsucc.trans (by rw[ha])) (by simp) [_,.tok] 7 rfl rfl (by simp) (by(try dsimp only); rw[ar h (by omega)]; rfl)
  ·rw[if_neg (by omega)]
   have:k=l.length:=by omega
   subst this
   rw[List.take_length] at ha
   have hn:l=[]:=ha
   rw[hn] at hQ ⊢
   exact bN (CH (.list _ _)) (dN _) hQ
 ·intro k hk ha
  have hk':k≤l.length:=hk
  have ha:l.take k≠[]:=ha
  have hbl:(l.take k).length≤100:=by rw[List.length_take]; omega
  refine aY kv (ai [1,1,1,1,1,1,0,1,0,0,1,0,0,1,0,1,0] (ag Tryz.f7)) [] (.nil _ _ _ _ _) _ _ _ (FP d ra r w (l.take k) at_ i k _ ?_).out
  simp only[au,dt,an,getD_map [] hi,← hl,c0,List.length_map]
  refine⟨inl,?_⟩
  rw[if_pos (by rfl)]
  by_cases h:k<l.length
  ·rw[if_pos (by omega)]
   obtain⟨s,hs⟩:∃ s,s=l.getD k default:=⟨_,rfl⟩
   have hsucc:l.take (k+1)=l.take k++[s]:=by rw[aI default h,hs]
   have inl2:InL (l.map rrc) 4 (k:Int):=by rw[dP]; exact h
   have hsl:s.pl.length≤100:=sm.2 s (by rw[hs]; exact aX h)
   have r0:cI (rrc s) 0=s.tm:=rfl
   have r1:cL (rrc s) 1=s.pl.map u1:=rfl
   have r2:cI (rrc s) 2=s.rt:=rfl
   have r3:cI (rrc s) 3=s.wd:=rfl
   refine⟨inl,?_⟩
   rw[if_pos (by rfl)]
   refine⟨inl2,?_⟩
   simp only[getD_map default h,← hs]
   rw[if_pos (by rfl)]
   refine⟨⟨fun _ h=>(nomatch h),b5 dc s.pl,by show(0+(s.pl.map u1).length)*4≤_; rw[List.length_map]; omega⟩,aF (by_:=48) fo (l.take k) s (by omega),one_row ru s,?_⟩
   exact aV (k+1) (show l.length-(k+1)<l.length-k by omega) h hsucc (by simp) [.dead,_,.tok] 8 rfl rfl (by simp) (by(try dsimp only); rw[ar h (by omega),List.map_append]; rfl)
  ·rw[if_neg (by omega)]
   have:k=l.length:=by omega
   subst this
   rw[List.take_length]
   exact bN (CH (.list _ _)) (ej [.cells (wdC d),.cells [.E,.I 0],.abs (rkI ra 40),.abs (rkM (aq w) 6),.cells [.ptr 3 0],.cells [.list (r.map csI) .no,.I 40]] .tok) hQ
def Di:LSp:=fun e H Q=>∃(d:Wd) (ra r:List RwI) (x:List Mt×Nat) (i:Nat),i<d.rows.length∧smR (d.rows.getD i [])∧d.st.length≤1000000∧MO x.1 6∧x.2≤d.st.length∧ah (List.map e [1,4,6,7,8,9,11,12,16]) [.ptr 0 0,.ptr 1 0,.ptr 2 0,.ptr 4 0,.ptr 5 0,.list (x.1.map mtc) .no,.I x.2,.I i,.I 0]∧av H [.cells (wdC d),.cells [.E,.I 0],.abs (rkI ra 40),.abs (rkM (aq x.1) 6),.cells [.ptr 3 0],.cells [.list (r.map csI) .no,.I 40],.dead]∧Q (.exit 6) (ak [1,4,6,7,8,9,11,12,16] [.ptr 0 0,.ptr 1 0,.ptr 2 0,.ptr 4 0,.ptr 5 0,.list ((vsR d.st x (d.rows.getD i [])).1.map mtc) .no,.I (vsR d.st x (d.rows.getD i [])).2,.I i,.I (d.rows.getD i []).length]) [.cells (wdC d),.cells [.E,.I 0],.abs (rkI ra 40),.abs (rkM (aq (vsR d.st x (d.rows.getD i [])).1) 6),.cells [.ptr 3 0],.cells [.list (r.map csI) .no,.I 40],.dead]
theorem Ay:∀ e H Q,Di e H Q→AwK Tryz.f7.ntmps (.loop (ai [1,1,1,1,1,1,0,1,0,0,1,0,0,1,1,1,1,1,0] (ag Tryz.f7))) Q e H:=by
 rintro e H Q ⟨d,ra,r,x,i,hi,sm,hst,ro,hx,he,hH,hQ⟩
 obtain⟨l,hl⟩:∃ l,l=d.rows.getD i []:=⟨_,rfl⟩
 rw[← hl] at sm hQ
 have hll:=sm.1
 have inl:InL (d.rows.map lcs) 1 (i:Int):=by rw[cn]; exact hi
 have c0:cL (lcs l) 0=l.map rrc:=rfl
 refine aB (hn:=fun _=>0) aj kv (.cons suE zE (.nil _ _ _ _ _)) (σ:=Nat) [1,4,6,7,8,9,11,12,16] (fun k=>k≤l.length) (fun k=>[.ptr 0 0,.ptr 1 0,.ptr 2 0,.ptr 4 0,.ptr 5 0,.list ((vsR d.st x (l.take k)).1.map mtc) .no,.I (vsR d.st x (l.take k)).2,.I i,.I k]) (fun k=>[.cells (wdC d),.cells [.E,.I 0],.abs (rkI ra 40),.abs (rkM (aq (vsR d.st x (l.take k)).1) 6),.cells [.ptr 3 0],.cells [.list (r.map csI) .no,.I 40],.dead]) (fun k=>l.length-k) 0 (Nat.zero_le _) he hH ?_
 intro k hk
 have hk':k≤l.length:=hk
 obtain⟨y,hy⟩:∃ y,y=vsR d.st x (l.take k):=⟨_,rfl⟩
 obtain⟨ro2,hx2⟩:=AQ ro hx (l.take k)
 rw[← hy] at ro2 hx2 ⊢
 refine J5 d ra r y.1 y.2 i k _ ?_
 simp only[au,dt,an,getD_map [] hi,← hl,c0,List.length_map]
 refine⟨inl,?_⟩
 rw[if_pos (by rfl)]
 by_cases h:k<l.length
 ·rw[if_pos (by omega)]
  have hstep:vsR d.st x (l.take (k+1))=vsP d.st y (l.getD k default).pl:=by rw[hy]; exact jA default h
  have hpl:=sm.2 _ (aX (d:=default) h)
  refine⟨d,ra,r,y,i,k,hi,by rw[← hl]; exact h,by rw[← hl]; omega,hst,ro2,hx2,rfl,rfl,fun j=>?_⟩
  rw[← hl,← hstep]
  exact⟨k+1,(show l.length-(k+1)<l.length-k by omega),h,by rw[ar h (by omega)],[],rfl,Nat.le_refl _,.inl rfl⟩
 ·rw[if_neg (by omega)]
  have:k=l.length:=by omega
  subst this
  rw[List.take_length] at hy
  rw[hy]; exact hQ
theorem IK:ai [1,0,0,1,1,1,1,1,0] (ai [1,1,1,1,1,1,0,1,0] (ag Tryz.f7))=ai [1,1,1,1,1,1,0,1,0,0,1,0,0,1,1,1,1,1,0] (ag Tryz.f7):=by kernel_rfl
theorem FQ:ai [1,0,0,1,0,1,0] (ai [1,1,1,1,1,1,0,1,0] (ag Tryz.f7))=ai [1,1,1,1,1,1,0,1,0,0,1,0,0,1,0,1,0] (ag Tryz.f7):=by kernel_rfl
theorem zc:∀ e H Q,Di e H Q→AwK Tryz.f7.ntmps (.loop (ai [1,0,0,1,1,1,1,1,0] (ai [1,1,1,1,1,1,0,1,0] (ag Tryz.f7)))) Q e H:=by rw[IK]; exact Ay
theorem zF:∀ e H Q,BL e H Q→AwK Tryz.f7.ntmps (.loop (ai [1,0,0,1,0,1,0] (ai [1,1,1,1,1,1,0,1,0] (ag Tryz.f7)))) Q e H:=by rw[FQ]; exact B3
theorem Ln (d:Wd) (ra r:List RwI) (w:List Mt) (at_ i:Nat):(by refine(?_:_→_→_→_→Prop) (Ob.cells [.E,.I 0]) (Ob.cells [.list (r.map csI) .no,.I 40]) (Ob.abs (rkM (aq w) 6)) (PV.list (w.map mtc) .no); exact fun v A B C=>by refine(?_:_→_→Prop) [Ob.cells [.list (d.ra.map prC) .no,.list (d.rows.map lcs) .no,.list (d.st.map i1) .no],v,.abs (rkI ra 40),B,.cells [.ptr 3 0],A] [PV.ptr 0 0,.ptr 1 0,.ptr 2 0,.ptr 4 0,.ptr 5 0,C,.I at_,.I i]; exact fun y z=>∀(R:Ex→List PV→ae→Prop),(br (decide ((i:Int)<(↑(List.length (d.rows.map lcs)):Int))) (∃(d_1:Wd) (ra_1:List RwI) (r_1:List RwI) (w_1:List Mt) (at__1:Nat) (i_1:Nat),by refine(?_:_→_→_→_→_→_→_→_→Prop) (Ob.cells [.list (r_1.map csI) .no,.I 40]) (PV.U (IntKind.wrap .u32 (IntKind.wrap .u32 (i_1:Int)+11))) (PV.U (IntKind.wrap .u32 (IntKind.wrap .u32 (i_1:Int)+1))) (d_1.rows.map lcs) (Ob.abs (rkI ra_1 40)) (List.getD d_1.rows i_1 []) (Ob.abs (rkM (aq w_1) 6)) (PV.list (w_1.map mtc) .no); exact fun j k n o p q s u=>by refine(?_:_→_→Prop) (Ob.cells [.list (d_1.ra.map prC) .no,.list o .no,.list (d_1.st.map i1) .no]) (List.getD o (Int.toNat (i_1:Int)) []); exact fun g h=>i_1<d_1.rows.length∧smR q∧ah [.ptr 0 0,.ptr 1 0,.ptr 2 0,.ptr 4 0,.ptr 5 0,C,.I at_,.I i,.E,.I 0] [.ptr 0 0,.ptr 1 0,.ptr 2 0,.ptr 4 0,.ptr 5 0,u,.I at__1,.I i_1,.E,.I 0]∧av y [g,v,p,s,.cells [.ptr 3 0],j]∧∃(w:List Mt) (m:Int) (id:Int) (md:Int) (ins:Int) (l:List Rr) (t:Tail),ah [.ptr 4 0,n,.I 0,k,.list (List.map rrc q) .no] [.ptr 4 0,.U id,.I md,.U ins,.list (l.map rrc) t]∧cj [g,v,p,s,.cells [.ptr 3 0],j,.dead] 4 3 (rkM (aq w) m)∧MO w m∧smR l∧InL o 1 (i_1:Int)∧br (true && aE [.list] 0 h) (∃(w_2:List Mt) (m_1:Int) (id_1:Int) (md_1:Int) (ins_1:Int) (l_1:List Rr) (t0:Tail) (t1:Tail),ah [u,.I 6,n,.I 0,k,.list (cL h 0) (cT h 0)] [.list (w_2.map mtc) t0,.I m_1,.U id_1,.I md_1,.U ins_1,.list (l_1.map rrc) t1]∧MO w_2 m_1∧m_1≤100000∧0≤id_1∧vH l_1∧smR l_1∧∃(d:Wd) (ra:List RwI) (r:List RwI) (x:List Mt×Nat) (i:Nat),by refine(?_:_→_→_→Prop) (Ob.cells [.list (d.ra.map prC) .no,.list (d.rows.map lcs) .no,.list (d.st.map i1) .no]) (Ob.cells [.list (r.map csI) .no,.I 40]) (List.getD d.rows i []); exact fun a c f=>by refine(?_:_→Prop) (vsR d.st x f); exact fun b=>i<d.rows.length∧smR f∧d.st.length≤1000000∧MO (Prod.fst x) 6∧Prod.snd x≤d.st.length∧ah [.ptr 0 0,.ptr 1 0,.ptr 2 0,.ptr 4 0,.ptr 5 0,.list (List.map mtc (Prod.fst (dB w_2 m_1 id_1 md_1 ins_1 l_1))) .no,.I at__1,.I i_1,.I 0] [.ptr 0 0,.ptr 1 0,.ptr 2 0,.ptr 4 0,.ptr 5 0,.list (List.map mtc (Prod.fst x)) .no,.I (↑(Prod.snd x):Int),.I i,.I 0]∧av [g,v,p,.abs (rkM (aq (Prod.fst (dB w m id md ins l))) m),.cells [.ptr 3 0],j,.dead] [a,v,.abs (rkI ra 40),.abs (rkM (aq (Prod.fst x)) 6),.cells [.ptr 3 0],c,.dead]∧R .normal [.ptr 0 0,.ptr 1 0,.ptr 2 0,.ptr 4 0,.ptr 5 0,.list (List.map mtc (Prod.fst b)) .no,.I (↑(Prod.snd b):Int),.I (wI ((i:Int)+1))] [a,v,.abs (rkI ra 40),.abs (rkM (aq (Prod.fst b)) 6),.cells [.ptr 3 0],c,.dead]) False) (R (.exit 2) z y))→Holds (wpK TOP [([1,0,0,1,0,1,0],BL),([1,0,0,1,1,1,1,1,0],Di)] (fun _=>0) (ai [1,1,1,1,1,1,0,1,0] (ag Tryz.f7)) [] (ak [1,4,6,7,8,9,11,12] z) [.cells (wdC d),v,.abs (rkI ra 40),B,.cells [.ptr 3 0],A] (fun ex e H=>R ex (List.map e [1,4,6,7,8,9,11,12]) H)):Prop):=fun R h=>hoE h
theorem idN (i:Nat) (h:i≤6) (a:Int) (h0:0≤a) (h1:a≤100):IntKind.wrap .u32 (IntKind.wrap .u32 (i:Int)+a)=i+a:=by
 rw[wrap_u32 (n:=(i:Int)) (by omega) (by omega),wrap_u32 (by omega) (by omega)]
def opS (d:Wd) (x:List Mt×Nat) (i:Nat):List Mt×Nat:=vsR d.st ((dB x.1 6 (i+1) 0 (i+11) (d.rows.getD i [])).1,x.2) (d.rows.getD i [])
def eG (d:Wd):Nat→List Mt×Nat
 | 0=>([],0)
 | i+1=>opS d (eG d i) i
theorem lI (d:Wd):∀ i,MO (eG d i).1 6∧(eG d i).2≤d.st.length
 | 0=>⟨MO.nil (by decide) (by decide),Nat.zero_le _⟩
 | i+1=>AQ (x:=((dB (eG d i).1 6 (i+1) 0 (i+11) (d.rows.getD i [])).1,(eG d i).2)) ((lI d i).1.make _ _ _ _) (lI d i).2 _
def JS:LSp:=fun e H Q=>∃(d:Wd) (ra r:List RwI),d.rows.length≤6∧d.st.length≤1000000∧(∀ l∈d.rows,smR l∧vH l)∧ah (List.map e [1,4,6,7,8,9,11,12]) [.ptr 0 0,.ptr 1 0,.ptr 2 0,.ptr 4 0,.ptr 5 0,.E,.I 0,.I 0]∧av H [.cells (wdC d),.cells [.E,.I 0],.abs (rkI ra 40),.abs (rkM (aq []) 6),.cells [.ptr 3 0],.cells [.list (r.map csI) .no,.I 40]]∧Q (.exit 2) (ak [1,4,6,7,8,9,11,12] [.ptr 0 0,.ptr 1 0,.ptr 2 0,.ptr 4 0,.ptr 5 0,.list ((eG d d.rows.length).1.map mtc) .no,.I (eG d d.rows.length).2,.I d.rows.length]) [.cells (wdC d),.cells [.E,.I 0],.abs (rkI ra 40),.abs (rkM (aq (eG d d.rows.length).1) 6),.cells [.ptr 3 0],.cells [.list (r.map csI) .no,.I 40]]
set_option maxRecDepth 10000 in
theorem D5:∀ e H Q,JS e H Q→AwK Tryz.f7.ntmps (.loop (ai [1,1,1,1,1,1,0,1,0] (ag Tryz.f7))) Q e H:=by
 rintro e H Q ⟨d,ra,r,hn,hst,hr,he,hH,hQ⟩
 have hH:H=_:=hH
 subst hH
 have he:_=_:=he
 refine AW.Ni (slots:=[1,4,6,7,8,9,11,12]) (vs:=[.ptr 0 0,.ptr 1 0,.ptr 2 0,.ptr 4 0,.ptr 5 0,.list (([]:List Mt).map mtc) .no,.I 0,.I 0]) (by rw[he]; exact .cons (.refl _) (.cons (.refl _) (.cons (.refl _) (.cons (.refl _) (.cons (.refl _) (.cons (.list _ _) (.cons (.refl _) (.cons (.refl _) .nil)))))))) ?_
 refine aB (hn:=fun _=>0) aj kv (.cons suE zF (.cons suE zc (.nil _ _ _ _ _))) (σ:=Nat) [1,4,6,7,8,9,11,12] (fun i=>i≤d.rows.length) (fun i=>[.ptr 0 0,.ptr 1 0,.ptr 2 0,.ptr 4 0,.ptr 5 0,.list ((eG d i).1.map mtc) .no,.I (eG d i).2,.I i]) (fun i=>[.cells (wdC d),.cells [.E,.I 0],.abs (rkI ra 40),.abs (rkM (aq (eG d i).1) 6),.cells [.ptr 3 0],.cells [.list (r.map csI) .no,.I 40]]) (fun i=>d.rows.length-i) 0 (Nat.zero_le _) rfl rfl ?_
 intro i hi
 have hi':i≤d.rows.length:=hi
 obtain⟨ro,hx⟩:=lI d i
 have hs:eG d (i+1)=opS d (eG d i) i:=rfl
 obtain⟨y,hy⟩:∃ y,y=eG d i:=⟨_,rfl⟩
 rw[← hy] at ro hx hs ⊢
 refine Ln d ra r y.1 y.2 i _ ?_
 simp only[au,dt,an,List.length_map]
 by_cases h:i<d.rows.length
 ·rw[if_pos (by omega)]
  have inl:InL (d.rows.map lcs) 1 (i:Int):=by rw[cn]; exact h
  have c0:∀ l:List Rr,cL (lcs l) 0=l.map rrc:=fun _=>rfl
  have ih:∀ a:Int,0≤a→a≤100→_:=idN i (by omega)
  obtain⟨sm,ps⟩:=hr _ (aX (d:=([]:List Rr)) h)
  refine⟨d,ra,r,y.1,y.2,i,h,sm,rfl,rfl,?_⟩
  rw[ih 1 (by decide) (by decide),ih 11 (by decide) (by decide)]
  refine⟨y.1,6,i+1,0,i+11,d.rows.getD i [],.no,rfl,⟨rfl,rfl⟩,ro,sm,inl,?_⟩
  simp only[getD_map ([]:List Rr) h,c0]
  rw[if_pos (by rfl)]
  refine⟨y.1,6,i+1,0,i+11,d.rows.getD i [],.no,_,rfl,ro,by decide,by omega,ps,sm,?_⟩
  refine⟨d,ra,r,((dB y.1 6 (i+1) 0 (i+11) (d.rows.getD i [])).1,y.2),i,h,sm,hst,ro.make _ _ _ _,hx,rfl,rfl,?_⟩
  have hs:vsR d.st ((dB y.1 6 (i+1) 0 (i+11) (d.rows.getD i [])).1,y.2) (d.rows.getD i [])=eG d (i+1):=hs.symm
  rw[hs]
  exact⟨i+1,(show d.rows.length-(i+1)<d.rows.length-i by omega),h,by rw[ar h (by omega)],[.dead],rfl,Nat.le_refl _,.inr ⟨Mb (dO (bK _) (.int _ _) (.int _ _)),xL⟩⟩
 ·rw[if_neg (by omega)]
  have:i=d.rows.length:=by omega
  subst this
  rw[hy]; exact hQ
theorem Kn (d:Wd):(by refine(?_:_→_→_→_→Prop) (Ob.cells [.E,.I 0]) [PV.ptr 0 0,.ptr 1 0,.ptr 2 0,.ptr 4 0,.ptr 5 0,.E,.I 0,.I 0] [PV.ptr 0 0,.ptr 1 0,.ptr 2 0,.ptr 4 0,.ptr 5 0,.E,.I 0] (Ob.cells [.E,.I 40]); exact fun f g h i=>∀(K:PV→ae→Prop),(∃(n:Int),ah [.I 40] [.I n]∧∃(n_1:Int),ah [.I 6] [.I n_1]∧∃(d_1:Wd),by refine(?_:_→Prop) (Ob.cells [.list (d_1.ra.map prC) .no,.list (d_1.rows.map lcs) .no,.list (d_1.st.map i1) .no]); exact fun e=>d_1.ra.length≤1000∧(∀(p:Int×Int),p∈d_1.ra→0≤Prod.fst p)∧ah h h∧av [.cells [.list (d.ra.map prC) .no,.list (d.rows.map lcs) .no,.list (d.st.map i1) .no],f,.abs (rkI [] (mxI 0 n)),.abs (rkM [] (mxI 0 n_1)),.cells [.ptr 3 0],i] [e,f,.abs (rkI [] 40),.abs (rkM [] 6),.cells [.ptr 3 0],i]∧∃(d:Wd) (ra:List RwI) (r:List RwI),by refine(?_:_→_→_→Prop) [PV.list (r.map csI) .no,.I 40] (Ob.cells [.list (d.ra.map prC) .no,.list (d.rows.map lcs) .no,.list (d.st.map i1) .no]) (Prod.fst (eG d d.rows.length)); exact fun a b c=>d.rows.length≤6∧d.st.length≤1000000∧(∀(l:List Rr),l∈d.rows→smR l∧vH l)∧ah g g∧av [e,f,.abs (rkI (dy [] 40 d_1.ra) 40),.abs (rkM [] 6),.cells [.ptr 3 0],.cells [.list (List.map csI (mI d_1.ra)) .no,.I 40]] [b,f,.abs (rkI ra 40),.abs (rkM [] 6),.cells [.ptr 3 0],.cells a]∧K (.tup [.ptr 2 0,.ptr 4 0,.agg a,.list (List.map mtc c) .no]) [b,.cells a,.abs (rkI ra 40),.abs (rkM (aq c) 6),.cells [.ptr 3 0],.cells a])→AcK 7 [.agg (wdC d)] [] K:Prop):=fun K h=>acW (T:=TOP) (L:=[([1,1,1,1,0,1,0],Ji),([1,1,1,1,1,1,0,1,0],JS)]) (fun o=>match o.dst with|some 199=>501002|some _=>0|none=>match o.op with| .store _ (.tmp 4) _=>101002|_=>0) Tryz.func7 (kv) (.cons suE Bh (.cons suE D5 (.nil _ _ _ _ _))) h
def raP (d:Wd):Prop:=(∀ p∈d.ra,0≤p.1)∧∀ l∈d.rows,vH l
def opH (n:Nat) (d:Wd):ae:=[.abs (rkI (dy [] 40 d.ra) 40),.abs (rkM (aq (eG d d.rows.length).1) 6),.cells [.ptr (n+1) 0]]
def opV (n:Nat) (d:Wd):List PV:=[.ptr n 0,.ptr (n+2) 0,.agg [.list ((mI d.ra).map csI) .no,.I 40],.list ((eG d d.rows.length).1.map mtc) .no]
def JB (args:List PV) (H:ae) (K:PV→ae→Prop):Prop:=∃(d:Wd),ah args [.agg (wdC d)]∧fk d=false∧raP d∧K (.tup (opV H.length d)) (H++opH H.length d)
theorem yb {ρ:Nat→Nat} {n m k:Nat} (h1:n+2<m) (h2:ρ n=k) (h3:ρ (n+2)=k+2) (d:Wd):Ren ρ m (.tup (opV n d)) (.tup (opV k d)):=by
 have a:=Ren.ptr (ρ:=ρ) (n:=m) n 0 (by omega)
 have b:=Ren.ptr (ρ:=ρ) (n:=m) (n+2) 0 h1
 rw[h2] at a
 rw[h3] at b
 exact .MD (.cons a (.cons b (.cons (.low (.agg _ (bn (bp kS _) (.int _ _)))) (.cons (.low (bK _)) .nil))))
theorem Ks:SpK 7 (.heap JB):=by
 rintro args H K ⟨d,he,hg,hp,hk⟩
 have he:args=_:=he
 subst he
 obtain⟨g1,g2,g3,g4⟩:=yV hg
 refine aZ aj (X:=[]) (ρ:=fun o=>o) ⟨by simp,by simp,by simp⟩ (aU.low (bu (.agg _ (rF d)))) (cg aj (Kn d _ ⟨40,rfl,6,rfl,d,by omega,hp.1,rfl,rfl,d,dy [] 40 d.ra,mI d.ra,g2,by omega,fun l hl=>⟨g4 l hl,hp.2 l hl⟩,rfl,rfl,?_⟩))
 have q0:aM (fun o=>o) ([]:ae).length H.length 0=H.length:=by simp[aM]
 have q1:aM (fun o=>o) ([]:ae).length H.length 1=H.length+1:=by simp[aM]
 have q2:aM (fun o=>o) ([]:ae).length H.length 2=H.length+2:=by simp[aM]
 refine⟨.tup (opV 0 d),opH 0 d,fun o=>o+2,⟨fun o ho=>by simp[opH] at ho ⊢; omega,fun a b _ _ e=>by have e:a+2=b+2:=e; omega,fun o a ho=>?_⟩,by simp,fun o ho=>by simp at ho,yb (n:=0) (Nat.lt_succ_self 2) rfl rfl d,
  .tup (opV H.length d),H++opH H.length d,⟨by simp,by simp[opH],fun o a ho=>?_,fun o hl _=>by rw[List.getElem?_append_left hl]⟩,yb (n:=0) (Nat.lt_succ_self 2) q0 q2 d,hk⟩
 ·have k1:=(List.getElem?_eq_some_iff.1 ho).1
  simp[opH] at k1
  have:o=0∨o=1∨o=2:=by omega
  rcases this with rfl|rfl|rfl
  ·cases ho; exact⟨_,rfl,.abs _⟩
  ·cases ho; exact⟨_,rfl,.abs _⟩
  ·cases ho; exact⟨_,rfl,.cells (.cons (.ptr (ρ:=fun o=>o+2) 1 0 (Nat.lt_succ_of_lt (Nat.lt_succ_self 1))) .nil)⟩
 ·have k1:=(List.getElem?_eq_some_iff.1 ho).1
  simp[opH] at k1
  have:o=0∨o=1∨o=2:=by omega
  rcases this with rfl|rfl|rfl
  ·cases ho; exact⟨_,by rw[q0,List.getElem?_append_right (Nat.le_refl _)]; simp[opH],.abs _,fun h=>h⟩
  ·cases ho; exact⟨_,by rw[q1,List.getElem?_append_right (by omega)]; simp[opH],.abs _,fun h=>h⟩
  ·cases ho
   refine⟨.cells [.ptr (H.length+1) 0],by rw[q2,List.getElem?_append_right (by omega)]; simp[opH],.cells (.cons ?_ .nil),fun h=>h⟩
   have:=Ren.ptr (ρ:=aM (fun o=>o) ([]:ae).length H.length) (n:=3) 1 0 (by decide)
   rw[q1] at this
   exact this
theorem Gr {xs ys:List PV} (h:WkL xs ys):∀(q:Nat) (y:PV),ys[q]?=some y→∃ x,xs[q]?=some x∧Wk x y:=by
 induction h with
 | nil=>intro q y h; simp at h
 | cons h _ ih=>
  intro q y hq
  cases q with
  | zero=>simp at hq; subst hq; exact⟨_,rfl,h⟩
  | succ q=>simpa using ih q y (by simpa using hq)
theorem HP {xs ys:List PV} (h:WkL xs ys):xs.length=ys.length:=by
 induction h with
 | nil=>rfl
 | cons _ _ ih=>simp[ih]
theorem HT {es es':List (List PV)} {t:Tail} (hw:WkL es.flatten es'.flatten) (hl:es.length=es'.length) (hu:∀ e∈es',∀ e'∈es',e.length=e'.length):Wk (.list es t) (.list es' .no):=by
 intro g w v h
 obtain⟨a,cap,rfl,h1,h2,_,h4⟩:=Rel.aS.1 h
 refine Rel.aS.2 ⟨a,cap,by rw[hl],hu,by omega,trivial,h4.imp (fun e=>?_) ?_⟩
 ·have:=HP hw
  rw[e] at this
  exact List.eq_nil_of_length_eq_zero this.symm
 ·rintro⟨A,ha,hn,hr⟩
  refine⟨A,ha,hn,fun q y hq=>?_⟩
  obtain⟨x,hx,hxy⟩:=Gr hw q y hq
  obtain⟨j1,c,j2,j3⟩:=hr q x hx
  exact⟨j1,c,j2,hxy _ _ _ j3⟩
def Dt (args:List PV) (H:ae) (K:PV→ae→Prop):Prop:=∃(l:List RwI) (most t v:Int),ah args [.ptr 0 0,.U t,.I v]∧bR H 0 (rkI l most)∧Ok l most∧K (.I (cV l most t v).2) (H.set 0 (.abs (rkI (cV l most t v).1 most)))
theorem GD:SpK 22 (.heap Dt):=by
 rintro args H K ⟨l,most,t,v,he,hb,ok,hk⟩
 have he:args=_:=he
 subst he
 exact sq _ H K ⟨l,most,t,v,rfl,hb,ok,hk⟩
def EE (args:List PV) (H:ae) (K:PV→ae→Prop):Prop:=∃(w:List Mt) (m id md ins:Int) (l:List Rr) (x:PV),ah args [.ptr 2 0,.U id,.I md,.U ins,x]∧Wk x (.list (l.map rrc) .no)∧cj H 2 1 (rkM (aq w) m)∧MO w m∧smR l∧K (.I (dB w m id md ins l).2) (H.set 1 (.abs (rkM (aq (dB w m id md ins l).1) m)))
theorem HM:SpK 24 (.heap EE):=by
 rintro args H K ⟨w,m,id,md,ins,l,x,he,hx,hb,ro,hl,hk⟩
 have he:args=_:=he
 subst he
 exact bc (.cons (.refl _) (.cons (.refl _) (.cons (.refl _) (.cons (.refl _) (.cons hx .nil))))) (yC _ H K ⟨2,1,w,m,id,md,ins,l,.no,rfl,hb,ro,hl,hk⟩)
def xO (args:List PV) (H:ae) (K:PV→ae→Prop):Prop:=∃(w:List Mt) (m p st un no:Int),ah args [.ptr 2 0,.U p,.I st,.I un,.int .u64 no]∧cj H 2 1 (rkM (aq w) m)∧MO w m∧K (.I (ec w p st un no).2) (H.set 1 (.abs (rkM (aq (ec w p st un no).1) m)))
theorem CS:SpK 26 (.heap xO):=fun args H K ⟨w,m,p,st,un,no,he,hb,ro,hk⟩=>Cp args H K ⟨2,1,w,m,p,st,un,no,he,hb,ro,hk⟩
def TAW:Tab:=[(20,.heap vL),(21,.heap vu),(22,.heap Dt),(24,.heap EE),(26,.heap xO),(10,.heap ou),(33,.read oL)]
theorem Kj:TbK TAW:= .cons ya (.cons xu (.cons GD (.cons HM (.cons CS (.cons zK (.cons oo (.nil _ _)))))))
theorem KS  : ∀(K:PV→Prop),(∃(n:Int),ah [.int .i64 4] [.int .i64 n]∧∃(n_1:Int),by refine(?_:_→Prop) (Ob.abs (rkM [] (mxI 0 n_1))); exact fun s=>ah [.int .i64 2] [.int .i64 n_1]∧∃(l:List RwI) (most:Int) (t:Int) (v:Int),ah [.ptr 0 0,.int .u32 1,.int .i64 1500] [.ptr 0 0,.int .u32 t,.int .i64 v]∧bR [.abs (rkI [] (mxI 0 n)),s,.cells [.ptr 1 0]] 0 (rkI l most)∧Ok l most∧∃(l_1:List RwI) (most_1:Int) (t_1:Int) (v_1:Int),by refine(?_:_→Prop) (rkI (Prod.fst (cV l_1 most_1 t_1 v_1)) most_1); exact fun o=>ah [.ptr 0 0,.int .u32 2,.int .i64 1500] [.ptr 0 0,.int .u32 t_1,.int .i64 v_1]∧bR [.abs (rkI (Prod.fst (cV l most t v)) most),s,.cells [.ptr 1 0]] 0 (rkI l_1 most_1)∧Ok l_1 most_1∧∃(w:List Mt) (m:Int) (id:Int) (md:Int) (ins:Int) (l:List Rr) (x:PV),ah [.ptr 2 0,.int .u32 9,.int .i64 0,.int .u32 3,.list [[PV.int .i64 1,.list [[PV.int .u32 1]] .exact,.int .i64 0,.int .i64 0],[.int .i64 2,.list [[PV.int .u32 2]] .exact,.int .i64 0,.int .i64 0]] .exact] [.ptr 2 0,.int .u32 id,.int .i64 md,.int .u32 ins,x]∧(∀(g:Gh),∀(w:World),∀(v:Value),Rel g w x v→Rel g w (.list (l.map rrc) .no) v)∧cj [.abs o,s,.cells [.ptr 1 0]] 2 1 (rkM (aq w) m)∧MO w m∧smR l∧∃(w_1:List Mt) (m_1:Int) (p:Int) (st:Int) (un:Int) (no:Int),ah [.ptr 2 0,.int .u32 1,.int .i64 2,.int .i64 0,.int .u64 0] [.ptr 2 0,.int .u32 p,.int .i64 st,.int .i64 un,.int .u64 no]∧cj [.abs o,.abs (rkM (aq (Prod.fst (dB w m id md ins l))) m),.cells [.ptr 1 0]] 2 1 (rkM (aq w_1) m_1)∧MO w_1 m_1∧∃(w_2:List Mt) (m_2:Int) (p_1:Int) (st_1:Int) (un_1:Int) (no_1:Int),by refine(?_:_→Prop) [Ob.abs o,.abs (rkM (aq (Prod.fst (ec w_2 p_1 st_1 un_1 no_1))) m_2),.cells [.ptr 1 0]]; exact fun k=>ah [.ptr 2 0,.int .u32 2,.int .i64 2,.int .i64 0,.int .u64 0] [.ptr 2 0,.int .u32 p_1,.int .i64 st_1,.int .i64 un_1,.int .u64 no_1]∧cj [.abs o,.abs (rkM (aq (Prod.fst (ec w_1 p st un no))) m_1),.cells [.ptr 1 0]] 2 1 (rkM (aq w_2) m_2)∧MO w_2 m_2∧∃(ra:List RwI) (mb:Int) (w_3:List Mt) (m_3:Int) (ins_1:Int) (id_1:Int) (r:Int),by refine(?_:_→Prop) (bZ ra mb w_3 ins_1 id_1 r); exact fun d=>by refine(?_:_→_→Prop) (Ob.cells [.int .u32 (Vd.m (Rp.v d)),.int .u32 (Vd.i (Rp.v d)),.int .i64 (Vd.r (Rp.v d)),.list (List.map u1 (Vd.ps (Rp.v d))) .no,.list (List.map i1 (Vd.old (Rp.v d))) .no,.list (List.map i1 (Vd.new (Rp.v d))) .no]) (Ob.cells [.int .u32 (Mt.id (Rp.c d)),.int .i64 (Mt.md (Rp.c d)),.int .u32 (Mt.ins (Rp.c d)),.list (List.map rrc (Mt.rows (Rp.c d))) .no,.list (List.map stc (Mt.aa (Rp.c d))) .no]); exact fun h j=>by refine(?_:_→Prop) [Ob.abs (rkI (Rp.ra d) mb),.abs (rkM (aq (Rp.w d)) m_3),.cells [.ptr 1 0],h,j]; exact fun f=>ah [.int .u32 3,.int .u32 9,.int .i64 1] [.int .u32 ins_1,.int .u32 id_1,.int .i64 r]∧bR k 0 (rkI ra mb)∧cj k 2 1 (rkM (aq w_3) m_3)∧0≠1∧Ok ra mb∧MO w_3 m_3∧∃(ra_1:List RwI) (mb_1:Int) (w_4:List Mt) (m_4:Int) (ins_2:Int) (id_2:Int) (r_1:Int),by refine(?_:_→Prop) (bZ ra_1 mb_1 w_4 ins_2 id_2 r_1); exact fun b=>by refine(?_:_→Prop) [Ob.abs (rkI (Rp.ra b) mb_1),.abs (rkM (aq (Rp.w b)) m_4),.cells [.ptr 1 0],h,j,.cells [.int .u32 (Vd.m (Rp.v b)),.int .u32 (Vd.i (Rp.v b)),.int .i64 (Vd.r (Rp.v b)),.list (List.map u1 (Vd.ps (Rp.v b))) .no,.list (List.map i1 (Vd.old (Rp.v b))) .no,.list (List.map i1 (Vd.new (Rp.v b))) .no],.cells [.int .u32 (Mt.id (Rp.c b)),.int .i64 (Mt.md (Rp.c b)),.int .u32 (Mt.ins (Rp.c b)),.list (List.map rrc (Mt.rows (Rp.c b))) .no,.list (List.map stc (Mt.aa (Rp.c b))) .no]]; exact fun a=>ah [.int .u32 3,.int .u32 9,.int .i64 1] [.int .u32 ins_2,.int .u32 id_2,.int .i64 r_1]∧bR f 0 (rkI ra_1 mb_1)∧cj f 2 1 (rkM (aq w_4) m_4)∧0≠1∧Ok ra_1 mb_1∧MO w_4 m_4∧∃(q:Nat) (l_2:List RwI) (most:Int) (t:Int),ah [.ptr 0 0,.int .u32 1] [.ptr q 0,.int .u32 t]∧bR a q (rkI l_2 most)∧Ok l_2 most∧∃(q:Nat) (l_3:List RwI) (most:Int) (t_2:Int),ah [.ptr 0 0,.int .u32 2] [.ptr q 0,.int .u32 t_2]∧bR a q (rkI l_3 most)∧Ok l_3 most∧br ((Prod.snd (dB w m id md ins l) == 0) == true) (br ((Rp.e d == 0) == true) (br ((Rp.e b == 12) == true) (br ((bD l_2 t == 1516) == true) (K (.bool (bD l_3 t_2 == 1484))) (K (.bool false))) (K (.bool false))) (K (.bool false))) (K (.bool false)))→AcK 14 [] [] (fun x _=>K x):=fun K h=>acW (T:=TAW) (L:=[]) (fun _=>0) Tryz.func14 (Kj) (LOk.nil _ _ _ _ _) h
def wR (t:Int) (l:List Int):Rr:=⟨t,l,0,0⟩
def ba1:List RwI:=(cV [] 4 1 1500).1
def ba2:List RwI:=(cV ba1 4 2 1500).1
def wk1:List Mt:=(dB [] 2 9 0 3 [wR 1 [1],wR 2 [2]]).1
def wk2:List Mt:=(ec wk1 1 2 0 0).1
def wk3:List Mt:=(ec wk2 2 2 0 0).1
def wp1:Rp:=bZ ba2 4 wk3 3 9 1
def wp2:Rp:=bZ wp1.ra 4 wp1.w 3 9 1
theorem Fl:Ok ([]:List RwI) 4:=Ok.none (by decide) (by decide)
theorem B8:Ok ba1 4:=Fl.put _ _
theorem Fb:Ok ba2 4:=B8.put _ _
theorem AC:MO [] 2:=MO.nil (by decide) (by decide)
theorem Cm:MO wk1 2:=AC.make _ _ _ _
theorem Cv:MO wk2 2:=Cm.set _ _ _ _
theorem Dn:MO wk3 2:=Cv.set _ _ _ _
theorem rL:Ok wp1.ra 4∧MO wp1.w 2:=oA Fb Dn _ _ _
theorem D6:Ok wp2.ra 4∧MO wp2.w 2:=oA rL.1 rL.2 _ _ _
theorem K7 {l:List Rr} (h:(decide (l.length≤100) && l.all fun r=>decide (r.pl.length≤100))=true):smR l:=by
 rw[Bool.and_eq_true,decide_eq_true_eq,List.all_eq_true] at h
 exact⟨h.1,fun r hr=>of_decide_eq_true (h.2 r hr)⟩
theorem M5 {l:List Int} {t:Tail}:Wk (.list (l.map u1) t) (.list (l.map u1) .no):= .list _ _
theorem vV:AcK 14 [] [] (fun x _=>x = .bool true):=by
 refine KS (fun x=>x = .bool true) ⟨4,rfl,2,rfl,[],4,1,1500,rfl,rfl,Fl,ba1,4,2,1500,rfl,rfl,B8,[],2,9,0,3,[wR 1 [1],wR 2 [2]],_,rfl,HT (es':=[wR 1 [1],wR 2 [2]].map rrc) (.cons (.refl _) (.cons (M5 (l:=[1])) (.cons (.refl _) (.cons (.refl _) (.cons (.refl _) (.cons (M5 (l:=[2])) (.cons (.refl _) (.cons (.refl _) .nil)))))))) rfl (by decide),⟨rfl,rfl⟩,AC,K7 (by decide),
  wk1,2,1,2,0,0,rfl,⟨rfl,rfl⟩,Cm,wk2,2,2,2,0,0,rfl,⟨rfl,rfl⟩,Cv,ba2,4,wk3,2,3,9,1,rfl,rfl,⟨rfl,rfl⟩,by decide,Fb,Dn,wp1.ra,4,wp1.w,2,3,9,1,rfl,rfl,⟨rfl,rfl⟩,by decide,rL.1,rL.2,0,wp2.ra,4,1,rfl,rfl,D6.1,0,wp2.ra,4,2,rfl,rfl,D6.1,?_⟩
 simp only[au]
 rw[if_pos (by kernel_rfl),if_pos (by kernel_rfl),if_pos (by kernel_rfl),if_pos (by kernel_rfl)]
 kernel_rfl
def x7 (args:List PV) (K:PV→Prop):Prop:=ah args []∧K (.bool true)
theorem BR:SpK 14 (.pure x7):=by
 rintro args K ⟨he,hk⟩
 have he:args=_:=he
 subst he
 exact bB aj .nil (fun _ h=>nomatch h) (.bool _) vV hk
theorem v5 (w:List RwI) (m:Int) (t b:Int) (i:Nat):(by refine(?_:_→_→_→_→Prop) (List.drop 0 (List.getD (w.map csI) (Int.toNat (i:Int)) [])) [Ob.cells [.list (w.map csI) .no,.I m]] [PV.U t,.ptr 0 0,.U 0,.bool false,.U b,.I i] (PV.I (wI ((i:Int)+1))); exact fun d f g h=>∀(R:Ex→List PV→ae→Prop),by refine(?_:_→_→Prop) (R .normal [.U t,.ptr 0 0,.U 0,.bool false,.U (cI d 0),h] f) (R .normal [.U t,.ptr 0 0,.U 0,.bool false,.U b,h] f); exact fun a c=>(br (decide ((i:Int)<(↑(List.length (w.map csI)):Int))) (InL (w.map csI) 2 (i:Int)∧br (true && aE [.int .u32] 0 d) (br (decide (cI d 0>t) == true) (br ((b == 0) == false) (br (decide (cI d 0<b)) a c) a) c) False) (R (.exit 0) g f))→Holds (wpK [] [] (fun _=>0) (ai [1,1,0,1,0] (ag Tryz.f66)) [] (ak [1,2,4,5,6,7] g) f (fun ex e H=>R ex (List.map e [1,2,4,5,6,7]) H)):Prop):=fun R h=>hoE h
theorem ww (w:List RwI) (m:Int) (t:Int):(by refine(?_:_→Prop) [PV.agg [.list (w.map csI) .no,.I m],.U t]; exact fun b=>∀(K:PV→Prop),(∃(w_1:List RwI) (m_1:Int) (t_1:Int),by refine(?_:_→Prop) (List.drop 1 (List.getD (w.map csI) (Int.toNat (iG w_1 t_1)) [])); exact fun a=>ah b [.agg [.list (w_1.map csI) .no,.I m_1],.U t_1]∧w_1.length≤1000000∧br (decide (iG w_1 t_1<0)) (K (.tup [.I 0,.bool false])) (InL (w.map csI) 2 (iG w_1 t_1)∧br (true && aE [.int .i64] 0 a) (K (.tup [.I (cI a 0),.bool true])) False))→AcK 34 b [] (fun x _=>K x):Prop):=fun K h=>acW (T:=LB) (L:=[]) (fun _=>0) Tryz.func34 (ym) (LOk.nil _ _ _ _ _) h
theorem vx (v:Int) (b:Bool):Low 0 (.tup [.I v,.bool b]):= .tup _ (by intro y hy; simp only[List.mem_cons,List.not_mem_nil,or_false] at hy; rcases hy with rfl|rfl; exact .int _ _; exact .bool _)
def oN (args:List PV) (K:PV→Prop):Prop:=∃(w:List RwI) (m t:Int),ah args [.agg [.list (w.map csI) .no,.I m],.U t]∧w.length≤1000000∧K (.tup [.I (eZ w t),.bool (eK w t)])
theorem qT:SpK 34 (.pure oN):=by
 rintro args K ⟨w,m,t,he,hl,hk⟩
 have he:args=_:=he
 subst he
 refine ck aj (nt w m t) (vx _ _) (ww w m t (fun x=>x = .tup [.I (eZ w t),.bool (eK w t)]) ⟨w,m,t,rfl,hl,?_⟩) hk
 rw[au,nB]
 unfold eZ
 by_cases c:fiW w t<w.length
 ·have hh:eK w t=true:=decide_eq_true c
  rw[hh,if_neg (by decide),if_pos c]
  have e:iG w t=(fiW w t:Int):=by unfold iG; rw[if_pos c]
  rw[e,iO,an,getD_map default c]
  refine⟨c,?_⟩
  rw[au,if_pos (by rfl)]
  rfl
 ·have hh:eK w t=false:=decide_eq_false c
  rw[hh,if_pos (by decide),if_neg c]
  rfl
def qP:LSp:=fun e H Q=>∃(w:List RwI) (m t:Int),w.length≤1000000∧ah (List.map e [1,2,4,5,6,7]) [.U t,.ptr 0 0,.U 0,.bool false,.U 0,.I 0]∧av H [.cells [.list (w.map csI) .no,.I m]]∧
 Q (.exit 0) (ak [1,2,4,5,6,7] [.U t,.ptr 0 0,.U 0,.bool false,.U (cy w t),.I w.length]) [.cells [.list (w.map csI) .no,.I m]]
theorem su:∀ e H Q,qP e H Q→AwK Tryz.f66.ntmps (.loop (ai [1,1,0,1,0] (ag Tryz.f66))) Q e H:=by
 rintro e H Q ⟨w,m,t,hl,he,hH,hx⟩
 refine aB (hn:=fun _=>0) aj (.nil _ _) (.nil _ _ _ _ _) (σ:=Nat) [1,2,4,5,6,7] (fun i=>i≤w.length)
  (fun i=>[.U t,.ptr 0 0,.U 0,.bool false,.U (cy (w.take i) t),.I i]) (fun _=>[.cells [.list (w.map csI) .no,.I m]]) (fun i=>w.length-i) 0 (Nat.zero_le _) he hH ?_
 intro i hi
 refine v5 w m t _ i _ ?_
 simp only[au,dt,bt,bf,List.length_map]
 by_cases h:i<w.length
 ·rw[if_pos (by omega),iO,an,getD_map default h]
  refine⟨h,?_⟩
  rw[if_pos (by rfl),List.drop_zero]
  have hc:cI (csI (w.getD i default)) 0=(w.getD i default).id:=rfl
  rw[hc]
  have hs:cy (w.take (i+1)) t=ek t (cy (w.take i) t) (w.getD i default):=by
   unfold cy; rw[aI default h,List.foldl_append]; rfl
  have fin:∀ b,b=cy (w.take (i+1)) t→BN Q [1,2,4,5,6,7] (fun i=>i≤w.length) (fun i=>[.U t,.ptr 0 0,.U 0,.bool false,.U (cy (w.take i) t),.I i]) (fun _=>[.cells [.list (w.map csI) .no,.I m]]) (fun i=>w.length-i) i .normal [.U t,.ptr 0 0,.U 0,.bool false,.U b,.I (wI ((i:Int)+1))] [.cells [.list (w.map csI) .no,.I m]]:=by
   rintro b rfl
   exact⟨i+1,(show w.length-(i+1)<w.length-i by omega),h,by rw[ar h (by omega)],[],rfl,Nat.le_refl _,.inl rfl⟩
  rw[hs] at fin
  unfold ek at fin
  by_cases c:(w.getD i default).id>t
  ·rw[if_pos c] at fin
   rw[if_pos c]
   by_cases c2:cy (w.take i) t=0
   ·rw[if_pos c2] at fin
    rw[if_neg (by simpa using c2)]
    exact fin _ rfl
   ·rw[if_neg c2] at fin
    rw[if_pos (by simpa using c2)]
    by_cases c3:(w.getD i default).id<cy (w.take i) t
    ·rw[if_pos c3] at fin
     rw[if_pos c3]
     exact fin _ rfl
    ·rw[if_neg c3] at fin
     rw[if_neg c3]
     exact fin _ rfl
  ·rw[if_neg c] at fin
   rw[if_neg c]
   exact fin _ rfl
 ·rw[if_neg (by omega)]
  have hi':i≤w.length:=hi
  have:i=w.length:=by omega
  subst this
  rw[List.take_length]
  exact hx
theorem tu (w:List RwI) (m:Int) (t:Int)  (K:PV→Prop) (h:∃(w_1:List RwI) (m_1:Int) (t_1:Int),List.length w_1≤1000000∧ah [.U t,.ptr 0 0,.U 0,.bool false,.U 0,.I 0] [.U t_1,.ptr 0 0,.U 0,.bool false,.U 0,.I 0]∧av [.cells [.list (List.map csI w) .no,.I m]] [.cells [.list (List.map csI w_1) .no,.I m_1]]∧K (.tup [.U (cy w_1 t_1),.bool (cy w_1 t_1 != 0)])):AcK 66 [.agg [.list (w.map csI) .no,.I m],.U t] [] (fun x _=>K x):=
 acW (T:=[]) (L:=[([1,1,0,1,0],qP)]) (fun _=>0) Tryz.func66 (aW.nil _ _) (.cons suE su (.nil _ _ _ _ _)) h
def qv (args:List PV) (K:PV→Prop):Prop:=∃(w:List RwI) (m t:Int),ah args [.agg [.list (w.map csI) .no,.I m],.U t]∧w.length≤1000000∧K (.tup [.U (cy w t),.bool (cy w t != 0)])
theorem vI:SpK 66 (.pure qv):=by
 rintro args K ⟨w,m,t,he,hl,hk⟩
 have he:args=_:=he
 subst he
 exact ck aj (by intro x hx; simp only[List.mem_cons,List.not_mem_nil,or_false] at hx; rcases hx with rfl|rfl; exact cK w m; exact .int _ _) (.tup _ (by intro y hy; simp only[List.mem_cons,List.not_mem_nil,or_false] at hy; rcases hy with rfl|rfl; exact .int _ _; exact .bool _)) (tu w m t (fun x=>x = .tup [.U (cy w t),.bool (cy w t != 0)]) ⟨w,m,t,hl,rfl,rfl,rfl⟩) hk
def xx:Tab:=[(66,.pure qv)]
theorem ux:TbK xx:= .cons vI (.nil _ _)
theorem uV (w:List RwI) (m:Int) (x:Int) (b:Bool):(by refine(?_:_→_→Prop) [PV.list (w.map csI) .no,.I m] [PV.ptr 0 0,.E,.U x,.bool b]; exact fun a c=>∀(R:Ex→List PV→ae→Prop),(br b (aG [] [[PV.U x]] 1 4∧(List.all [.U x] PV.one=true∧[[PV.U x]]≠[])∧∃(w_1:List RwI) (m_1:Int) (t:Int),ah [.agg a,.U x] [.agg [.list (w_1.map csI) .no,.I m_1],.U t]∧w_1.length≤1000000∧R .normal [.ptr 0 0,.list [[PV.U x]] (.tok 1),.U (cy w_1 t),.bool (cy w_1 t != 0)] [.cells a,.tok]) (R (.exit 0) c [.cells a]))→Holds (wpK xx [] (fun o=>match o.dst with|some 15=>1|_=>0) (ai [1,1,1,0,0] (ag Tryz.f28)) [] (ak [1,3,4,5] c) [.cells a] (fun ex e H=>R ex (List.map e [1,3,4,5]) H)):Prop):=fun R h=>hoE h
theorem u9 (w:List RwI) (m:Int) (es:List (List PV)) (x:Int) (b:Bool):(by refine(?_:_→_→Prop) [PV.list (w.map csI) .no,.I m] [PV.ptr 0 0,.list es (.tok 1),.U x,.bool b]; exact fun a c=>∀(R:Ex→List PV→ae→Prop),(br b (aG es [[PV.U x]] 1 4∧(List.all [.U x] PV.one=true∧[[PV.U x]]≠[])∧∃(w_1:List RwI) (m_1:Int) (t:Int),ah [.agg a,.U x] [.agg [.list (w_1.map csI) .no,.I m_1],.U t]∧w_1.length≤1000000∧R .normal [.ptr 0 0,.list (es++[[PV.U x]]) (.tok 2),.U (cy w_1 t),.bool (cy w_1 t != 0)] [.cells a,.dead,.tok]) (R (.exit 0) c [.cells a,.tok]))→Holds (wpK xx [] (fun o=>match o.dst with|some 15=>1|_=>0) (ai [1,1,1,0,0] (ag Tryz.f28)) [] (ak [1,3,4,5] c) [.cells a,.tok] (fun ex e H=>R ex (List.map e [1,3,4,5]) H)):Prop):=fun R h=>hoE h
theorem nD {l:List RwI} {i:Nat} (h:i<l.length):(l.take (i+1)).map (fun r:RwI=>[PV.U r.id])=(l.take i).map (fun r:RwI=>[PV.U r.id])++[[.U (hY l i)]]:=by
 have:=mC h
 unfold bS at this
 rw[this]
 unfold hY
 rw[if_pos h]
theorem pO {l w:List RwI} {most:Int} (h:cF l w most):w.length≤1000000:=by rw[h.len]; exact h.ok.len
def s7:LSp:=fun e H Q=>∃(l w:List RwI) (m most:Int),cF l w most∧ah (List.map e [1,3,4,5]) [.ptr 0 0,.E,.U (cy w 0),.bool (cy w 0 != 0)]∧av H [.cells [.list (w.map csI) .no,.I m]]∧
 Q (.exit 0) (ak [1,3,4,5] [.ptr 0 0,.list (bS l) .no,.U 0,.bool false]) [.cells [.list (w.map csI) .no,.I m],.dead]
theorem uE:∀ e H Q,s7 e H Q→AwK Tryz.f28.ntmps (.loop (ai [1,1,1,0,0] (ag Tryz.f28))) Q e H:=by
 rintro e H Q ⟨l,w,m,most,lk,he,hH,hQ⟩
 have hH2:H=_:=hH
 have hwl:=pO lk
 have hll:=lk.ok.len
 have hnx:∀ k,k<l.length→cy w (hY l k)=hY l (k+1):=fun k hk=>lk.atS hk
 refine sF (f:=fun r:RwI=>[PV.U r.id]) (T:=l) (hn:=fun o=>match o.dst with|some 15=>1|_=>0) aj ux (.nil _ _ _ _ _) [1,3,4,5] (fun r i=>[.ptr 0 0,r,.U (hY l i),.bool (decide (i<l.length))]) [.cells [.list (w.map csI) .no,.I m]]
  (by intro o cs ho; have:o=0:=by { have:=(List.getElem?_eq_some_iff.1 ho).1; simp at this; omega }; subst this; cases ho; exact fM w m) (fun b _ x hx=>by rcases List.mem_singleton.1 hx with rfl; exact .int _ _)
  (fun es i k h=> .same (.ptr _ _ (by simp)) (.row h (.same (.int _ _) (.same (.bool _) .nil)))) (by rw[he,← lk.at0,← oO lk,lk.at0]) hH2 ?_ ?_
 ·refine uV w m _ _ _ ?_
  simp only[au]
  by_cases h:0<l.length
  ·rw[if_pos (decide_eq_true h)]
   refine⟨⟨(by intro e he; simp at he),(by intro e he; simp at he; subst he; rfl),by simp⟩,⟨by rfl,by simp⟩,w,m,hY l 0,rfl,hwl,h,_,1,rfl,rfl,by simp,?_⟩
   rw[hnx 0 h,oO lk,nD h]; rfl
  ·rw[if_neg (by simpa using h)]
   have hm:l=[]:=List.eq_nil_of_length_eq_zero (by omega)
   subst hm
   exact⟨_,_,.cons (.refl _) (.cons (.list _ _) (.cons (.refl _) (.cons (.refl _) .nil))),dN _,hQ⟩
 ·intro i h0 hi
  refine u9 w m _ _ _ _ ?_
  simp only[au]
  by_cases h:i<l.length
  ·rw[if_pos (decide_eq_true h)]
   refine⟨⟨(by intro e he; obtain⟨a,_,rfl⟩:=List.mem_map.1 he; rfl),(by intro e he; simp at he; subst he; rfl),by simp only[List.length_map,List.length_take,List.length_cons,List.length_nil]; omega⟩,⟨by rfl,by simp⟩,w,m,hY l i,rfl,hwl,h,_,2,rfl,rfl,by simp,?_⟩
   rw[hnx i h,oO lk,nD h]
  ·rw[if_neg (by simpa using h)]
   have hm:i=l.length:=by omega
   subst hm
   rw[List.take_length]
   have e1:hY l l.length=0:=by unfold hY; rw[if_neg (Nat.lt_irrefl _)]
   rw[e1,decide_eq_false (Nat.lt_irrefl _)]
   exact⟨_,_,.cons (.refl _) (.cons (.list _ _) (.cons (.refl _) (.cons (.refl _) .nil))),ej [.cells [.list (w.map csI) .no,.I m]] .tok,hQ⟩
theorem vX (w:List RwI) (m:Int):(by refine(?_:_→Prop) [PV.list (w.map csI) .no,.I m]; exact fun a=>∀(K:PV→Prop),(∃(w_1:List RwI) (m_1:Int) (t:Int),ah [.agg a,.U 0] [.agg [.list (w_1.map csI) .no,.I m_1],.U t]∧w_1.length≤1000000∧∃(l:List RwI) (w_2:List RwI) (m_2:Int) (most:Int),cF l w_2 most∧ah [.ptr 0 0,.E,.U (cy w_1 t),.bool (cy w_1 t != 0)] [.ptr 0 0,.E,.U (cy w_2 0),.bool (cy w_2 0 != 0)]∧av [.cells a] [.cells [.list (w_2.map csI) .no,.I m_2]]∧K (.list (bS l) .no))→AcK 28 [.agg a] [] (fun x _=>K x):Prop):=fun K h=>acW (T:=xx) (L:=[([1,1,1,0,0],s7)]) (fun o=>match o.dst with|some 15=>1|_=>0) Tryz.func28 (ux) (.cons suE uE (.nil _ _ _ _ _)) h
theorem r7 (w:List RwI) (m:Int):∀ x∈[PV.agg [.list (w.map csI) .no,.I m]],Low 0 x:=by
 intro x hx
 rcases List.mem_singleton.1 hx with rfl
 exact cK w m
def uR (args:List PV) (K:PV→Prop):Prop:=∃(l w:List RwI) (m most:Int),ah args [.agg [.list (w.map csI) .no,.I m]]∧cF l w most∧K (.list (bS l) .no)
theorem yX:SpK 28 (.pure uR):=by
 rintro args K ⟨l,w,m,most,he,lk,hk⟩
 have he:args=_:=he
 subst he
 exact ck aj (r7 w m) (uh l) (vX w m (fun x=>x = .list (bS l) .no) ⟨w,m,0,rfl,pO lk,l,w,m,most,lk,rfl,rfl,rfl⟩) hk
theorem Kf (c:Mt) (k:Int) (i:Nat):(by refine(?_:_→_→_→_→Prop) (List.getD (c.aa.map stc) (Int.toNat (i:Int)) []) (Ob.cells [.U c.id,.I c.md,.U c.ins,.list (c.rows.map rrc) .no,.list (c.aa.map stc) .no]) [PV.I k,.ptr 0 0,.E,.I i] (PV.I (wI ((i:Int)+1))); exact fun d f h l=>by refine(?_:_→_→Prop) [[PV.U (cI d 0)]] (PV.U (cI d 0)); exact fun j m=>by refine(?_:_→Prop) (Ob.cells [m,.I (cI d 1),.I (cI d 2),.I (cI d 3),.I (cI d 4),.int .u64 (cI d 5)]); exact fun g=>∀(R:Ex→List PV→ae→Prop),by refine(?_:_→_→Prop) (aG [] j 1 4∧(List.all [m] PV.one=true∧j≠[])∧R .normal [.I k,.ptr 0 0,.list j (.tok 2),l] [f,g,.tok]) (R .normal [.I k,.ptr 0 0,.E,l] [f,g]); exact fun a b=>(br (decide ((i:Int)<(↑(List.length (c.aa.map stc)):Int))) (InL (c.aa.map stc) 6 (i:Int)∧br (true && aE [.int .u32,.int .i64,.int .i64,.int .i64,.int .i64,.int .u64] 0 d) (br ((cI d 1 == k) == true) (br ((cI d 3 == 2) == false) (br (cI d 3 == 3) a b) a) b) False) (R (.exit 0) h [f]))→Holds (wpK [] [] (fun o=>match o.dst with|some 38=>1|_=>0) (ai [1,1,0,1,0] (ag Tryz.f46)) [] (ak [1,2,5,6] h) [.cells (mtc c)] (fun ex e H=>R ex (List.map e [1,2,5,6]) H)):Prop):=fun R h=>hoE h
theorem La (c:Mt) (k:Int) (es:List (List PV)) (i:Nat):(by refine(?_:_→_→_→_→Prop) (List.getD (c.aa.map stc) (Int.toNat (i:Int)) []) (Ob.cells [.U c.id,.I c.md,.U c.ins,.list (c.rows.map rrc) .no,.list (c.aa.map stc) .no]) [PV.I k,.ptr 0 0,.list es (.tok 1),.I i] (PV.I (wI ((i:Int)+1))); exact fun d f h l=>by refine(?_:_→_→Prop) [[PV.U (cI d 0)]] (PV.U (cI d 0)); exact fun j m=>by refine(?_:_→Prop) (Ob.cells [m,.I (cI d 1),.I (cI d 2),.I (cI d 3),.I (cI d 4),.int .u64 (cI d 5)]); exact fun g=>∀(R:Ex→List PV→ae→Prop),by refine(?_:_→_→Prop) (aG es j 1 4∧(List.all [m] PV.one=true∧j≠[])∧R .normal [.I k,.ptr 0 0,.list (es++j) (.tok 3),l] [f,.dead,g,.tok]) (R .normal [.I k,.ptr 0 0,.list es (.tok 1),l] [f,.tok,g]); exact fun a b=>(br (decide ((i:Int)<(↑(List.length (c.aa.map stc)):Int))) (InL (c.aa.map stc) 6 (i:Int)∧br (true && aE [.int .u32,.int .i64,.int .i64,.int .i64,.int .i64,.int .u64] 0 d) (br ((cI d 1 == k) == true) (br ((cI d 3 == 2) == false) (br (cI d 3 == 3) a b) a) b) False) (R (.exit 0) h [f,.tok]))→Holds (wpK [] [] (fun o=>match o.dst with|some 38=>1|_=>0) (ai [1,1,0,1,0] (ag Tryz.f46)) [] (ak [1,2,5,6] h) [.cells (mtc c),.tok] (fun ex e H=>R ex (List.map e [1,2,5,6]) H)):Prop):=fun R h=>hoE h
def TRR:Tab:=[(34,.pure oN)]
theorem E2:TbK TRR:= .cons qT (.nil _ _)
theorem Mm (w:List RwI) (m:Int) (l:List Int) (i:Nat):(by refine(?_:_→_→_→Prop) [PV.list (l.map u1) .no,.ptr 0 0,.E,.bool false,.E,.I i] [PV.list (w.map csI) .no,.I m] (List.getD (l.map u1) (Int.toNat (i:Int)) []); exact fun b c d=>∀(R:Ex→List PV→ae→Prop),(br (decide ((i:Int)<(↑(List.length (l.map u1)):Int))) (InL (l.map u1) 1 (i:Int)∧br (true && aE [.int .u32] 0 d) (∃(w_1:List RwI) (m_1:Int) (t:Int),by refine(?_:_→Prop) [[PV.I (eZ w_1 t)]]; exact fun a=>ah [.agg c,.U (cI d 0)] [.agg [.list (w_1.map csI) .no,.I m_1],.U t]∧w_1.length≤1000000∧br (!eK w_1 t) (R .ret b [.cells c]) (aG [] a 1 8∧(List.all [.I (eZ w_1 t)] PV.one=true∧a≠[])∧R .normal [.list (l.map u1) .no,.ptr 0 0,.E,.bool false,.list a (.tok 1),.I (wI ((i:Int)+1))] [.cells c,.tok])) False) (R (.exit 0) b [.cells c]))→Holds (wpK TRR [] (fun o=>match o.dst with|some 30=>1|_=>0) (ai [1,1,0,1,0] (ag Tryz.f47)) [] (ak [1,2,4,5,6,7] b) [.cells c] (fun ex e H=>R ex (List.map e [1,2,4,5,6,7]) H)):Prop):=fun R h=>hoE h
theorem JY (w:List RwI) (m:Int) (l:List Int) (es:List (List PV)) (i:Nat):(by refine(?_:_→_→_→Prop) [PV.list (l.map u1) .no,.ptr 0 0,.E,.bool false,.list es (.tok 1),.I i] [PV.list (w.map csI) .no,.I m] (List.getD (l.map u1) (Int.toNat (i:Int)) []); exact fun b c d=>∀(R:Ex→List PV→ae→Prop),(br (decide ((i:Int)<(↑(List.length (l.map u1)):Int))) (InL (l.map u1) 1 (i:Int)∧br (true && aE [.int .u32] 0 d) (∃(w_1:List RwI) (m_1:Int) (t:Int),by refine(?_:_→Prop) [[PV.I (eZ w_1 t)]]; exact fun a=>ah [.agg c,.U (cI d 0)] [.agg [.list (w_1.map csI) .no,.I m_1],.U t]∧w_1.length≤1000000∧br (!eK w_1 t) (R .ret b [.cells c,.tok]) (aG es a 1 8∧(List.all [.I (eZ w_1 t)] PV.one=true∧a≠[])∧R .normal [.list (l.map u1) .no,.ptr 0 0,.E,.bool false,.list (es++a) (.tok 2),.I (wI ((i:Int)+1))] [.cells c,.dead,.tok])) False) (R (.exit 0) b [.cells c,.tok]))→Holds (wpK TRR [] (fun o=>match o.dst with|some 30=>1|_=>0) (ai [1,1,0,1,0] (ag Tryz.f47)) [] (ak [1,2,4,5,6,7] b) [.cells c,.tok] (fun ex e H=>R ex (List.map e [1,2,4,5,6,7]) H)):Prop):=fun R h=>hoE h
theorem E4 {a b c:Bool} {X Y:Prop} (hx:(a && (b || c))=true→X) (hy:(a && (b || c))=false→Y):if(a == true)=true then(if(b == false)=true then(if c=true then X else Y) else X) else Y:=by
 cases a<;>cases b<;>cases c<;>first|exact hx rfl|exact hy rfl
theorem G9 {c:Mt}:∀(o:Nat) cs,([.cells (mtc c)]:ae)[o]?=some (.cells cs)→∀ x∈cs,Low 1 x:=lM (by intro ob ho; rcases List.mem_singleton.1 ho with rfl; exact ii c)
theorem KY {k i:Int}:∀ v∈[.I k,.ptr 0 0,.E,.I i],Low 1 v:=by
 intro v hv
 simp only[List.mem_cons,List.not_mem_nil,or_false] at hv
 rcases hv with rfl|rfl|rfl|rfl
 ·exact .int _ _
 ·exact .ptr _ _ (by decide)
 ·exact mU
 ·exact .int _ _
def Mn:LSp:=fun e H Q=>∃(c:Mt) (k:Int),c.aa.length≤1000000∧ah (List.map e [1,2,5,6]) [.I k,.ptr 0 0,.E,.I 0]∧av H [.cells (mtc c)]∧Q (.exit 0) (ak [1,2,5,6] [.I k,.ptr 0 0,.list ((a8 c.aa k).map pu1) .no,.I c.aa.length]) [.cells (mtc c),.dead]
theorem HN:∀ e H Q,Mn e H Q→AwK Tryz.f46.ntmps (.loop (ai [1,1,0,1,0] (ag Tryz.f46))) Q e H:=by
 rintro e H Q ⟨c,k,hl,he,hH,hQ⟩
 have hH:H=_:=hH
 refine fJ (f:=pu1) (acc:=fun i=>a8 (c.aa.take i) k) (I:=fun i=>i≤c.aa.length) (m:=fun i=>c.aa.length-i) (hn:=fun o=>match o.dst with|some 38=>1|_=>0) aj (.nil _ _) (.nil _ _ _ _ _) [1,2,5,6] (fun T i=>[.I k,.ptr 0 0,T,.I i]) [.cells (mtc c)] (0:Nat)
  G9 (fun _ _ a _=>ot a) (fun es i j _ h=> .same (.int _ _) (.same (.ptr _ _ (by simp)) (.row h (.same (.int _ _) .nil)))) (fun _ _=>KY) (Nat.zero_le _) rfl he hH ?_ ?_
 all_goals
  intro i hi ha
  have hi':i≤c.aa.length:=hi
  have hle:(a8 (c.aa.take i) k).length≤i:=fP _ _ _
 ·refine Kf c k i _ ?_
  simp only[au,dt,an,List.length_map,nX]
  by_cases h:i<c.aa.length
  ·rw[if_pos (by omega)]
   obtain⟨s,hsd⟩:∃ s,s=c.aa.getD i default:=⟨_,rfl⟩
   have hs:a8 (c.aa.take (i+1)) k=a8 (c.aa.take i) k++(if gG k s=true then [s] else []):=by rw[hsd]; exact gw default h
   simp only[getD_map default h,← hsd,ct0,ct1,ct3]
   refine⟨h,?_⟩
   rw[if_pos (by rfl)]
   refine E4 (fun hc=>?_) (fun hc=>?_)
   ·rw[if_pos (show gG k s=true from hc)] at hs
    exact⟨aF (f:=pu1) (l:=[]) (by_:=4) (fun _=>rfl) s (by show(0+1)*4≤_; decide),one_row (f:=pu1) (fun _=>dm _) s,aV (i+1) (show c.aa.length-(i+1)<c.aa.length-i by omega) h hs (jP _ _) [_,.tok] 2 rfl rfl (by simp) (by rw[ha,ar h (by omega)]; rfl)⟩
   ·rw[if_neg (by rw[show gG k s=false from hc]; decide),List.append_nil] at hs
    exact ie (i+1) (show c.aa.length-(i+1)<c.aa.length-i by omega) h (hs.trans ha) [_] rfl (by rw[ar h (by omega)])
  ·rw[if_neg (by omega)]
   have:i=c.aa.length:=by omega
   subst this
   simp only[List.take_length] at ha
   rw[ha] at hQ
   exact bN (.cons (.refl _) (.cons (.refl _) (.cons (.list _ _) (.cons (.refl _) .nil)))) (dN _) hQ
 ·refine La c k ((a8 (c.aa.take i) k).map pu1) i _ ?_
  simp only[au,dt,an,List.length_map,nX]
  by_cases h:i<c.aa.length
  ·rw[if_pos (by omega)]
   obtain⟨s,hsd⟩:∃ s,s=c.aa.getD i default:=⟨_,rfl⟩
   have hs:a8 (c.aa.take (i+1)) k=a8 (c.aa.take i) k++(if gG k s=true then [s] else []):=by rw[hsd]; exact gw default h
   simp only[getD_map default h,← hsd,ct0,ct1,ct3]
   refine⟨h,?_⟩
   rw[if_pos (by rfl)]
   refine E4 (fun hc=>?_) (fun hc=>?_)
   ·rw[if_pos (show gG k s=true from hc)] at hs
    exact⟨aF (f:=pu1) (by_:=4) (fun _=>rfl) (a8 (c.aa.take i) k) s (by omega),one_row (f:=pu1) (fun _=>dm _) s,aV (i+1) (show c.aa.length-(i+1)<c.aa.length-i by omega) h hs (jP _ _) [.dead,_,.tok] 3 rfl rfl (by simp) (by rw[ar h (by omega),List.map_append]; rfl)⟩
   ·rw[if_neg (by rw[show gG k s=false from hc]; decide),List.append_nil] at hs
    exact aV (i+1) (show c.aa.length-(i+1)<c.aa.length-i by omega) h hs ha [.tok,_] 1 rfl rfl (by simp) (by rw[ar h (by omega)])
  ·rw[if_neg (by omega)]
   have:i=c.aa.length:=by omega
   subst this
   simp only[List.take_length]
   exact bN (.cons (.refl _) (.cons (.refl _) (.cons (.list _ _) (.cons (.refl _) .nil)))) (ej [.cells (mtc c)] .tok) hQ
theorem L5 {l:List Int} {i:Int}:∀ v∈[.list (l.map u1) .no,.ptr 0 0,.E,.bool false,.E,.I i],Low 1 v:=by
 intro v hv
 simp only[List.mem_cons,List.not_mem_nil,or_false] at hv
 rcases hv with rfl|rfl|rfl|rfl|rfl|rfl
 ·exact bp bL _
 ·exact .ptr _ _ (by decide)
 ·exact mU
 ·exact .bool _
 ·exact mU
 ·exact .int _ _
def MH:LSp:=fun e H Q=>∃(w:List RwI) (m:Int) (l:List Int),l.length≤1000000∧w.length≤1000000∧ah (List.map e [1,2,4,5,6,7]) [.list (l.map u1) .no,.ptr 0 0,.E,.bool false,.E,.I 0]∧av H [.cells [.list (w.map csI) .no,.I m]]∧((∀ p∈l,eK w p=true)→Q (.exit 0) (ak [1,2,4,5,6,7] [.list (l.map u1) .no,.ptr 0 0,.E,.bool false,.list ((l.map (eZ w)).map i1) .no,.I l.length]) ([.cells [.list (w.map csI) .no,.I m]]++[.dead]))∧(¬ (∀ p∈l,eK w p=true)→∀(es:List (List PV)) (i:Int),Q .ret (ak [1,2,4,5,6,7] [.list (l.map u1) .no,.ptr 0 0,.E,.bool false,.list es .no,.I i]) ([.cells [.list (w.map csI) .no,.I m]]++[.dead]))
theorem It:∀ e H Q,MH e H Q→AwK Tryz.f47.ntmps (.loop (ai [1,1,0,1,0] (ag Tryz.f47))) Q e H:=by
 rintro e H Q ⟨w,m,l,hl,hwl,he,hH,hQ0,hQ1⟩
 have hH:H=_:=hH
 refine fJ (f:=i1) (acc:=fun i=>(l.take i).map (eZ w)) (I:=fun i=>i≤l.length∧∀ p∈l.take i,eK w p=true) (m:=fun i=>l.length-i) (hn:=fun o=>match o.dst with|some 30=>1|_=>0) aj E2 (.nil _ _ _ _ _) [1,2,4,5,6,7] (fun T i=>[.list (l.map u1) .no,.ptr 0 0,.E,.bool false,T,.I i]) [.cells [.list (w.map csI) .no,.I m]] (0:Nat)
  (lM (by intro ob ho; rcases List.mem_singleton.1 ho with rfl; exact fM w m)) (fun _ _ a _=>iu a) (fun es i j _ h=> .same (bp bL _) (.same (.ptr _ _ (by simp)) (.same mU (.same (.bool _) (.row h (.same (.int _ _) .nil)))))) (fun _ _=>L5) ⟨Nat.zero_le _,fun _ h=>nomatch h⟩ rfl he hH ?_ ?_
 all_goals
  rintro i ⟨hi,hall⟩ ha
  have hbl:((l.take i).map (eZ w)).length≤1000000:=by rw[List.length_map,List.length_take]; omega
 ·refine Mm w m l i _ ?_
  simp only[au,dt,an,List.length_map,dM]
  by_cases h:i<l.length
  ·rw[if_pos (by omega)]
   obtain⟨p,hp⟩:∃ p,p=l.getD i 0:=⟨_,rfl⟩
   have cu:∀ z:Int,cI (u1 z) 0=z:=fun _=>rfl
   have hs:(l.take (i+1)).map (eZ w)=(l.take i).map (eZ w)++[eZ w p]:=by rw[aI 0 h,← hp,List.map_append]; rfl
   simp only[getD_map 0 h,← hp,cu]
   refine⟨h,?_⟩
   rw[if_pos (by rfl)]
   refine⟨w,m,p,rfl,hwl,?_⟩
   by_cases c:eK w p=true
   ·rw[if_neg (by rw[c]; decide)]
    have hall2:∀ q∈l.take (i+1),eK w q=true:=by
     intro q hq
     rw[aI 0 h,← hp] at hq
     rcases List.mem_append.1 hq with k|k
     ·exact hall q k
     ·rw[List.mem_singleton.1 k]; exact c
    exact⟨aF (f:=i1) (l:=[]) (by_:=8) (fun _=>rfl) (eZ w p) (by show(0+1)*8≤_; decide),one_row (f:=i1) fD (eZ w p),aV (i+1) (show l.length-(i+1)<l.length-i by omega) ⟨h,hall2⟩ hs (jP _ _) [.tok] 1 rfl rfl (by simp) (by rw[ha,ar h (by omega)]; rfl)⟩
   ·rw[if_pos (by rw[eq_false_of_ne_true c]; rfl)]
    exact⟨_,_,(.cons (.refl _) (.cons (.refl _) (.cons (.refl _) (.cons (.refl _) (.cons (.list _ _) (.cons (.refl _) .nil)))))),dN _,hQ1 (fun hA=>c (hA p (by rw[hp]; exact aX h))) _ _⟩
  ·rw[if_neg (by omega)]
   have:i=l.length:=by omega
   subst this
   simp only[List.take_length] at ha hall
   have hQ0:=hQ0 hall
   rw[ha] at hQ0
   exact bN (.cons (.refl _) (.cons (.refl _) (.cons (.refl _) (.cons (.refl _) (.cons (.list _ _) (.cons (.refl _) .nil)))))) (dN _) hQ0
 ·refine JY w m l (((l.take i).map (eZ w)).map i1) i _ ?_
  simp only[au,dt,an,List.length_map,dM]
  by_cases h:i<l.length
  ·rw[if_pos (by omega)]
   obtain⟨p,hp⟩:∃ p,p=l.getD i 0:=⟨_,rfl⟩
   have cu:∀ z:Int,cI (u1 z) 0=z:=fun _=>rfl
   have hs:(l.take (i+1)).map (eZ w)=(l.take i).map (eZ w)++[eZ w p]:=by rw[aI 0 h,← hp,List.map_append]; rfl
   simp only[getD_map 0 h,← hp,cu]
   refine⟨h,?_⟩
   rw[if_pos (by rfl)]
   refine⟨w,m,p,rfl,hwl,?_⟩
   by_cases c:eK w p=true
   ·rw[if_neg (by rw[c]; decide)]
    have hall2:∀ q∈l.take (i+1),eK w q=true:=by
     intro q hq
     rw[aI 0 h,← hp] at hq
     rcases List.mem_append.1 hq with k|k
     ·exact hall q k
     ·rw[List.mem_singleton.1 k]; exact c
    exact⟨aF (f:=i1) (by_:=8) (fun _=>rfl) ((l.take i).map (eZ w)) (eZ w p) (by omega),one_row (f:=i1) fD (eZ w p),aV (i+1) (show l.length-(i+1)<l.length-i by omega) ⟨h,hall2⟩ hs (jP _ _) [.dead,.tok] 2 rfl rfl (by simp) (by rw[ar h (by omega),List.map_append]; rfl)⟩
   ·rw[if_pos (by rw[eq_false_of_ne_true c]; rfl)]
    exact⟨_,_,(.cons (.refl _) (.cons (.refl _) (.cons (.refl _) (.cons (.refl _) (.cons (.list _ _) (.cons (.refl _) .nil)))))),ej [.cells [.list (w.map csI) .no,.I m]] .tok,hQ1 (fun hA=>c (hA p (by rw[hp]; exact aX h))) _ _⟩
  ·rw[if_neg (by omega)]
   have:i=l.length:=by omega
   subst this
   simp only[List.take_length] at hall ⊢
   exact bN (.cons (.refl _) (.cons (.refl _) (.cons (.refl _) (.cons (.refl _) (.cons (.list _ _) (.cons (.refl _) .nil)))))) (ej [.cells [.list (w.map csI) .no,.I m]] .tok) (hQ0 hall)
theorem Kk (c:Mt) (k:Int):∀(K:PV→Prop),(∃(c_1:Mt) (k_1:Int),c_1.aa.length≤1000000∧ah [.I k,.ptr 0 0,.E,.I 0] [.I k_1,.ptr 0 0,.E,.I 0]∧av [.cells [.U c.id,.I c.md,.U c.ins,.list (c.rows.map rrc) .no,.list (c.aa.map stc) .no]] [.cells [.U c_1.id,.I c_1.md,.U c_1.ins,.list (c_1.rows.map rrc) .no,.list (c_1.aa.map stc) .no]]∧K (.list (List.map pu1 (a8 c_1.aa k_1)) .no))→AcK 46 [c.pv,.I k] [] (fun x _=>K x):=fun K h=>acW (T:=[]) (L:=[([1,1,0,1,0],Mn)]) (fun o=>match o.dst with|some 38=>1|_=>0) Tryz.func46 (aW.nil _ _) (.cons suE HN (.nil _ _ _ _ _)) h
theorem Mh (w:List RwI) (m:Int) (l:List Int):∀(K:PV→Prop),(∃(w_1:List RwI) (m_1:Int) (l_1:List Int),l_1.length≤1000000∧w_1.length≤1000000∧ah [.list (l.map u1) .no,.ptr 0 0,.E,.bool false,.E,.I 0] [.list (l_1.map u1) .no,.ptr 0 0,.E,.bool false,.E,.I 0]∧av [.cells [.list (w.map csI) .no,.I m]] [.cells [.list (w_1.map csI) .no,.I m_1]]∧((∀(p:Int),p∈l_1→eK w_1 p=true)→K (.tup [.list (List.map i1 (List.map (eZ w_1) l_1)) .no,.bool true]))∧((¬∀(p:Int),p∈l_1→eK w_1 p=true)→∀(_:List (List PV)),∀(_:Int),K (.tup [.E,.bool false])))→AcK 47 [.agg [.list (w.map csI) .no,.I m],.list (l.map u1) .no] [] (fun x _=>K x):=fun K h=>acW (T:=TRR) (L:=[([1,1,0,1,0],MH)]) (fun o=>match o.dst with|some 30=>1|_=>0) Tryz.func47 (E2) (.cons suE It (.nil _ _ _ _ _)) h
def JN (args:List PV) (K:PV→Prop):Prop:=∃(c:Mt) (t1 t2:Tail) (k:Int),ah args [.agg [.U c.id,.I c.md,.U c.ins,.list (c.rows.map rrc) t1,.list (c.aa.map stc) t2],.I k]∧c.aa.length≤1000000∧K (.list (((a8 c.aa k).map Se.pl).map u1) .no)
theorem KG:SpK 46 (.pure JN):=by
 rintro args K ⟨c,t1,t2,k,he,hl,hk⟩
 have he:args=_:=he
 subst he
 have e:((a8 c.aa k).map Se.pl).map u1=(a8 c.aa k).map pu1:=by rw[List.map_map]; rfl
 rw[e] at hk
 exact bB aj (.cons gK (.cons (.refl _) .nil)) (bn c.low (.int _ _)) (bp ot _) (Kk c k (fun x=>x = .list ((a8 c.aa k).map pu1) .no) ⟨c,k,hl,rfl,rfl,rfl⟩) hk
def dw (w:List RwI) (l:List Int):List Int×Bool:=if l.all (eK w)=true then(l.map (eZ w),true) else([],false)
def Em (args:List PV) (K:PV→Prop):Prop:=∃(w:List RwI) (m:Int) (l:List Int) (t:Tail),ah args [.agg [.list (w.map csI) .no,.I m],.list (l.map u1) t]∧l.length≤1000000∧w.length≤1000000∧(let v:=dw w l; K (.tup [.list (v.1.map i1) .no,.bool v.2]))
theorem Cu:SpK 47 (.pure Em):=by
 rintro args K ⟨w,m,l,t,he,hl,hwl,hk⟩
 have he:args=_:=he
 subst he
 refine bB aj (.cons (.refl _) (.cons (.list _ _) .nil)) (bn (cK w m) (bp bL _)) (.tup _ (bn (bp iu _) (.bool _))) (a9 (Mh w m l (fun x=>∃ y,Wk x y∧y = .tup [.list ((dw w l).1.map i1) .no,.bool (dw w l).2]) ⟨w,m,l,hl,hwl,rfl,rfl,fun hA=>⟨_,.refl _,?_⟩,fun hA es i=>⟨.tup [.list [] .no,.bool false],.tup (.cons (.list _ _) (.cons (.refl _) .nil)),?_⟩⟩)) hk
 ·unfold dw; rw[if_pos (List.all_eq_true.2 hA)]
 ·unfold dw; rw[if_neg (fun k=>hA (List.all_eq_true.1 k))]; rfl
def Bf (args:List PV) (K:PV→Prop):Prop:=∃(a b:List Int) (r:Int),ah args [.list (a.map i1) .no,.list (b.map i1) .no,.I r]∧a.length≤1000000∧b.length≤1000000∧(let v:=Elo.upd a b r; K (.tup [.list (v.1.map i1) .no,.list (v.2.1.map i1) .no,.I v.2.2]))
theorem Hr:SpK 48 (.pure Bf):=by
 rintro args K ⟨a,b,r,he,ha,hb,hk⟩
 have he:args=_:=he
 subst he
 exact Elo.vW _ K ⟨a,b,rfl,rfl,by unfold Elo.cm; omega,by unfold Elo.cm; omega,NT.no,NT.no,hk⟩
def TRJ:Tab:=[(46,.pure JN),(47,.pure Em),(48,.pure Bf)]
theorem Ko:TbK TRJ:= .cons KG (.cons Cu (.cons Hr (.nil _ _)))
theorem II (w:List RwI) (m:Int) (c:Mt) (r:Int) (q b y:List Int):∀(R:Ex→List PV→ae→Prop),(aG [] [] 1 4∧([]:List (List PV))=[]∧aG [] (q.map u1) 1 4∧aG [] [] 1 8∧([]:List (List PV))=[]∧aG [] (b.map i1) 1 8∧aG [] [] 1 8∧([]:List (List PV))=[]∧aG [] (y.map i1) 1 8∧R .normal [.ptr 2 0,.I 0] [.cells [.list (w.map csI) .no,.I m],.cells [.U c.id,.I c.md,.U c.ins,.list (c.rows.map rrc) .no,.list (c.aa.map stc) .no],.cells [.U c.id,.U c.ins,.I r,.list ([]++q.map u1) .no,.list ([]++b.map i1) .no,.list ([]++y.map i1) .no]])→Holds (wpK [] [] (fun o=>match o.dst with|some 74=>101001|some 76=>101201|some 80|some 85|some 90=>9|some 82|some 87|some 92=>0|some _=>0|none=>201006) (bX [1,1,1,1,1,1,1,1,0] (ag Tryz.f17)) [] (ak [2,4,6,8,9,10,12,14,15] [.I r,.ptr 1 0,.ptr 2 0,.list [] .no,.list (q.map u1) .no,.list [] .no,.list (b.map i1) .no,.list [] .no,.list (y.map i1) .no]) [.cells [.list (w.map csI) .no,.I m],.cells (mtc c),.cells [.U 0,.U 0,.I 0,.E,.E,.E]] (fun ex e H=>R ex (List.map e [6,7]) H)):=fun R h=>hoE h
theorem HH (w:List RwI) (m:Int) (c:Mt) (r:Int) (p a x:List Int):∀(R:Ex→List PV→ae→Prop),(aG [] (p.map u1) 1 4∧aG ([]++p.map u1) [] 1 4∧([]:List (List PV))=[]∧aG [] (a.map i1) 1 8∧aG ([]++a.map i1) [] 1 8∧([]:List (List PV))=[]∧aG [] (x.map i1) 1 8∧aG ([]++x.map i1) [] 1 8∧([]:List (List PV))=[]∧R .normal [.ptr 2 0,.I 0] [.cells [.list (w.map csI) .no,.I m],.cells [.U c.id,.I c.md,.U c.ins,.list (c.rows.map rrc) .no,.list (c.aa.map stc) .no],.cells [.U c.id,.U c.ins,.I r,.list ([]++p.map u1) .no,.list ([]++a.map i1) .no,.list ([]++x.map i1) .no]])→Holds (wpK [] [] (fun o=>match o.dst with|some 74=>101001|some 76=>101201|some 80|some 85|some 90=>0|some 82|some 87|some 92=>9|some _=>0|none=>201006) (bX [1,1,1,1,1,1,1,1,0] (ag Tryz.f17)) [] (ak [2,4,6,8,9,10,12,14,15] [.I r,.ptr 1 0,.ptr 2 0,.list (p.map u1) .no,.list [] .no,.list (a.map i1) .no,.list [] .no,.list (x.map i1) .no,.list [] .no]) [.cells [.list (w.map csI) .no,.I m],.cells (mtc c),.cells [.U 0,.U 0,.I 0,.E,.E,.E]] (fun ex e H=>R ex (List.map e [6,7]) H)):=fun R h=>hoE h
def mrg:Nat→List Nat→List Nat→List (List Nat)
 | n+1,x::a,y::b=>(mrg n a (y::b)).map (x :: ·)++(mrg n (x::a) b).map (y :: ·)
 | _,a,b=>[a++b]
def F14:List (List Nat):=((mrg 4 [7,9] [12,14]).flatMap fun l=>mrg 6 l [17,19]).map fun q=>[0,1,2,3,4,5,6,8,10,11,13,15,16,18]++q++[20,21,22]
def Lr (st:Nat→Prop→Prop) (B:Prop):List Nat→Prop
 | []=>B
 | i::l=>st i (Lr st B l)
theorem xn {st:Nat→Prop→Prop} {B:Prop} (h:∀ i acc,acc→st i acc) (hB:B):∀ l,Lr st B l
 | []=>hB
 | i::l=>h i _ (xn h hB l)
def apC (es ys:List (List PV)) (by_:Nat) (acc:Prop):Prop:=aG es ys 1 by_∧(ys.flatten.all PV.one=true∧ys≠[])∧acc
def stJ (p q a b x y:List Int) (i:Nat) (acc:Prop):Prop:=match i with
 | 7=>apC [] (p.map u1) 4 acc
 | 9=>apC (p.map u1) (q.map u1) 4 acc
 | 12=>apC [] (a.map i1) 8 acc
 | 14=>apC (a.map i1) (b.map i1) 8 acc
 | 17=>apC [] (x.map i1) 8 acc
 | 19=>apC (x.map i1) (y.map i1) 8 acc
 | _=>acc
theorem o5 {f:Int→List PV} {sz by_:Nat} (hf:∀ a,(f a).length=sz) (l k:List Int) (h:(l.length+k.length)*by_≤140737488355328):aG (l.map f) (k.map f) sz by_:=⟨b5 hf l,b5 hf k,by rw[List.length_map,List.length_map]; exact h⟩
theorem all_map {f:Int→List PV} (h1:∀ a,∀ y∈f a,y.one=true) (l:List Int):(l.map f).flatten.all PV.one=true:=by
 rw[List.all_eq_true]
 intro y hy
 obtain⟨e,he,hy⟩:=List.mem_flatten.1 hy
 obtain⟨a,_,rfl⟩:=List.mem_map.1 he
 exact h1 a y hy
theorem mE {f:Int→List PV} {by_:Nat} {acc:Prop} (hf:∀ a,(f a).length=1) (h1:∀ a,∀ y∈f a,y.one=true) (l k:List Int) (hb:by_≤8) (hl:l.length≤1000000) (hk:k.length≤1000000) (hn:k≠[]) (h:acc):apC (l.map f) (k.map f) by_ acc:=
 ⟨o5 hf l k (Nat.le_trans (Nat.mul_le_mul (show l.length+k.length≤2000000 by omega) hb) (by decide)),⟨all_map h1 k,fun e=>hn (List.map_eq_nil_iff.1 e)⟩,h⟩
def JC:LSp:=fun e H Q=>∃(w:List RwI) (m:Int) (c:Mt) (r:Int) (p q a b x y:List Int),p.length≤1000000∧q.length≤1000000∧a.length=p.length∧x.length=p.length∧b.length=q.length∧y.length=q.length∧ah (List.map e [2,4,6,8,9,10,12,14,15]) [.I r,.ptr 1 0,.ptr 2 0,.list (p.map u1) .no,.list (q.map u1) .no,.list (a.map i1) .no,.list (b.map i1) .no,.list (x.map i1) .no,.list (y.map i1) .no]∧av H [.cells [.list (w.map csI) .no,.I m],.cells (mtc c),.cells [.U 0,.U 0,.I 0,.E,.E,.E]]∧Q .normal (ak [6,7] [.ptr 2 0,.I 0]) [.cells [.list (w.map csI) .no,.I m],.cells (mtc c),.cells (vdC ⟨c.id,c.ins,r,p++q,a++b,x++y⟩)]
theorem EC:mO (bX [1,1,1,1,1,1,1,1,0] (ag Tryz.f17))=true:=by kernel_rfl
def LL:Oper→Nat:=fun o=>match o.dst with|some 74=>101001|some 76=>101201|some 80|some 85|some 90=>1|some 82|some 87|some 92=>1|some _=>0|none=>201006
theorem Iw:uB (opsOf (bX [1,1,1,1,1,1,1,1,0] (ag Tryz.f17))) LL [7,9,12,14,17,19] F14=true:=by kernel_rfl
theorem Lq (w:List RwI) (m:Int) (c:Mt) (r:Int) (p q a b x y:List Int) (R:List PV→ae→Prop):F14.map (fun is=>iN br Tryz.prog gl [] LL true (opsOf (bX [1,1,1,1,1,1,1,1,0] (ag Tryz.f17))) (eM (opsOf (bX [1,1,1,1,1,1,1,1,0] (ag Tryz.f17))) is) (ak [2,4,6,8,9,10,12,14,15] [.I r,.ptr 1 0,.ptr 2 0,.list (p.map u1) .no,.list (q.map u1) .no,.list (a.map i1) .no,.list (b.map i1) .no,.list (x.map i1) .no,.list (y.map i1) .no]) [.cells [.list (w.map csI) .no,.I m],.cells (mtc c),.cells [.U 0,.U 0,.I 0,.E,.E,.E]] (fun e' H'=>rG ([.cells [.list (w.map csI) .no,.I m],.cells (mtc c),.cells [.U 0,.U 0,.I 0,.E,.E,.E]]:ae).length R (List.map (ak [6,7] (List.map e' [6,7])) [6,7]) H'))=F14.map (Lr (stJ p q a b x y) ((3:Nat)≤9∧R [.ptr 2 0,.I 0] [.cells [.list (w.map csI) .no,.I m],.cells (mtc c),.cells [.U c.id,.U c.ins,.I r,.list (p.map u1++q.map u1) .no,.list (a.map i1++b.map i1) .no,.list (x.map i1++y.map i1) .no]])):=by kernel_rfl
set_option maxRecDepth 10000 in
theorem E8:∀ e H Q,JC e H Q→AwK Tryz.f17.ntmps (bX [1,1,1,1,1,1,1,1,0] (ag Tryz.f17)) Q e H:=by
 rintro e H Q ⟨w,m,c,r,p,q,a,b,x,y,hp,hq,la,lx,lb,ly,he,hH,hQ⟩
 have ua:=fun(l k:List Int) (h:l.length+k.length≤2000000)=>o5 (by_:=4) dc l k (by omega)
 have ub:=fun(l k:List Int) (h:l.length+k.length≤2000000)=>o5 (by_:=8) gB l k (by omega)
 by_cases c1:p=[]
 ·subst c1
  have e1:a=[]:=List.eq_nil_of_length_eq_zero la
  have e2:x=[]:=List.eq_nil_of_length_eq_zero lx
  subst e1; subst e2
  refine dj (T:=[]) (slots:=[2,4,6,8,9,10,12,14,15]) (outs:=[6,7]) (hn:=fun o=>match o.dst with|some 74=>101001|some 76=>101201|some 80|some 85|some 90=>9|some 82|some 87|some 92=>0|some _=>0|none=>201006) (.nil _ _) (.nil _ _ _ _ _) he hH (II w m c r q b y (fun ex vs H'=>Q ex (ak [6,7] vs) H') ?_)
  exact⟨ua [] [] (by simp),rfl,ua [] q (by simp; omega),ub [] [] (by simp),rfl,ub [] b (by simp; omega),ub [] [] (by simp),rfl,ub [] y (by simp; omega),hQ⟩
 by_cases c2:q=[]
 ·subst c2
  have e1:b=[]:=List.eq_nil_of_length_eq_zero lb
  have e2:y=[]:=List.eq_nil_of_length_eq_zero ly
  subst e1; subst e2
  rw[List.append_nil,List.append_nil,List.append_nil] at hQ
  refine dj (T:=[]) (slots:=[2,4,6,8,9,10,12,14,15]) (outs:=[6,7]) (hn:=fun o=>match o.dst with|some 74=>101001|some 76=>101201|some 80|some 85|some 90=>0|some 82|some 87|some 92=>9|some _=>0|none=>201006) (.nil _ _) (.nil _ _ _ _ _) he hH (HH w m c r p a x (fun ex vs H'=>Q ex (ak [6,7] vs) H') ?_)
  exact⟨ua [] p (by simp; omega),ua p [] (by simp; omega),rfl,ub [] a (by simp; omega),ub a [] (by simp; omega),rfl,ub [] x (by simp; omega),ub x [] (by simp; omega),rfl,hQ⟩
 have ne:∀ {l k:List Int},l.length=k.length→k≠[]→l≠[]:=fun h h2 h3=>h2 (List.eq_nil_of_length_eq_zero (by rw[← h,h3]; rfl))
 refine vf aj (T:=[]) (.nil _ _) (hn:=LL) (slots:=[2,4,6,8,9,10,12,14,15]) (outs:=[6,7]) [7,9,12,14,17,19] F14 (fun vs H2=>vs=[.ptr 2 0,.I 0]∧H2=[.cells [.list (w.map csI) .no,.I m],.cells (mtc c),.cells [.U c.id,.U c.ins,.I r,.list (p.map u1++q.map u1) .no,.list (a.map i1++b.map i1) .no,.list (x.map i1++y.map i1) .no]]) _ EC Iw he hH (Lq w m c r p q a b x y _) (fun is _=>xn (fun i acc h=>?_) ⟨by decide,rfl,rfl⟩ is) ?_
 ·unfold stJ
  split
  ·exact mE dc dm [] p (by decide) (Nat.zero_le _) hp c1 h
  ·exact mE dc dm p q (by decide) hp hq c2 h
  ·exact mE gB fD [] a (by decide) (Nat.zero_le _) (by omega) (ne la c1) h
  ·exact mE gB fD a b (by decide) (by omega) (by omega) (ne lb c2) h
  ·exact mE gB fD [] x (by decide) (Nat.zero_le _) (by omega) (ne lx c1) h
  ·exact mE gB fD x y (by decide) (by omega) (by omega) (ne ly c2) h
  ·exact h
 ·rintro _ _ ⟨rfl,rfl⟩
  rw[← List.map_append,← List.map_append,← List.map_append]
  refine⟨fun o cs ho z hz=> .low ?_,fun v hv=>?_,hQ⟩
  ·have k1:=(List.getElem?_eq_some_iff.1 ho).1
   simp at k1
   have:o=0∨o=1∨o=2:=by omega
   rcases this with rfl|rfl|rfl<;>cases ho
   ·exact fM w m z hz
   ·exact ii c z hz
   ·exact fI ⟨c.id,c.ins,r,p++q,a++b,x++y⟩ z hz
  ·simp only[List.mem_cons,List.not_mem_nil,or_false] at hv
   rcases hv with rfl|rfl
   ·exact .ptr _ _ (by show(2:Nat)<3; decide)
   ·exact .low (.int _ _)
theorem LF (w:List RwI) (m:Int) (c:Mt) (r:Int):(by refine(?_:_→_→_→Prop) [PV.U 0,.U 0,.I 0,.E,.E,.E] [PV.U c.id,.I c.md,.U c.ins,.list (c.rows.map rrc) .no,.list (c.aa.map stc) .no] [PV.list (w.map csI) .no,.I m]; exact fun o s u=>by refine(?_:_→Prop) [Ob.cells u,.cells s,.cells o]; exact fun v=>∀(K:PV→Prop),by refine(?_:_→_→Prop) (K (.tup [.agg o,.I 12])) (K (.tup [.agg o,.I 2])); exact fun j n=>(br (decide (r<0) == false) (br (decide (r>2)) n (∃(c_1:Mt) (t1:Tail) (t2:Tail) (k:Int),by refine(?_:_→Prop) (PV.list (List.map u1 (List.map Se.pl (a8 c_1.aa k))) .no); exact fun i=>ah [.agg s,.I 1] [.agg [.U c_1.id,.I c_1.md,.U c_1.ins,.list (c_1.rows.map rrc) t1,.list (c_1.aa.map stc) t2],.I k]∧c_1.aa.length≤1000000∧∃(c_2:Mt) (t1:Tail) (t2:Tail) (k_1:Int),by refine(?_:_→Prop) (PV.list (List.map u1 (List.map Se.pl (a8 c_2.aa k_1))) .no); exact fun h=>ah [.agg s,.I 2] [.agg [.U c_2.id,.I c_2.md,.U c_2.ins,.list (c_2.rows.map rrc) t1,.list (c_2.aa.map stc) t2],.I k_1]∧c_2.aa.length≤1000000∧∃(w_1:List RwI) (m_1:Int) (l:List Int) (t:Tail),by refine(?_:_→Prop) (List.map i1 (Prod.fst (dw w_1 l))); exact fun g=>ah [.agg u,i] [.agg [.list (w_1.map csI) .no,.I m_1],.list (l.map u1) t]∧l.length≤1000000∧w_1.length≤1000000∧∃(w_2:List RwI) (m_2:Int) (l_1:List Int) (t:Tail),by refine(?_:_→Prop) (List.map i1 (Prod.fst (dw w_2 l_1))); exact fun f=>by refine(?_:_→Prop) (∃(w_3:List RwI) (m_3:Int) (c_3:Mt) (r_1:Int) (p:List Int) (q:List Int) (a:List Int) (b:List Int) (x:List Int) (y:List Int),p.length≤1000000∧q.length≤1000000∧a.length=p.length∧x.length=p.length∧b.length=q.length∧y.length=q.length∧ah [.I r,.ptr 1 0,.ptr 2 0,i,h,.list g .no,.list f .no,.list g .no,.list f .no] [.I r_1,.ptr 1 0,.ptr 2 0,.list (p.map u1) .no,.list (q.map u1) .no,.list (a.map i1) .no,.list (b.map i1) .no,.list (x.map i1) .no,.list (y.map i1) .no]∧av v [.cells [.list (w_3.map csI) .no,.I m_3],.cells [.U c_3.id,.I c_3.md,.U c_3.ins,.list (c_3.rows.map rrc) .no,.list (c_3.aa.map stc) .no],.cells o]∧K (.tup [.agg [.U c_3.id,.U c_3.ins,.I r_1,.list (List.map u1 (p++q)) .no,.list (List.map i1 (a++b)) .no,.list (List.map i1 (x++y)) .no],.I 0])); exact fun e=>ah [.agg u,h] [.agg [.list (w_2.map csI) .no,.I m_2],.list (l_1.map u1) t]∧l_1.length≤1000000∧w_2.length≤1000000∧br ((!Prod.snd (dw w_1 l)) == false) (br (!Prod.snd (dw w_2 l_1)) j (br (decide ((↑(List.length g):Int)>0) == true) (br (decide ((↑(List.length f):Int)>0)) (∃(a:List Int) (b:List Int) (r_1:Int),by refine(?_:_→Prop) (Prod.snd (Elo.upd a b r_1)); exact fun d=>ah [.list g .no,.list f .no,.I r] [.list (a.map i1) .no,.list (b.map i1) .no,.I r_1]∧a.length≤1000000∧b.length≤1000000∧br (Prod.snd d != 0) (K (.tup [.agg o,.I (Prod.snd d)])) (∃(w_3:List RwI) (m_3:Int) (c_3:Mt) (r_2:Int) (p:List Int) (q:List Int) (a_1:List Int) (b_1:List Int) (x:List Int) (y:List Int),p.length≤1000000∧q.length≤1000000∧a_1.length=p.length∧x.length=p.length∧b_1.length=q.length∧y.length=q.length∧ah [.I r,.ptr 1 0,.ptr 2 0,i,h,.list g .no,.list f .no,.list (List.map i1 (Prod.fst (Elo.upd a b r_1))) .no,.list (List.map i1 (Prod.fst d)) .no] [.I r_2,.ptr 1 0,.ptr 2 0,.list (p.map u1) .no,.list (q.map u1) .no,.list (a_1.map i1) .no,.list (b_1.map i1) .no,.list (x.map i1) .no,.list (y.map i1) .no]∧av v [.cells [.list (w_3.map csI) .no,.I m_3],.cells [.U c_3.id,.I c_3.md,.U c_3.ins,.list (c_3.rows.map rrc) .no,.list (c_3.aa.map stc) .no],.cells o]∧K (.tup [.agg [.U c_3.id,.U c_3.ins,.I r_2,.list (List.map u1 (p++q)) .no,.list (List.map i1 (a_1++b_1)) .no,.list (List.map i1 (x++y)) .no],.I 0]))) e) e)) j)) n)→AcK 17 [.agg u,c.pv,.I r] [] (fun x _=>K x):Prop):=fun K h=>acW (T:=TRJ) (L:=[([1,1,1,1,1,1,1,1,0],JC)]) (fun o=>match o.dst with|some 26=>1|some 28=>1|some 31=>1|some 37=>1|_=>0) Tryz.func17 (Ko) (.cons atE E8 (.nil _ _ _ _ _)) h
namespace Elo
theorem zV {a b:List Int} {r:Int} (h:(upd a b r).2.2=0):(1≤a.length∧a.length≤4)∧(1≤b.length∧b.length≤4)∧bJ a=true∧bJ b=true∧(0≤r∧r≤2)∧
  upd a b r=(shd a (stk (dn a) (dn b) (mnI a.length b.length) r),shd b (-(stk (dn a) (dn b) (mnI a.length b.length) r)),0):=by
 have e:=h
 unfold upd at e
 by_cases c:a.length<1∨b.length<1∨a.length>4∨b.length>4
 ·rw[if_pos c] at e; simp at e
 ·rw[if_neg c] at e
  by_cases d:bJ a=false∨bJ b=false∨r<0∨r>2
  ·rw[if_pos d] at e; simp at e
  ·refine⟨by omega,by omega,?_,?_,by omega,?_⟩
   ·cases hq:bJ a
    ·exact absurd (.inl hq) d
    ·rfl
   ·cases hq:bJ b
    ·exact absurd (.inr (.inl hq)) d
    ·rfl
   ·unfold upd; rw[if_neg c,if_neg d]
end Elo
theorem rM {l w:List RwI} {m:Int} (h:cF l w m):eK w=has l:=funext fun t=>h.JZ t
theorem F3 {l w:List RwI} {m:Int} (h:cF l w m):eZ w=bD l:=funext fun t=>h.My t
def I0 (args:List PV) (K:PV→Prop):Prop:=∃(l w:List RwI) (m:Int) (c:Mt) (t1 t2:Tail) (r:Int),ah args [.agg [.list (w.map csI) .no,.I m],.agg [.U c.id,.I c.md,.U c.ins,.list (c.rows.map rrc) t1,.list (c.aa.map stc) t2],.I r]∧cF l w m∧c.aa.length≤100000∧
 (let v:=bj l c r; K (.tup [.agg [.U v.1.m,.U v.1.i,.I v.1.r,.list (v.1.ps.map u1) .no,.list (v.1.old.map i1) .no,.list (v.1.new.map i1) .no],.I v.2]))
theorem ju {l w:List RwI} {m:Int} (h:cF l w m):w.length≤1000000:=by rw[h.len]; exact h.ok.len
theorem rX {l w:List RwI} {m:Int} (h:cF l w m) (s:List Se) (k:Int):bz l s k=([],[],12)∧dw w ((a8 s k).map Se.pl)=([],false)∨bz l s k=((a8 s k).map Se.pl,(dw w ((a8 s k).map Se.pl)).1,0)∧dw w ((a8 s k).map Se.pl)=(((a8 s k).map Se.pl).map (bD l),true):=by
 unfold dw bz
 rw[rM h,F3 h,List.all_map]
 by_cases c:(a8 s k).all (fun x=>has l x.pl)=true
 ·right
  rw[if_pos c,if_pos (show(a8 s k).all (has l ∘ Se.pl)=true from c),List.map_map]
  exact⟨rfl,rfl⟩
 ·left
  rw[if_neg c,if_neg (show ¬ (a8 s k).all (has l ∘ Se.pl)=true from c)]
  exact⟨rfl,rfl⟩
theorem JW:SpK 17 (.pure I0):=by
 rintro args K ⟨l,w,m,c,t1,t2,r,he,hl,hc,hk⟩
 have he:args=_:=he
 subst he
 have hw:=ju hl
 refine bB aj (.cons (.refl _) (.cons gK (.cons (.refl _) .nil))) (dO (cK w m) c.low (.int _ _)) (oI (bj l c r)) (a9 (LF w m c r (fun x=>∃ y,Wk x y∧y=pT (bj l c r)) ?_)) hk
 simp only[au,List.length_map]
 have len:∀ k,((a8 c.aa k).map Se.pl).length≤1000000:=fun k=>by rw[List.length_map]; exact Nat.le_trans (List.length_filter_le _ _) (by omega)
 by_cases c1:r<0
 ·rw[if_neg (by simpa using c1)]
  exact⟨_,mX,by unfold bj; rw[if_pos (.inl c1)]⟩
 rw[if_pos (by simpa using c1)]
 by_cases c2:r>2
 ·rw[if_pos (by simpa using c2)]
  exact⟨_,mX,by unfold bj; rw[if_pos (.inr (by omega))]⟩
 rw[if_neg (by simpa using c2)]
 have n0:¬ (r<0∨3≤r):=by omega
 refine⟨c,.no,.no,1,rfl,by omega,c,.no,.no,2,rfl,by omega,w,m,_,.no,rfl,len 1,hw,w,m,_,.no,rfl,len 2,hw,?_⟩
 have lr:∀ k,(dw w ((a8 c.aa k).map Se.pl)).1.length≤1000000:=fun k=>by
  rcases rX hl c.aa k with⟨_,h⟩|⟨_,h⟩
  ·rw[h]; exact Nat.zero_le _
  ·rw[h]; show(((a8 c.aa k).map Se.pl).map (bD l)).length≤_; rw[List.length_map]; exact len k
 rcases rX hl c.aa 1 with⟨a1,b1⟩|⟨a1,b1⟩
 ·rw[if_neg (by rw[b1]; decide)]
  exact⟨_,mX,by unfold bj; rw[if_neg n0,a1,if_pos (by decide)]⟩
 rw[if_pos (by rw[b1]; rfl)]
 rcases rX hl c.aa 2 with⟨a2,b2⟩|⟨a2,b2⟩
 ·rw[if_pos (by rw[b2]; decide)]
  exact⟨_,mX,by unfold bj; rw[if_neg n0,a1,if_neg (fun h=>h rfl),a2,if_pos (by decide)]⟩
 rw[if_neg (by rw[b2]; exact fun h=>nomatch h)]
 have l1:=lr 1
 have l2:=lr 2
 have p1:=len 1
 have p2:=len 2
 have e1:(dw w ((a8 c.aa 1).map Se.pl)).1.length=((a8 c.aa 1).map Se.pl).length:=by rw[b1]; exact List.length_map _
 have e2:(dw w ((a8 c.aa 2).map Se.pl)).1.length=((a8 c.aa 2).map Se.pl).length:=by rw[b2]; exact List.length_map _
 have hJ:bj l c r=if 0<(dw w ((a8 c.aa 1).map Se.pl)).1.length∧0<(dw w ((a8 c.aa 2).map Se.pl)).1.length then(if(Elo.upd (dw w ((a8 c.aa 1).map Se.pl)).1 (dw w ((a8 c.aa 2).map Se.pl)).1 r).2.2≠0 then(vd0,(Elo.upd (dw w ((a8 c.aa 1).map Se.pl)).1 (dw w ((a8 c.aa 2).map Se.pl)).1 r).2.2) else(⟨c.id,c.ins,r,(a8 c.aa 1).map Se.pl++(a8 c.aa 2).map Se.pl,(dw w ((a8 c.aa 1).map Se.pl)).1++(dw w ((a8 c.aa 2).map Se.pl)).1,(Elo.upd (dw w ((a8 c.aa 1).map Se.pl)).1 (dw w ((a8 c.aa 2).map Se.pl)).1 r).1++(Elo.upd (dw w ((a8 c.aa 1).map Se.pl)).1 (dw w ((a8 c.aa 2).map Se.pl)).1 r).2.1⟩,0))
   else(⟨c.id,c.ins,r,(a8 c.aa 1).map Se.pl++(a8 c.aa 2).map Se.pl,(dw w ((a8 c.aa 1).map Se.pl)).1++(dw w ((a8 c.aa 2).map Se.pl)).1,(dw w ((a8 c.aa 1).map Se.pl)).1++(dw w ((a8 c.aa 2).map Se.pl)).1⟩,0):=by
  unfold bj
  rw[if_neg n0,a1,if_neg (fun h=>h rfl),a2,if_neg (fun h=>h rfl)]
 generalize (dw w ((a8 c.aa 1).map Se.pl)).1=a at l1 e1 hJ ⊢
 generalize (dw w ((a8 c.aa 2).map Se.pl)).1=b at l2 e2 hJ ⊢
 generalize (a8 c.aa 1).map Se.pl=p at p1 e1 hJ ⊢
 generalize (a8 c.aa 2).map Se.pl=q at p2 e2 hJ ⊢
 by_cases c3:0<a.length
 ·rw[if_pos (by rw[decide_eq_true (by omega)]; try rfl)]
  by_cases c4:0<b.length
  ·rw[if_pos (by rw[decide_eq_true (by omega)]; try rfl)]
   refine⟨a,b,r,rfl,l1,l2,?_⟩
   rw[if_pos ⟨c3,c4⟩] at hJ
   by_cases c5:(Elo.upd a b r).2.2=0
   ·rw[if_neg (by simpa using c5)]
    rw[if_neg (by simpa using c5)] at hJ
    obtain⟨⟨_,_⟩,⟨_,_⟩,_,_,_,hu⟩:=Elo.zV c5
    refine⟨w,m,c,r,p,q,a,b,_,_,p1,p2,e1,?_,e2,?_,rfl,rfl,_,.refl _,by rw[hJ]; rfl⟩
    ·rw[hu]; exact(Elo.b8 _ _).trans e1
    ·rw[hu]; exact(Elo.b8 _ _).trans e2
   ·rw[if_pos (by simpa using c5)]
    rw[if_pos c5] at hJ
    exact⟨_,mX,by rw[hJ]⟩
  ·rw[if_neg (by rw[decide_eq_false (by omega)]; decide)]
   exact⟨w,m,c,r,p,q,a,b,a,b,p1,p2,e1,e1,e2,e2,rfl,rfl,_,.refl _,by rw[hJ,if_neg (fun h=>c4 h.2)]; rfl⟩
 ·rw[if_neg (by rw[decide_eq_false (by omega)]; decide)]
  exact⟨w,m,c,r,p,q,a,b,a,b,p1,p2,e1,e1,e2,e2,rfl,rfl,_,.refl _,by rw[hJ,if_neg (fun h=>c3 h.1)]; rfl⟩
def k9 (w:List RwI) (m:Int) (xs:List (Int×Int)):List RwI:=xs.foldl (fun w x=>(iL w m x.1 x.2).1) w
theorem cF.KA {l w:List RwI} {m:Int} (h:cF l w m) (xs:List (Int×Int)):cF (dy l m xs) (k9 w m xs) m:=by
 unfold dy k9
 induction xs generalizing l w with
 | nil=>exact h
 | cons x xs ih=>exact ih (h.put x.1 x.2).1
def iv (w:List RwI) (m:Int) (v:Vd):List RwI×Int:=if v.new.length≠v.ps.length then(w,21) else if v.ps.all (eK w)=true then(k9 w m (v.ps.zip v.new),0) else(w,12)
theorem cF.apply {l w:List RwI} {m:Int} (h:cF l w m) (v:Vd):cF (cE l m v).1 (iv w m v).1 m∧(iv w m v).2=(cE l m v).2:=by
 unfold cE iv hasAll
 rw[rM h]
 split
 ·exact⟨h,rfl⟩
 split
 ·exact⟨h.KA _,rfl⟩
 ·exact⟨h,rfl⟩
def TRA:Tab:=[(23,.pure oV),(47,.pure Em)]
theorem Du:TbK TRA:= .cons qB (.cons Cu (.nil _ _))
theorem Kr (w:List RwI) (m:Int) (v:Vd) (i:Nat):(by refine(?_:_→_→_→_→_→Prop) (Ob.cells [.U v.m,.U v.i,.I v.r,.list (v.ps.map u1) .no,.list (v.old.map i1) .no,.list (v.new.map i1) .no]) (Ob.cells [.E,.I 0]) [PV.list (w.map csI) .no,.I m] (Int.toNat (i:Int)) [PV.ptr 0 0,.ptr 1 0,.ptr 2 0,.I 0,.I i]; exact fun a b c d f=>by refine(?_:_→_→Prop) (List.getD (v.new.map i1) d []) (List.getD (v.ps.map u1) d []); exact fun g h=>∀(R:Ex→List PV→ae→Prop),(br (decide ((i:Int)<(↑(List.length (v.ps.map u1)):Int))) (InL (v.ps.map u1) 1 (i:Int)∧br (true && aE [.int .u32] 0 h) (InL (v.new.map i1) 1 (i:Int)∧br (true && aE [.int .i64] 0 g) (∃(w_1:List RwI) (m_1:Int) (t:Int) (v_1:Int),ah [.agg c,.U (cI h 0),.I (cI g 0)] [.agg [.list (w_1.map csI) .no,.I m_1],.U t,.I v_1]∧w_1.length≤1000000∧0≤t∧R .normal [.ptr 0 0,.ptr 1 0,.ptr 2 0,.I 0,.I (wI ((i:Int)+1))] [.cells [.list (List.map csI (Prod.fst (iL w_1 m_1 t v_1))) .no,.I m_1],a,b]) False) False) (R (.exit 0) f [.cells c,a,b]))→Holds (wpK TRA [] (fun o=>match o.dst with|some 35=>1002|some 37=>101301|some 40|some 45=>900|some 42=>101501|some 18|some 26|some 49|some 16=>1|some _=>0|none=>match o.op with| .store _ (.tmp 2) _=>1002|_=>0) (ai [1,1,1,1,0,1,0] (ag Tryz.f19)) [] (ak [2,3,4,5,8] f) [.cells c,.cells (vdC v),b] (fun ex e H=>R ex (List.map e [2,3,4,5,8]) H)):Prop):=fun R h=>hoE h
def I8:LSp:=fun e H Q=>∃(l w:List RwI) (m:Int) (v:Vd),cF l w m∧v.ps.length≤1000000∧v.new.length=v.ps.length∧(∀ p∈v.ps,has l p=true)∧ah (List.map e [2,3,4,5,8]) [.ptr 0 0,.ptr 1 0,.ptr 2 0,.I 0,.I 0]∧av H [.cells [.list (w.map csI) .no,.I m],.cells (vdC v),.cells [.E,.I 0]]∧Q (.exit 0) (ak [2,3,4,5,8] [.ptr 0 0,.ptr 1 0,.ptr 2 0,.I 0,.I v.ps.length]) [.cells [.list ((k9 w m (v.ps.zip v.new)).map csI) .no,.I m],.cells (vdC v),.cells [.E,.I 0]]
theorem CT:∀ e H Q,I8 e H Q→AwK Tryz.f19.ntmps (.loop (ai [1,1,1,1,0,1,0] (ag Tryz.f19))) Q e H:=by
 rintro e H Q ⟨l,w,m,v,hl,hv,hn,hh,he,hH,hQ⟩
 refine aB (hn:=fun o=>match o.dst with|some 35=>1002|some 37=>101301|some 40|some 45=>900|some 42=>101501|some 18|some 26|some 49|some 16=>1|some _=>0|none=>match o.op with| .store _ (.tmp 2) _=>1002|_=>0) aj Du (.nil _ _ _ _ _) (σ:=Nat) [2,3,4,5,8] (fun i=>i≤v.ps.length) (fun i=>[.ptr 0 0,.ptr 1 0,.ptr 2 0,.I 0,.I i]) (fun i=>[.cells [.list ((k9 w m ((v.ps.zip v.new).take i)).map csI) .no,.I m],.cells (vdC v),.cells [.E,.I 0]]) (fun i=>v.ps.length-i) 0 (Nat.zero_le _) he hH ?_
 intro i hi
 have hi':i≤v.ps.length:=hi
 refine Kr _ m v i _ ?_
 simp only[au,dt,an,List.length_map]
 by_cases h:i<v.ps.length
 ·rw[if_pos (by omega)]
  have h2:i<v.new.length:=by omega
  have inl:InL (v.ps.map u1) 1 (i:Int):=by rw[dM]; exact h
  have inl2:InL (v.new.map i1) 1 (i:Int):=by rw[u5]; exact h2
  have cu:∀ z:Int,cI (u1 z) 0=z:=fun _=>rfl
  have ci:∀ z:Int,cI (i1 z) 0=z:=fun _=>rfl
  have lk:=hl.KA ((v.ps.zip v.new).take i)
  have hp:1≤v.ps.getD i 0:=by
   obtain⟨r,h1,h2⟩:=(jT hl.ok).1 (hh _ (aX (d:=(0:Int)) h))
   rw[← h2]; exact fV (hl.pos r h1)
  have hs:k9 w m ((v.ps.zip v.new).take (i+1))=(iL (k9 w m ((v.ps.zip v.new).take i)) m (v.ps.getD i 0) (v.new.getD i 0)).1:=by
   unfold k9
   rw[aI ((0:Int),(0:Int)) (by rw[List.length_zip]; omega),List.foldl_append,show(v.ps.zip v.new).getD i (0,0)=(v.ps.getD i 0,v.new.getD i 0) by rw[bg (show i<(v.ps.zip v.new).length by rw[List.length_zip]; omega),List.getElem_zip,bg h,bg h2]]
   rfl
  simp only[getD_map 0 h,getD_map 0 h2,cu,ci]
  refine⟨inl,?_⟩
  rw[if_pos (by rfl)]
  refine⟨inl2,?_⟩
  rw[if_pos (by rfl)]
  refine⟨_,m,_,_,rfl,ju lk,by omega,?_⟩
  rw[← hs]
  exact⟨i+1,(show v.ps.length-(i+1)<v.ps.length-i by omega),h,by rw[ar h (by omega)],[],rfl,Nat.le_refl _,.inl rfl⟩
 ·rw[if_neg (by omega)]
  have:i=v.ps.length:=by omega
  subst this
  rw[List.take_of_length_le (by rw[List.length_zip]; omega)]
  exact hQ
theorem G4 (w:List RwI) (m:Int) (v:Vd):(by refine(?_:_→_→_→_→Prop) [PV.list (w.map csI) .no,.I m] [PV.ptr 0 0,.ptr 1 0,.ptr 2 0,.I 0,.I 0] (Ob.cells [.E,.I 0]) (PV.list (v.ps.map u1) .no); exact fun a b c d=>∀(K:PV→Prop),(br ((↑(List.length (v.new.map i1)):Int) != (↑(List.length (v.ps.map u1)):Int)) (K (.tup [.agg a,.I 21])) (∃(w_1:List RwI) (m_1:Int) (l:List Int) (t:Tail),ah [.agg a,d] [.agg [.list (w_1.map csI) .no,.I m_1],.list (l.map u1) t]∧l.length≤1000000∧w_1.length≤1000000∧br (!Prod.snd (dw w_1 l)) (K (.tup [.agg a,.I 12])) (∃(l:List RwI) (w_2:List RwI) (m_2:Int) (v_1:Vd),cF l w_2 m_2∧v_1.ps.length≤1000000∧v_1.new.length=v_1.ps.length∧(∀(p:Int),p∈v_1.ps→has l p=true)∧ah b b∧av [.cells a,.cells [.U v.m,.U v.i,.I v.r,d,.list (v.old.map i1) .no,.list (v.new.map i1) .no],c] [.cells [.list (w_2.map csI) .no,.I m_2],.cells [.U v_1.m,.U v_1.i,.I v_1.r,.list (v_1.ps.map u1) .no,.list (v_1.old.map i1) .no,.list (v_1.new.map i1) .no],c]∧K (.tup [.agg [.list (List.map csI (k9 w_2 m_2 (List.zip v_1.ps v_1.new))) .no,.I m_2],.I 0]))))→AcK 19 [.agg a,.agg (vdC v)] [] (fun x _=>K x):Prop):=fun K h=>acW (T:=TRA) (L:=[([1,1,1,1,0,1,0],I8)]) (fun o=>match o.dst with|some 35=>1002|some 37=>101301|some 40|some 45=>900|some 42=>101501|some 18|some 26|some 49|some 16=>1|some _=>0|none=>match o.op with| .store _ (.tmp 2) _=>1002|_=>0) Tryz.func19 (Du) (.cons suE CT (.nil _ _ _ _ _)) h
def I7 (args:List PV) (K:PV→Prop):Prop:=∃(l w:List RwI) (m:Int) (v:Vd) (t1 t2 t3:Tail),ah args [.agg [.list (w.map csI) .no,.I m],.agg [.U v.m,.U v.i,.I v.r,.list (v.ps.map u1) t1,.list (v.old.map i1) t2,.list (v.new.map i1) t3]]∧cF l w m∧v.ps.length≤1000000∧K (.tup [.agg [.list ((iv w m v).1.map csI) .no,.I m],.I (iv w m v).2])
theorem LV:SpK 19 (.pure I7):=by
 rintro args K ⟨l,w,m,v,t1,t2,t3,he,hl,hv,hk⟩
 have he:args=_:=he
 subst he
 have hw:=ju hl
 refine bB aj (.cons (.refl _) (.cons (.agg (xs':=vdC v) (.cons (.refl _) (.cons (.refl _) (.cons (.refl _) (.cons (.list _ _) (.cons (.list _ _) (.cons (.list _ _) .nil))))))) .nil)) (bn (cK w m) (.agg _ (fI v))) (.tup _ (bn (cK _ m) (.int _ _))) (G4 w m v (fun x=>x = .tup [.agg [.list ((iv w m v).1.map csI) .no,.I m],.I (iv w m v).2]) ?_) hk
 simp only[au,List.length_map]
 unfold iv
 by_cases c:v.new.length=v.ps.length
 ·rw[if_neg (by simp[c]),if_neg (by simp[c])]
  refine⟨w,m,v.ps,.no,rfl,hv,hw,?_⟩
  have er:(dw w v.ps).2=v.ps.all (eK w):=by
   unfold dw
   cases v.ps.all (eK w)<;>rfl
  rw[er]
  by_cases c2:v.ps.all (eK w)=true
  ·rw[if_neg (by rw[c2]; decide),if_pos c2]
   rw[rM hl] at c2
   exact⟨l,w,m,v,hl,hv,c,List.all_eq_true.1 c2,rfl,rfl,rfl⟩
  ·rw[if_pos (by rw[eq_false_of_ne_true c2]; rfl),if_neg c2]
 ·rw[if_pos (by simp; omega),if_pos c]
def uZ (args:List PV) (K:PV→Prop):Prop:=∃(l:List Int),ah args [.list (l.map u1) .no,.list (l.map u1) .no]∧l.length≤1000000∧K (.bool true)
theorem wT:SpK 29 (.pure uZ):=by
 rintro args K ⟨l,he,hl,hk⟩
 have he:args=_:=he
 subst he
 have e:l.map u1=en1 .u32 l:=by simp[en1,u1]
 rw[e]
 exact nZ _ K ⟨l,l,.no,.no,rfl,hl,by rw[decide_eq_true rfl]; exact hk⟩
def xh (args:List PV) (K:PV→Prop):Prop:=∃(l:List Int),ah args [.list (l.map i1) .no,.list (l.map i1) .no]∧l.length≤1000000∧K (.bool true)
theorem CX:SpK 39 (.pure xh):=by
 rintro args K ⟨l,he,hl,hk⟩
 have he:args=_:=he
 subst he
 exact Elo.nZ _ K ⟨l,l,rfl,rfl,by unfold Elo.cm; omega,by unfold Elo.cm; omega,NT.no,NT.no,by rw[beq_self_eq_true]; exact hk⟩
def TSV:Tab:=[(29,.pure uZ),(39,.pure xh)]
theorem J3:TbK TSV:= .cons wT (.cons CX (.nil _ _))
def TLK:Tab:=[(30,.read Ax),(29,.pure uZ),(31,.read wF),(32,.pure CN),(28,.pure uR),(33,.read oL),(34,.pure oN)]
theorem Bd:TbK TLK:= .cons GQ (.cons wT (.cons xF (.cons Iy (.cons yX (.cons oo (.cons qT (.nil _ _)))))))
theorem LN (v:Vd):∀(K:PV→Prop),(br ((v.m == v.m) == true) (br ((v.i == v.i) == true) (br ((v.r == v.r) == true) (∃(l:List Int),ah [.list (v.ps.map u1) .no,.list (v.ps.map u1) .no] [.list (l.map u1) .no,.list (l.map u1) .no]∧l.length≤1000000∧∃(l:List Int),ah [.list (v.old.map i1) .no,.list (v.old.map i1) .no] [.list (l.map i1) .no,.list (l.map i1) .no]∧l.length≤1000000∧∃(l:List Int),ah [.list (v.new.map i1) .no,.list (v.new.map i1) .no] [.list (l.map i1) .no,.list (l.map i1) .no]∧l.length≤1000000∧K (.bool true)) (K (.bool false))) (K (.bool false))) (K (.bool false)))→AcK 12 [.agg (vdC v),.agg (vdC v)] [] (fun x _=>K x):=fun K h=>acW (T:=TSV) (L:=[]) (fun _=>0) Tryz.func12 (J3) (LOk.nil _ _ _ _ _) h
theorem Ka (v:Vd):∀(K:PV→Prop),(K (.agg [.U v.m,.U v.i,.I v.r,.list (v.ps.map u1) .no,.list (v.old.map i1) .no,.list (v.new.map i1) .no]))→AcK 13 [.agg (vdC v)] [] (fun x _=>K x):=fun K h=>acW (T:=[]) (L:=[]) (fun _=>0) Tryz.func13 (aW.nil _ _) (LOk.nil _ _ _ _ _) h
theorem KM (l w:List RwI) (m k:Int) (u:List Mt) (i:Nat):(by refine(?_:_→_→_→Prop) (List.getD (bS l) (Int.toNat (i:Int)) []) [PV.list (w.map csI) .no,.I m] (PV.list (bS l) .no); exact fun b d g=>by refine(?_:_→_→_→_→Prop) [Ob.abs (rkI l m),.abs (rkM (aq u) k),.cells [.ptr 1 0],.cells d] [PV.ptr 0 0,.ptr 3 0,.bool false,g,.I i] (true && aE [.int .u32] 0 b) (PV.U (cI b 0)); exact fun a c f h=>∀(R:Ex→List PV→ae→Prop),(br (decide ((i:Int)<(↑(List.length (bS l)):Int))) (InL (bS l) 1 (i:Int)∧br f (∃(q:Nat) (l_1:List RwI) (most:Int) (t:Int),ah [.ptr 0 0,h] [.ptr q 0,.U t]∧bR a q (rkI l_1 most)∧Ok l_1 most∧InL (bS l) 1 (i:Int)∧br f (∃(w_1:List RwI) (m_1:Int) (t_1:Int),ah [.agg d,h] [.agg [.list (w_1.map csI) .no,.I m_1],.U t_1]∧w_1.length≤1000000∧br (bD l_1 t != eZ w_1 t_1) (R .ret c a) (R .normal [.ptr 0 0,.ptr 3 0,.bool false,g,.I (wI ((i:Int)+1))] a)) False) False) (R (.exit 0) c a))→Holds (wpK TLK [] (fun o=>match o.dst with|some 15|some 46=>1|_=>0) (ai [1,1,1,0,1,0] (ag Tryz.f8)) [] (ak [0,6,8,9,10] c) a (fun ex e H=>R ex (List.map e [0,6,8,9,10]) H)):Prop):=fun R h=>hoE h
structure SmV (v:Vd):Prop where
 ps:v.ps.length≤1000000
 old:v.old.length≤1000000
 new:v.new.length≤1000000
def Jm (args:List PV) (K:PV→Prop):Prop:=∃(v:Vd),ah args [.agg (vdC v),.agg (vdC v)]∧SmV v∧K (.bool true)
theorem Ki:SpK 12 (.pure Jm):=by
 rintro args K ⟨v,he,sm,hk⟩
 have he:args=_:=he
 subst he
 refine ck aj (bn (.agg _ (fI v)) (.agg _ (fI v))) (.bool _) (LN v (fun x=>x = .bool true) ?_) hk
 simp only[au,beq_self_eq_true,if_true]
 exact⟨_,rfl,sm.ps,_,rfl,sm.old,_,rfl,sm.new,trivial⟩
def Jl (args:List PV) (K:PV→Prop):Prop:=∃(v:Vd),ah args [.agg (vdC v)]∧K (.agg [.U v.m,.U v.i,.I v.r,.list (v.ps.map u1) .no,.list (v.old.map i1) .no,.list (v.new.map i1) .no])
theorem KH:SpK 13 (.pure Jl):=by
 rintro args K ⟨v,he,hk⟩
 have he:args=_:=he
 subst he
 exact ck aj (bu (.agg _ (fI v))) (.agg _ (fI v)) (Ka v (fun x=>x = .agg (vdC v)) rfl) hk
def I9:LSp:=fun e H Q=>∃(l w:List RwI) (m k:Int) (u:List Mt),cF l w m∧ah (List.map e [0,6,8,9,10]) [.ptr 0 0,.ptr 3 0,.bool false,.list (bS l) .no,.I 0]∧av H [.abs (rkI l m),.abs (rkM (aq u) k),.cells [.ptr 1 0],.cells [.list (w.map csI) .no,.I m]]∧Q (.exit 0) (ak [0,6,8,9,10] [.ptr 0 0,.ptr 3 0,.bool false,.list (bS l) .no,.I l.length]) [.abs (rkI l m),.abs (rkM (aq u) k),.cells [.ptr 1 0],.cells [.list (w.map csI) .no,.I m]]
theorem Dg:∀ e H Q,I9 e H Q→AwK Tryz.f8.ntmps (.loop (ai [1,1,1,0,1,0] (ag Tryz.f8))) Q e H:=by
 rintro e H Q ⟨l,w,m,k,u,hl,he,hH,hQ⟩
 have hn:=hl.ok.len
 refine aB (hn:=fun o=>match o.dst with|some 15|some 46=>1|_=>0) aj Bd (.nil _ _ _ _ _) (σ:=Nat) [0,6,8,9,10] (fun i=>i≤l.length) (fun i=>[.ptr 0 0,.ptr 3 0,.bool false,.list (bS l) .no,.I i]) (fun _=>[.abs (rkI l m),.abs (rkM (aq u) k),.cells [.ptr 1 0],.cells [.list (w.map csI) .no,.I m]]) (fun i=>l.length-i) 0 (Nat.zero_le _) he hH ?_
 intro i hi
 have hi':i≤l.length:=hi
 refine KM l w m k u i _ ?_
 simp only[au,dt,an,show(bS l).length=l.length by simp[bS]]
 by_cases h:i<l.length
 ·rw[if_pos (by omega)]
  have inl:InL (bS l) 1 (i:Int):=by unfold bS; rw[dZ (sz:=1) (f:=fun r:RwI=>[PV.U r.id]) (fun _=>rfl) (by decide)]; exact h
  have hg:(bS l).getD i []=[.U (l.getD i default).id]:=by unfold bS; rw[getD_map default h]
  have ci:∀ z:Int,cI [.U z] 0=z:=fun _=>rfl
  simp only[hg,ci]
  refine⟨inl,?_⟩
  rw[if_pos (by rfl)]
  refine⟨0,l,m,_,rfl,rfl,hl.ok,inl,?_⟩
  rw[if_pos (by rfl)]
  refine⟨w,m,_,rfl,ju hl,?_⟩
  rw[if_neg (by rw[hl.My]; simp)]
  exact⟨i+1,(show l.length-(i+1)<l.length-i by omega),h,by rw[ar h (by omega)],[],rfl,Nat.le_refl _,.inl rfl⟩
 ·rw[if_neg (by omega)]
  have:i=l.length:=by omega
  subst this
  exact hQ
theorem Lw (l w:List RwI) (m k:Int) (u:List Mt):(by refine(?_:_→_→_→Prop) [PV.list (w.map csI) .no,.I m] (Ob.abs (rkM (aq u) k)) (PV.list (u.map mtc) .no); exact fun c d e=>by refine(?_:_→Prop) [Ob.abs (rkI l m),d,.cells [.ptr 1 0],.cells c]; exact fun b=>∀(K:PV→ae→Prop),(∃(l_1:List RwI) (w_1:List RwI) (m_1:Int) (most:Int),ah [.agg c] [.agg [.list (w_1.map csI) .no,.I m_1]]∧cF l_1 w_1 most∧∃(q:Nat) (l_2:List RwI) (most:Int),ah [.ptr 0 0] [.ptr q 0]∧bR b q (rkI l_2 most)∧Ok l_2 most∧∃(l_3:List Int),ah [.list (bS l_2) .no,.list (bS l_1) .no] [.list (l_3.map u1) .no,.list (l_3.map u1) .no]∧l_3.length≤1000000∧∃(q:Nat) (r:Nat) (w_2:List Mt) (m_2:Int),ah [.ptr 2 0] [.ptr q 0]∧cj b q r (rkM (aq w_2) m_2)∧MO w_2 m_2∧∃(w_3:List Mt) (tl:Tail),ah [e] [.list (w_3.map mtc) tl]∧w_3.length≤1000000∧∃(l_4:List Int),ah [.list (List.map u1 (w_2.map Mt.id)) .no,.list (List.map u1 (w_3.map Mt.id)) .no] [.list (l_4.map u1) .no,.list (l_4.map u1) .no]∧l_4.length≤1000000∧∃(l_5:List RwI) (w_4:List RwI) (m_3:Int) (k_1:Int) (u_1:List Mt),by refine(?_:_→Prop) [Ob.abs (rkI l_5 m_3),.abs (rkM (aq u_1) k_1),.cells [.ptr 1 0],.cells [.list (w_4.map csI) .no,.I m_3]]; exact fun a=>cF l_5 w_4 m_3∧ah [.ptr 0 0,.ptr 3 0,.bool false,.list (bS l_1) .no,.I 0] [.ptr 0 0,.ptr 3 0,.bool false,.list (bS l_5) .no,.I 0]∧av b a∧K (.bool true) a)→AcK 8 [.ptr 0 0,.ptr 2 0,.agg c,e] [.abs (rkI l m),d,.cells [.ptr 1 0]] K:Prop):=fun K h=>acW (T:=TLK) (L:=[([1,1,1,0,1,0],I9)]) (fun o=>match o.dst with|some 15|some 46=>1|_=>0) Tryz.func8 (Bd) (.cons suE Dg (.nil _ _ _ _ _)) h
def vj (args:List PV) (H:ae) (K:PV→Prop):Prop:=match args with
 | .ptr q 0 :: .ptr t 0::rest=>match Jb H t with
  | some a=>∃(l w:List RwI) (m k:Int) (u:List Mt) (tl:Tail),ah rest [.agg [.list (w.map csI) .no,.int .i64 m],.list (u.map mtc) tl]∧bR H q (rkI l m)∧cj H t a (rkM (aq u) k)∧q≠a∧cF l w m∧MO u k∧K (.bool true)
  | none=>False
 | _=>False
theorem y8 {l w:List RwI} {m k:Int} {u:List Mt} (hl:cF l w m) (ro:MO u k):AcK 8 [.ptr 0 0,.ptr 2 0,.agg [.list (w.map csI) .no,.I m],.list (u.map mtc) .no] [.abs (rkI l m),.abs (rkM (aq u) k),.cells [.ptr 1 0]] (fun x H'=>x = .bool true∧∃ G,H' = .abs (rkI l m) :: .abs (rkM (aq u) k) :: .cells [.ptr 1 0]::G):=by
 have hu:u.length≤1000000:=by have:=ro.full; have:=ro.big; omega
 have hn:=hl.ok.len
 have ids:∀ l:List RwI,bS l=(l.map Rw.id).map u1:=fun l=>by unfold bS; rw[List.map_map]; rfl
 refine Lw l w m k u _ ?_
 exact⟨l,w,m,m,rfl,hl,0,l,m,rfl,rfl,hl.ok,l.map Rw.id,(by rw[← ids]; rfl),(by rw[List.length_map]; exact hn),2,1,u,k,rfl,⟨rfl,rfl⟩,ro,u,.no,rfl,hu,u.map Mt.id,rfl,(by rw[List.length_map]; exact hu),l,w,m,k,u,hl,rfl,rfl,rfl,_,rfl⟩
theorem F6:SpK 8 (.read vj):=by
 intro args H K h
 unfold vj at h
 split at h
 ·rename_i q t rest
  split at h
  ·rename_i a ha
   obtain⟨l,w,m,k,u,tl,he,hI,hB,hne,hl,ro,hk⟩:=h
   have he:rest=_:=he
   subst he
   refine⟨_,bc (.cons (.refl _) (.cons (.refl _) (.cons (.refl _) (.cons (.list _ _) .nil)))) (pz aj hI hB hne (bn (cK w m) (bK u)) (.bool _) (a9 ((y8 hl ro).mono fun x H' ⟨h1,h2⟩=>⟨_,h1 ▸ .refl _,rfl,h2⟩)) ⟨rfl,?_⟩),hk⟩
   rw[qZ hI,qZ hB.2]
  ·exact h.elim
 ·exact h.elim
structure Td where
 ins:Int
 id:Int
 r:Int
instance:Inhabited Td:=⟨⟨0,0,0⟩⟩
def tdc (x:Td):List PV:=[.U x.ins,.U x.id,.I x.r]
theorem Ac (d:Wd):cF (dy [] 40 d.ra) (mI d.ra) 40:=cF.KA (l:=[]) (w:=[]) ⟨Ok.none (by decide) (by decide),.refl _,fun _ h=>nomatch h⟩ d.ra
theorem BV {ra:List RwI} {c:Mt} {r:Int} (hs:c.aa.length≤8):SmV (bj ra c r).1:=by
 have h1:=fN ra c.aa 1
 have h2:=fN ra c.aa 2
 have z:SmV vd0:=⟨Nat.zero_le _,Nat.zero_le _,Nat.zero_le _⟩
 have h3:=uk (bz ra c.aa 1).2.1 (bz ra c.aa 2).2.1 r
 unfold bj
 split
 ·exact z
 split
 ·exact z
 split
 ·exact z
 split
 ·split
  ·exact z
  ·refine⟨?_,?_,?_⟩<;>simp only[List.length_append]<;>omega
 ·refine⟨?_,?_,?_⟩<;>simp only[List.length_append]<;>omega
theorem Fp {u:List Mt} {k:Int} (ro:MO u k) (id:Int):(gM u id).aa.length≤8:=by
 by_cases c:bC Mt.id u id=true
 ·have h:=ro.cs _ (fC c).1
  have h1:=pS h
  have h2:=Jg h
  show(nR Mt.id u id).aa.length≤8
  omega
 ·rw[show gM u id=mt0 from gL (eq_false_of_ne_true c)]; exact Nat.zero_le _
def TLJ:Tab:=[(6,.pure Jh),(7,.heap JB),(9,.read sP),(15,.pure r6),(16,.read sO),(17,.pure I0),(13,.pure Jl),(12,.pure Jm),(8,.read vj),(14,.pure x7),(18,.heap nU),(19,.pure I7)]
theorem L3:TbK TLJ:= .cons KZ (.cons Ks (.cons r5 (.cons sg (.cons uA (.cons JW (.cons KH (.cons Ki (.cons F6 (.cons BR (.cons tc (.cons LV (.nil _ _))))))))))))
theorem KQ (d:Wd) (x:Td):(by refine(?_:_→_→Prop) [PV.list (d.ra.map prC) .no,.list (d.rows.map lcs) .no,.list (d.st.map i1) .no] (Ob.cells [.U x.ins,.U x.id,.I x.r]); exact fun F G=>∀(K:PV→Prop),(∃(w:Wd) (t1:Tail) (t2:Tail) (t3:Tail),ah [.agg F] [.agg [.list (w.ra.map prC) t1,.list (w.rows.map lcs) t2,.list (w.st.map i1) t3]]∧br (fk w) (K (.bool true)) (∃(d_1:Wd),by refine(?_:_→_→_→Prop) [PV.list (List.map csI (mI d_1.ra)) .no,.I 40] (Prod.fst (eG d_1 d_1.rows.length)) (Ob.abs (rkI (dy [] 40 d_1.ra) 40)); exact fun A B C=>by refine(?_:_→_→Prop) (Ob.abs (rkM (aq B) 6)) (PV.list (List.map mtc B) .no); exact fun D E=>ah [.agg F] [.agg [.list (d_1.ra.map prC) .no,.list (d_1.rows.map lcs) .no,.list (d_1.st.map i1) .no]]∧fk d_1=false∧raP d_1∧∃(q:Nat) (r:Nat) (w:List Mt) (m:Int) (t:Int),by refine(?_:_→Prop) [PV.U (Mt.id (gM w t)),.I (Mt.md (gM w t)),.U (Mt.ins (gM w t)),.list (List.map rrc (Mt.rows (gM w t))) .no,.list (List.map stc (Mt.aa (gM w t))) .no]; exact fun z=>ah [.ptr 4 0,.U x.id] [.ptr q 0,.U t]∧cj [.cells F,G,C,D,.cells [.ptr 3 0],.cells A] q r (rkM (aq w) m)∧MO w m∧∃(w_1:List Mt) (tl:Tail) (t_1:Int),by refine(?_:_→Prop) [PV.U (Mt.id (gM w_1 t_1)),.I (Mt.md (gM w_1 t_1)),.U (Mt.ins (gM w_1 t_1)),.list (List.map rrc (Mt.rows (gM w_1 t_1))) .no,.list (List.map stc (Mt.aa (gM w_1 t_1))) .no]; exact fun y=>ah [E,.U x.id] [.list (w_1.map mtc) tl,.U t_1]∧w_1.length≤1000000∧∃(q:Nat) (ra:List RwI) (most:Int) (c:Mt) (t1:Tail) (t2:Tail) (r:Int),by refine(?_:_→Prop) (Prod.fst (bj ra c r)); exact fun s=>by refine(?_:_→Prop) [PV.U (Vd.m s),.U (Vd.i s),.I (Vd.r s),.list (List.map u1 (Vd.ps s)) .no,.list (List.map i1 (Vd.old s)) .no,.list (List.map i1 (Vd.new s)) .no]; exact fun p=>ah [.ptr 2 0,.agg z,.I x.r] [.ptr q 0,.agg [.U c.id,.I c.md,.U c.ins,.list (c.rows.map rrc) t1,.list (c.aa.map stc) t2],.I r]∧bR [.cells F,G,C,D,.cells [.ptr 3 0],.cells A,.cells z,.cells y] q (rkI ra most)∧Ok ra most∧c.aa.length≤100000∧∃(l:List RwI) (w_2:List RwI) (m:Int) (c_1:Mt) (t1:Tail) (t2:Tail) (r_1:Int),by refine(?_:_→Prop) (bj l c_1 r_1); exact fun o=>by refine(?_:_→Prop) (Prod.fst o); exact fun n=>by refine(?_:_→Prop) [PV.U (Vd.m n),.U (Vd.i n),.I (Vd.r n),.list (List.map u1 (Vd.ps n)) .no,.list (List.map i1 (Vd.old n)) .no,.list (List.map i1 (Vd.new n)) .no]; exact fun j=>by refine(?_:_→Prop) [Ob.cells F,G,C,D,.cells [.ptr 3 0],.cells A,.cells z,.cells y,.cells p,.cells j]; exact fun h=>ah [.agg A,.agg y,.I x.r] [.agg [.list (w_2.map csI) .no,.I m],.agg [.U c_1.id,.I c_1.md,.U c_1.ins,.list (c_1.rows.map rrc) t1,.list (c_1.aa.map stc) t2],.I r_1]∧cF l w_2 m∧c_1.aa.length≤100000∧br ((Prod.snd (bj ra c r) != Prod.snd o) == false) (∃(v:Vd),by refine(?_:_→Prop) (PV.agg [.U v.m,.U v.i,.I v.r,.list (v.ps.map u1) .no,.list (v.old.map i1) .no,.list (v.new.map i1) .no]); exact fun g=>ah [.agg p] [g]∧∃(v_1:Vd),by refine(?_:_→Prop) (PV.agg [.U v_1.m,.U v_1.i,.I v_1.r,.list (v_1.ps.map u1) .no,.list (v_1.old.map i1) .no,.list (v_1.new.map i1) .no]); exact fun f=>ah [g,.agg j] [f,f]∧SmV v_1∧∃(l_1:List RwI) (w_3:List RwI) (m:Int) (k:Int) (u:List Mt) (tl:Tail),ah [.agg A,E] [.agg [.list (w_3.map csI) .no,.I m],.list (u.map mtc) tl]∧bR h 2 (rkI l_1 m)∧cj h 4 3 (rkM (aq u) k)∧2≠3∧cF l_1 w_3 m∧MO u k∧br (Prod.snd (bj ra c r) != 0) (ah [] []∧K (.bool true)) (∃(ra_1:List RwI) (most:Int) (v:Vd) (t1:Tail) (t2:Tail) (t3:Tail),ah [.agg p] [.agg [.U v.m,.U v.i,.I v.r,.list (v.ps.map u1) t1,.list (v.old.map i1) t2,.list (v.new.map i1) t3]]∧bR h 2 (rkI ra_1 most)∧Ok ra_1 most∧v.ps.length≤1000000∧∃(l_2:List RwI) (w_4:List RwI) (m:Int) (v_2:Vd) (t1:Tail) (t2:Tail) (t3:Tail),by refine(?_:_→Prop) (iv w_4 m v_2); exact fun e=>by refine(?_:_→Prop) [PV.list (List.map csI (Prod.fst e)) .no,.I m]; exact fun b=>by refine(?_:_→Prop) [Ob.cells F,G,.abs (rkI (Prod.fst (cE ra_1 most v)) most),D,.cells [.ptr 3 0],.cells A,.cells z,.cells y,.cells p,.cells j,.cells b]; exact fun a=>ah [.agg A,.agg j] [.agg [.list (w_4.map csI) .no,.I m],.agg [.U v_2.m,.U v_2.i,.I v_2.r,.list (v_2.ps.map u1) t1,.list (v_2.old.map i1) t2,.list (v_2.new.map i1) t3]]∧cF l_2 w_4 m∧v_2.ps.length≤1000000∧br ((Prod.snd (cE ra_1 most v) == Prod.snd e) == true) (∃(l_3:List RwI) (w_5:List RwI) (m_1:Int) (k:Int) (u:List Mt) (tl:Tail),ah [.agg b,E] [.agg [.list (w_5.map csI) .no,.I m_1],.list (u.map mtc) tl]∧bR a 2 (rkI l_3 m_1)∧cj a 4 3 (rkM (aq u) k)∧2≠3∧cF l_3 w_5 m_1∧MO u k∧ah [] []∧K (.bool true)) (K (.bool false)))) (K (.bool false))))→AcK 4 [.agg (wdC d),.agg (tdc x)] [] (fun x _=>K x):Prop):=fun K h=>acW (T:=TLJ) (L:=[]) (fun o=>match o.dst with|some 20|some 23|some 45|some 52|some 53|some 63|some 65|some 72|some 81|some 84|some 85|some 95=>1|some 74=>5|_=>0) Tryz.func4 (L3) (LOk.nil _ _ _ _ _) h
theorem vO (d:Wd) (x:Td) (hp:raP d):AcK 4 [.agg (wdC d),.agg (tdc x)] [] (fun y _=>y = .bool true):=by
 refine KQ d x (fun y=>y = .bool true) ⟨d,.no,.no,.no,rfl,?_⟩
 simp only[au]
 by_cases c1:fk d=true
 ·rw[if_pos c1]; trivial
 have c1:=eq_false_of_ne_true c1
 rw[if_neg (by rw[c1]; decide)]
 refine⟨d,rfl,c1,hp,?_⟩
 obtain⟨ro,_⟩:=lI d d.rows.length
 have lk:=Ac d
 generalize (eG d d.rows.length).1=u at ro ⊢
 generalize dy [] 40 d.ra=ra at lk ⊢
 generalize mI d.ra=w at lk ⊢
 have hs:=Fp ro x.id
 have sm:=BV (ra:=ra) (r:=x.r) hs
 refine⟨4,3,u,6,x.id,rfl,⟨rfl,rfl⟩,ro,u,.no,x.id,rfl,(by have:=ro.full; omega),2,ra,40,gM u x.id,.no,.no,x.r,rfl,rfl,lk.ok,by omega,ra,w,40,gM u x.id,.no,.no,x.r,rfl,lk,by omega,?_⟩
 generalize bj ra (gM u x.id) x.r=v at sm ⊢
 rw[if_pos (by simp)]
 refine⟨v.1,rfl,v.1,rfl,sm,ra,w,40,6,u,.no,rfl,rfl,⟨rfl,rfl⟩,by decide,lk,ro,?_⟩
 by_cases c2:v.2=0
 ·rw[if_neg (by simp[c2])]
  obtain⟨a1,a2⟩:=lk.apply v.1
  refine⟨ra,40,v.1,.no,.no,.no,rfl,rfl,lk.ok,sm.ps,ra,w,40,v.1,.no,.no,.no,rfl,lk,sm.ps,?_⟩
  rw[if_pos (by rw[a2]; simp)]
  exact⟨_,_,40,6,u,.no,rfl,rfl,⟨rfl,rfl⟩,by decide,a1,ro,rfl,trivial⟩
 ·rw[if_pos (by simpa using c2)]
  exact⟨rfl,trivial⟩
end Go.Proofs.YtenaelaapdhbdaaGreatDoor
namespace Go.Proofs.YtenaelaapdhbdaaGreatDoor
open Go Go.AM Go.Proofs
set_option maxRecDepth 10000
theorem u_3:Tryz.prog.underlying 3=some (.int .i64):=by kernel_rfl
theorem GI:Tryz.prog.underlying 38=some (.int .u32):=by kernel_rfl
theorem NB:Tryz.prog.underlying 47=some (.slice 38):=by kernel_rfl
theorem Nx:Tryz.prog.underlying 59=some (.slice 75):=by kernel_rfl
theorem No:Tryz.prog.underlying 22=some (.slice 80):=by kernel_rfl
theorem Nf:Tryz.prog.underlying 23=some (.slice 59):=by kernel_rfl
theorem Nj:Tryz.prog.underlying 24=some (.slice 3):=by kernel_rfl
theorem Ns:∃ fs,Tryz.prog.underlying 75=some (.struct fs)∧fs.toList.map (·.type)=[3,47,3,3]:=⟨_,Tryz.underlying75,rfl⟩
theorem Nu:∃ fs,Tryz.prog.underlying 80=some (.struct fs)∧fs.toList.map (·.type)=[38,3]:=⟨_,Tryz.underlying80,rfl⟩
theorem Nt:∃ fs,Tryz.prog.underlying 40=some (.struct fs)∧fs.toList.map (·.type)=[38,38,3]:=⟨_,Tryz.underlying40,rfl⟩
theorem Nz:∃ fs,Tryz.prog.underlying 26=some (.struct fs)∧fs.toList.map (·.type)=[22,23,24]:=⟨_,Tryz.underlying26,rfl⟩
theorem MK {k:Nat} {xs:List PV} (h:WTp Tryz.prog (k+1+1) 47 xs):∃ l:List Int,xs=[.list (l.map u1) .no]∧∀ p∈l,0≤p:=by
 obtain⟨es,rfl,_,g⟩:=jt NB h
 obtain⟨l,rfl,hl⟩:=jC (f:=u1) (Q:=fun n=>0≤n) fun r hr=>by
  obtain⟨n,h1,h2,_⟩:=fl GI (g r hr)
  exact⟨n,h1,h2⟩
 exact⟨l,rfl,hl⟩
theorem MU {k:Nat} {cs:List PV} (h:WTp Tryz.prog (k+1+1+1) 75 cs):∃ r:Rr,cs=rrc r∧∀ p∈r.pl,0≤p:=by
 obtain⟨fs,hs,hf⟩:=Ns
 have g:=kp hs h
 rw[hf] at g
 obtain⟨x1,r1,rfl,h1,g⟩:=de g
 obtain⟨x2,r2,rfl,h2,g⟩:=de g
 obtain⟨x3,r3,rfl,h3,g⟩:=de g
 obtain⟨x4,r4,rfl,h4,g⟩:=de g
 obtain rfl:=n5 g
 obtain⟨a,rfl,_⟩:=fl u_3 h1
 obtain⟨l,rfl,h7⟩:=MK h2
 obtain⟨b,rfl,_⟩:=fl u_3 h3
 obtain⟨c,rfl,_⟩:=fl u_3 h4
 exact⟨⟨a,l,b,c⟩,rfl,h7⟩
theorem MA {k:Nat} {cs:List PV} (h:WTp Tryz.prog (k+1+1+1+1) 59 cs):∃ l:List Rr,cs=lcs l∧vH l:=by
 obtain⟨es,rfl,_,g⟩:=jt Nx h
 obtain⟨l,rfl,hl⟩:=jC (f:=rrc) (Q:=fun r=>∀ p∈r.pl,0≤p) fun r hr=>MU (g r hr)
 exact⟨l,rfl,hl⟩
theorem M4 {k:Nat} {cs:List PV} (h:WTp Tryz.prog (k+1+1) 80 cs):∃ p:Int×Int,cs=prC p∧0≤p.1:=by
 obtain⟨fs,hs,hf⟩:=Nu
 have g:=kp hs h
 rw[hf] at g
 obtain⟨x1,r1,rfl,h1,g⟩:=de g
 obtain⟨x2,r2,rfl,h2,g⟩:=de g
 obtain rfl:=n5 g
 obtain⟨a,rfl,ha,_⟩:=fl GI h1
 obtain⟨b,rfl,_⟩:=fl u_3 h2
 exact⟨(a,b),rfl,ha⟩
theorem Mp {x:PV} (h:WTa Tryz.prog 6 26 x):∃ d:Wd,x = .agg (wdC d)∧raP d:=by
 obtain⟨fs,hs,hf⟩:=Nz
 obtain⟨cs,rfl,g⟩:=pL hs h
 rw[hf] at g
 obtain⟨x1,r1,rfl,h1,g⟩:=de g
 obtain⟨x2,r2,rfl,h2,g⟩:=de g
 obtain⟨x3,r3,rfl,h3,g⟩:=de g
 obtain rfl:=n5 g
 obtain⟨e1,rfl,_,g1⟩:=jt No h1
 obtain⟨ra,rfl,ha⟩:=jC (f:=prC) (Q:=fun p=>0≤p.1) fun r hr=>M4 (g1 r hr)
 obtain⟨e2,rfl,_,g2⟩:=jt Nf h2
 obtain⟨rw_,rfl,hb⟩:=jC (f:=lcs) (Q:=fun l=>vH l) fun r hr=>MA (g2 r hr)
 obtain⟨e3,rfl,_,g3⟩:=jt Nj h3
 obtain⟨st,rfl,_⟩:=jC (f:=i1) (Q:=fun _=>True) fun r hr=>by
  obtain⟨n,h1,_⟩:=fl u_3 (g3 r hr)
  exact⟨n,h1,trivial⟩
 exact⟨⟨ra,rw_,st⟩,rfl,ha,hb⟩
theorem M1 {x:PV} (h:WTa Tryz.prog 6 40 x):∃ t:Td,x = .agg (tdc t):=by
 obtain⟨fs,hs,hf⟩:=Nt
 obtain⟨cs,rfl,g⟩:=pL hs h
 rw[hf] at g
 obtain⟨x1,r1,rfl,k1,g⟩:=de g
 obtain⟨x2,r2,rfl,k2,g⟩:=de g
 obtain⟨x3,r3,rfl,k3,g⟩:=de g
 obtain rfl:=n5 g
 obtain⟨a,rfl,_⟩:=fl GI k1
 obtain⟨b,rfl,_⟩:=fl GI k2
 obtain⟨c,rfl,_⟩:=fl u_3 k3
 exact⟨⟨a,b,c⟩,rfl⟩
theorem sY (xs:List PV) (h:rV Tryz.prog 6 Tryz.f4.params.toList xs):AcK 4 xs [] (fun x _=>x = .bool true):=by
 rw[Tryz.params4] at h
 obtain⟨x,r,rfl,h1,y,r2,rfl,h2,h3⟩:=h
 obtain rfl:=vz h3
 obtain⟨d,rfl,hp⟩:=Mp h1
 obtain⟨t,rfl⟩:=M1 h2
 exact vO d t hp
end Go.Proofs.YtenaelaapdhbdaaGreatDoor
