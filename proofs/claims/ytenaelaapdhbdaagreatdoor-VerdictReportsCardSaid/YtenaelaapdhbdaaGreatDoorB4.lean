/-
  What the program's and the document's functions do, over plain values, part 7.
-/
import Derived.Test.YtenaelaapdhbdaaGreatDoorB3
import Derived.Test.YtenaelaapdhbdaaGreatDoorProg
namespace Go.Proofs.YtenaelaapdhbdaaGreatDoor
open Go Go.AM Go.Proofs
def gH (k:Int) (s:Se):Bool:=s.tm == k && (s.st == 2 || s.st == 3)
def bc (l:List Se) (k:Int):List Se:=l.filter (gH k)
def pu1 (s:Se):List PV:=u1 s.pl
def pi1 (ra:List RwI) (s:Se):List PV:=i1 (bF ra s.pl)
theorem om {n:Nat} (s:Se):∀ y∈pu1 s,Low n y:=bO _
theorem xV {n:Nat} (ra:List RwI) (s:Se):∀ y∈pi1 ra s,Low n y:=iL _
def TVT:Tab:=[(33,.read p5)]
theorem v7:TbK TVT:= .cons ol (.nil _ _)
theorem Mc (ra:List RwI) (most:Int) (c:Mt) (k:Int) (i:Nat):(by refine(?_:_→_→_→_→_→Prop) (List.getD (c.aa.map stc) (Int.toNat (i:Int)) []) (PV.list (c.aa.map stc) .no) (PV.I c.aa.length) (PV.I (wI ((i:Int)+1))) (Ob.abs (rkI ra most)); exact fun g n p v w=>by refine(?_:_→_→_→_→Prop) (Ob.cells [.U c.id,.I c.md,.U c.ins,.list (c.rows.map rrc) .no,n]) [[PV.U (cI g 0)]] [PV.ptr 0 0,.I k,.E,.E,.I 0,n,p,.I i] (PV.U (cI g 0)); exact fun j r s u=>by refine(?_:_→Prop) (Ob.cells [u,.I (cI g 1),.I (cI g 2),.I (cI g 3),.I (cI g 4),.int .u64 (cI g 5)]); exact fun m=>by refine(?_:_→_→Prop) [Ob.abs (rkI ra most),j,m] [w,j,m,.tok,.tok]; exact fun h x=>∀(R:Ex→List PV→ae→Prop),by refine(?_:_→_→Prop) (R .normal [.ptr 0 0,.I k,.E,.E,.I 0,n,p,v] h) (R .ret [.ptr 0 0,.I k,.E,.E,.I 12,n,p,.I i] h); exact fun d f=>(br (decide ((i:Int)<(c.aa.length:Int))) (InL (c.aa.map stc) 6 (i:Int)∧br (true && aD [.int .u32,.int .i64,.int .i64,.int .i64,.int .i64,.int .u64] 0 g) (br ((cI g 1 != k) == false) (br ((cI g 3 != 2) == true) (br (cI g 3 != 3) d (∃(q:Nat) (l:List RwI) (most_1:Int) (t:Int),by refine(?_:_→Prop) [[PV.I (bF l t)]]; exact fun a=>ah [.ptr 0 0,u] [.ptr q 0,.U t]∧bU h q (rkI l most_1)∧Ok l most_1∧br (!has l t) f (aG [] r 1 4∧(List.all [u] PV.one=true∧r≠[])∧aG [] a 1 8∧(List.all [.I (bF l t)] PV.one=true∧a≠[])∧R .normal [.ptr 0 0,.I k,.list r (.tok 3),.list a (.tok 4),.I 0,n,p,v] x))) (∃(q:Nat) (l:List RwI) (most_1:Int) (t:Int),by refine(?_:_→Prop) [[PV.I (bF l t)]]; exact fun b=>ah [.ptr 0 0,u] [.ptr q 0,.U t]∧bU h q (rkI l most_1)∧Ok l most_1∧br (!has l t) f (aG [] r 1 4∧(List.all [u] PV.one=true∧r≠[])∧aG [] b 1 8∧(List.all [.I (bF l t)] PV.one=true∧b≠[])∧R .normal [.ptr 0 0,.I k,.list r (.tok 3),.list b (.tok 4),.I 0,n,p,v] x))) d) False) (R (.exit 0) s [w,j]))→Holds (wpK TVT [] (fun o=>match o.dst with|some 47=>1|some 51=>1|_=>0) (ai [1,0,1,0] (ag Tryz.f41)) [] (ak [0,2,6,7,8,14,15,16] s) [w,.cells (mtc c)] (fun ex e H=>R ex (List.map e [0,2,6,7,8,14,15,16]) H)):Prop):=fun R h=>hoE h
theorem KJ (ra:List RwI) (most:Int) (c:Mt) (k:Int) (a:List Se) (i:Nat):(by refine(?_:_→_→_→_→_→_→_→Prop) (List.getD (c.aa.map stc) (Int.toNat (i:Int)) []) (PV.list (c.aa.map stc) .no) (PV.I c.aa.length) (List.map (pi1 ra) a) (PV.I (wI ((i:Int)+1))) (PV.list (a.map pu1) (.tok 2)) (Ob.abs (rkI ra most)); exact fun h p r v w y C=>by refine(?_:_→_→_→_→_→Prop) (Ob.cells [.U c.id,.I c.md,.U c.ins,.list (c.rows.map rrc) .no,p]) [[PV.U (cI h 0)]] (PV.U (cI h 0)) C C; exact fun m s u A B=>by refine(?_:_→_→Prop) (Ob.cells [u,.I (cI h 1),.I (cI h 2),.I (cI h 3),.I (cI h 4),.int .u64 (cI h 5)]) (PV.list (a.map pu1++s) (.tok 5)); exact fun n z=>by refine(?_:_→_→Prop) [A,m,.tok,.tok,n] [A,m,.dead,.dead,n,.tok,.tok]; exact fun j x=>∀(R:Ex→List PV→ae→Prop),by refine(?_:_→_→Prop) (R .normal [.ptr 0 0,.I k,y,.list v (.tok 3),.I 0,p,r,w] j) (R .ret [.ptr 0 0,.I k,.E,.E,.I 12,p,r,.I i] j); exact fun f g=>(br (decide ((i:Int)<(c.aa.length:Int))) (InL (c.aa.map stc) 6 (i:Int)∧br (true && aD [.int .u32,.int .i64,.int .i64,.int .i64,.int .i64,.int .u64] 0 h) (br ((cI h 1 != k) == false) (br ((cI h 3 != 2) == true) (br (cI h 3 != 3) f (∃(q:Nat) (l:List RwI) (most_1:Int) (t:Int),by refine(?_:_→Prop) [[PV.I (bF l t)]]; exact fun b=>ah [.ptr 0 0,u] [.ptr q 0,.U t]∧bU j q (rkI l most_1)∧Ok l most_1∧br (!has l t) g (aG (a.map pu1) s 1 4∧(List.all [u] PV.one=true∧s≠[])∧aG v b 1 8∧(List.all [.I (bF l t)] PV.one=true∧b≠[])∧R .normal [.ptr 0 0,.I k,z,.list (List.map (pi1 ra) a++b) (.tok 6),.I 0,p,r,w] x))) (∃(q:Nat) (l:List RwI) (most_1:Int) (t:Int),by refine(?_:_→Prop) [[PV.I (bF l t)]]; exact fun d=>ah [.ptr 0 0,u] [.ptr q 0,.U t]∧bU j q (rkI l most_1)∧Ok l most_1∧br (!has l t) g (aG (a.map pu1) s 1 4∧(List.all [u] PV.one=true∧s≠[])∧aG v d 1 8∧(List.all [.I (bF l t)] PV.one=true∧d≠[])∧R .normal [.ptr 0 0,.I k,z,.list (List.map (pi1 ra) a++d) (.tok 6),.I 0,p,r,w] x))) f) False) (R (.exit 0) [.ptr 0 0,.I k,y,.list v (.tok 3),.I 0,p,r,.I i] [B,m,.tok,.tok]))→Holds (wpK TVT [] (fun o=>match o.dst with|some 47=>1|some 51=>1|_=>0) (ai [1,0,1,0] (ag Tryz.f41)) [] (ak [0,2,6,7,8,14,15,16] [.ptr 0 0,.I k,y,.list (a.map (pi1 ra)) (.tok 3),.I 0,p,r,.I i]) [B,.cells (mtc c),.tok,.tok] (fun ex e H=>R ex (List.map e [0,2,6,7,8,14,15,16]) H)):Prop):=fun R h=>hoE h
theorem ct0 (s:Se):cI (stc s) 0=s.pl:=rfl
theorem ct1 (s:Se):cI (stc s) 1=s.tm:=rfl
theorem ct3 (s:Se):cI (stc s) 3=s.st:=rfl
theorem s8 {n:Nat} {α:Type} {f:α→List PV} (hf:∀ a,∀ x∈f a,Low 0 x) (l:List α) (t:Tail) (ht:NT t):Lid n (.list (l.map f) t):= .low (aH ht (bp fun a _=>hf a))
theorem kB {a b:List Se} {ra:List RwI} {t u:Tail} {c:Mt} {k e i:Int} (ht:NT t) (hu:NT u):∀ v∈[.ptr 0 0,.I k,.list (a.map pu1) t,.list (b.map (pi1 ra)) u,.I e,.list (c.aa.map stc) .no,.I c.aa.length,.I i],Lid 2 v:=by
 intro v hv
 simp only[List.mem_cons,List.not_mem_nil,or_false] at hv
 rcases hv with rfl|rfl|rfl|rfl|rfl|rfl|rfl|rfl
 ·exact .ptr _ _ (by decide)
 ·exact .low (.int _ _)
 ·exact s8 om _ _ ht
 ·exact s8 (xV ra) _ _ hu
 ·exact .low (.int _ _)
 ·exact .low (dz _)
 ·exact .low (.int _ _)
 ·exact .low (.int _ _)
theorem J9 {x y x' y' z:PV} {k e n i:Int} (h:Wk x x') (h2:Wk y y'):WkL [.ptr 0 0,.I k,x,y,.I e,z,.I n,.I i] [.ptr 0 0,.I k,x',y',.I e,z,.I n,.I i]:=
 .cons (.refl _) (.cons (.refl _) (.cons h (.cons h2 (.cons (.refl _) (.cons (.refl _) (.cons (.refl _) (.cons (.refl _) .nil)))))))
theorem yN {ra:List RwI} {most:Int} {c:Mt}:o5 [.abs (rkI ra most),.cells (mtc c)]:=by
 intro o cs ho
 have k1:=(List.getElem?_eq_some_iff.1 ho).1
 simp at k1
 have:o=0∨o=1:=by omega
 rcases this with rfl|rfl<;>cases ho
 exact fun x hx=> .inl (gC c x hx)
theorem I3 {ra:List RwI} {most:Int} {c:Mt}:gN 2 [.abs (rkI ra most),.cells (mtc c)]:=by
 intro o cs ho x hx
 rcases yN o cs ho x hx with h|⟨q,off,h,rfl⟩
 ·exact .low h
 ·exact .ptr _ _ h
theorem F1 {c:Mt} {k i:Int}:BD 2 (fun T U=>[.ptr 0 0,.I k,T,U,.I 0,.list (c.aa.map stc) .no,.I c.aa.length,.I i]):=by
 intro ρ n k1 k2 es1 es2 h1 h2 h3 h4 h5 h6
 have e0:=Ren.ptr (ρ:=ρ) (n:=n) 0 0 (by omega)
 rw[h1 0 (by decide)] at e0
 exact .cons e0 (.cons (.low (.int _ _)) (.cons (.ltok es1 k1 h3 h5) (.cons (.ltok es2 k2 h4 h6) (.cons (.low (.int _ _)) (.cons (.low (dz _)) (.cons (.low (.int _ _)) (.cons (.low (.int _ _)) .nil)))))))
def Nc:LSp:=fun e H Q=>∃(ra:List RwI) (most:Int) (c:Mt) (k:Int),Ok ra most∧c.aa.length≤1000000∧ah (List.map e [0,2,6,7,8,14,15,16]) [.ptr 0 0,.I k,.E,.E,.I 0,.list (c.aa.map stc) .no,.I c.aa.length,.I 0]∧av H [.abs (rkI ra most),.cells (mtc c)]∧((∀ s∈bc c.aa k,has ra s.pl=true)→Q (.exit 0) (ak [0,2,6,7,8,14,15,16] [.ptr 0 0,.I k,.list ((bc c.aa k).map pu1) .no,.list ((bc c.aa k).map (pi1 ra)) .no,.I 0,.list (c.aa.map stc) .no,.I c.aa.length,.I c.aa.length]) [.abs (rkI ra most),.cells (mtc c)])∧(∀ i:Nat,¬ (∀ s∈bc c.aa k,has ra s.pl=true)→Q .ret (ak [0,2,6,7,8,14,15,16] [.ptr 0 0,.I k,.E,.E,.I 12,.list (c.aa.map stc) .no,.I c.aa.length,.I i]) [.abs (rkI ra most),.cells (mtc c)])
theorem G8:∀ e H Q,Nc e H Q→AwK Tryz.f41.ntmps (.loop (ai [1,0,1,0] (ag Tryz.f41))) Q e H:=by
 rintro e H Q ⟨ra,most,c,k,ok,hcl,he,hH,hQ0,hQ1⟩
 refine DS (f1:=pu1) (f2:=pi1 ra) (acc:=fun i=>bc (c.aa.take i) k) (I:=fun i=>i≤c.aa.length∧∀ s∈bc (c.aa.take i) k,has ra s.pl=true) (m:=fun i=>c.aa.length-i) aj [0,2,6,7,8,14,15,16] (fun T U i=>[.ptr 0 0,.I k,T,U,.I 0,.list (c.aa.map stc) .no,.I c.aa.length,.I i]) [.abs (rkI ra most),.cells (mtc c)] (0:Nat) yN I3
  (fun a=>om a) (fun a=>xV ra a) (fun _ _=>F1) (fun _ _=>kB (a:=[]) (b:=[]) (ra:=ra) .exact .exact) ⟨Nat.zero_le _,fun _ h=>nomatch h⟩ rfl he hH ?_ ?_
 ·rintro i ⟨hi,hall⟩ ha
  have hi':i≤c.aa.length:=hi
  have ha:bc (c.aa.take i) k=[]:=ha
  have hal:(bc (c.aa.take i) k).length≤i:=dI _ _ _
  refine aZ v7 (ai [1,0,1,0] (ag Tryz.f41)) [] (.nil _ _ _ _ _) _ _ _ (Mc ra most c k i _ ?_).out
  simp only[au,dt,an]
  by_cases h:i<c.aa.length
  ·rw[if_pos (by omega)]
   have inl:InL (c.aa.map stc) 6 (i:Int):=by rw[dD bQ (by decide)]; exact h
   obtain⟨s,hsd⟩:∃ s,s=c.aa.getD i default:=⟨_,rfl⟩
   have hs:bc (c.aa.take (i+1)) k=bc (c.aa.take i) k++(if gH k s=true then [s] else []):=by rw[hsd]; exact eH default h
   refine⟨inl,?_⟩
   simp only[getD_map default h,← hsd,ct0,ct1,ct3]
   rw[if_pos (by rfl)]
   by_cases c1:s.tm=k
   ·rw[if_pos (by simp[c1])]
    by_cases c2:s.st=2
    ·rw[if_neg (by simp[c2])]
     have hct:gH k s=true:=by simp[gH,c1,c2]
     rw[if_pos hct] at hs
     refine⟨0,ra,most,s.pl,rfl,rfl,ok,?_⟩
     by_cases hh:has ra s.pl=true
     ·rw[if_neg (by rw[hh]; decide)]
      refine⟨aE (f:=pu1) (l:=[]) (by_:=4) (fun _=>rfl) s (by show(0+1)*4≤_; decide),one_row (f:=pu1) (fun _=>dy _) s,aE (f:=pi1 ra) (l:=[]) (by_:=8) (fun _=>rfl) s (by show(0+1)*8≤_; decide),one_row (f:=pi1 ra) (fun _=>fI _) s,?_⟩
      have hall2:∀ s∈bc (c.aa.take (i+1)) k,has ra s.pl=true:=by
       rw[hs]
       intro y hy
       rcases List.mem_append.1 hy with hy|hy
       ·exact hall y hy
       ·rcases List.mem_singleton.1 hy with rfl; exact hh
      exact⟨i+1,(show c.aa.length-(i+1)<c.aa.length-i by omega),⟨h,hall2⟩,.inr ⟨by(try dsimp only); rw[hs,ha]; simp,[_,.tok,.tok],3,4,rfl,rfl,rfl,by simp,by simp,by decide,by(try dsimp only); rw[ar h (by omega),hs,ha]; rfl⟩⟩
     ·rw[if_pos (by rw[eq_false_of_ne_true hh]; rfl)]
      exact⟨_,[_],rfl,.refl _,kB (a:=[]) (b:=[]) (ra:=ra) .exact .exact,hQ1 i fun hA=>hh (hA s (List.mem_filter.2 ⟨by rw[hsd]; exact aY h,hct⟩))⟩
    ·rw[if_pos (by simp[c2])]
     by_cases c3:s.st=3
     ·rw[if_neg (by simp[c3])]
      have hct:gH k s=true:=by simp[gH,c1,c3]
      rw[if_pos hct] at hs
      refine⟨0,ra,most,s.pl,rfl,rfl,ok,?_⟩
      by_cases hh:has ra s.pl=true
      ·rw[if_neg (by rw[hh]; decide)]
       refine⟨aE (f:=pu1) (l:=[]) (by_:=4) (fun _=>rfl) s (by show(0+1)*4≤_; decide),one_row (f:=pu1) (fun _=>dy _) s,aE (f:=pi1 ra) (l:=[]) (by_:=8) (fun _=>rfl) s (by show(0+1)*8≤_; decide),one_row (f:=pi1 ra) (fun _=>fI _) s,?_⟩
       have hall2:∀ s∈bc (c.aa.take (i+1)) k,has ra s.pl=true:=by
        rw[hs]
        intro y hy
        rcases List.mem_append.1 hy with hy|hy
        ·exact hall y hy
        ·rcases List.mem_singleton.1 hy with rfl; exact hh
       exact⟨i+1,(show c.aa.length-(i+1)<c.aa.length-i by omega),⟨h,hall2⟩,.inr ⟨by(try dsimp only); rw[hs,ha]; simp,[_,.tok,.tok],3,4,rfl,rfl,rfl,by simp,by simp,by decide,by(try dsimp only); rw[ar h (by omega),hs,ha]; rfl⟩⟩
      ·rw[if_pos (by rw[eq_false_of_ne_true hh]; rfl)]
       exact⟨_,[_],rfl,.refl _,kB (a:=[]) (b:=[]) (ra:=ra) .exact .exact,hQ1 i fun hA=>hh (hA s (List.mem_filter.2 ⟨by rw[hsd]; exact aY h,hct⟩))⟩
     ·rw[if_pos (by simp[c3])]
      rw[gH,if_neg (by simp[c2,c3])] at hs
      rw[List.append_nil] at hs
      have hall2:∀ s∈bc (c.aa.take (i+1)) k,has ra s.pl=true:=by rw[hs]; exact hall
      exact⟨i+1,(show c.aa.length-(i+1)<c.aa.length-i by omega),⟨h,hall2⟩,.inl ⟨hs.trans ha,[_],rfl,by rw[ar h (by omega)]⟩⟩
   ·rw[if_neg (by simp[c1])]
    rw[gH,if_neg (by simp[c1])] at hs
    rw[List.append_nil] at hs
    have hall2:∀ s∈bc (c.aa.take (i+1)) k,has ra s.pl=true:=by rw[hs]; exact hall
    exact⟨i+1,(show c.aa.length-(i+1)<c.aa.length-i by omega),⟨h,hall2⟩,.inl ⟨hs.trans ha,[_],rfl,by rw[ar h (by omega)]⟩⟩
  ·rw[if_neg (by omega)]
   have:i=c.aa.length:=by omega
   subst this
   rw[List.take_length] at hall ha
   exact⟨_,[],(List.append_nil _).symm,J9 (by rw[ha]; exact .list _ _) (by rw[ha]; exact .list _ _),kB .no .no,hQ0 hall⟩
 ·rintro i ⟨hi,hall⟩ ha
  have hi':i≤c.aa.length:=hi
  have ha:bc (c.aa.take i) k≠[]:=ha
  have hal:(bc (c.aa.take i) k).length≤i:=dI _ _ _
  refine aZ v7 (ai [1,0,1,0] (ag Tryz.f41)) [] (.nil _ _ _ _ _) _ _ _ (KJ ra most c k (bc (c.aa.take i) k) i _ ?_).out
  simp only[au,dt,an]
  by_cases h:i<c.aa.length
  ·rw[if_pos (by omega)]
   have inl:InL (c.aa.map stc) 6 (i:Int):=by rw[dD bQ (by decide)]; exact h
   obtain⟨s,hsd⟩:∃ s,s=c.aa.getD i default:=⟨_,rfl⟩
   have hs:bc (c.aa.take (i+1)) k=bc (c.aa.take i) k++(if gH k s=true then [s] else []):=by rw[hsd]; exact eH default h
   refine⟨inl,?_⟩
   simp only[getD_map default h,← hsd,ct0,ct1,ct3]
   rw[if_pos (by rfl)]
   by_cases c1:s.tm=k
   ·rw[if_pos (by simp[c1])]
    by_cases c2:s.st=2
    ·rw[if_neg (by simp[c2])]
     have hct:gH k s=true:=by simp[gH,c1,c2]
     rw[if_pos hct] at hs
     refine⟨0,ra,most,s.pl,rfl,rfl,ok,?_⟩
     by_cases hh:has ra s.pl=true
     ·rw[if_neg (by rw[hh]; decide)]
      refine⟨aE (f:=pu1) (by_:=4) (fun _=>rfl) (bc (c.aa.take i) k) s (by omega),one_row (f:=pu1) (fun _=>dy _) s,aE (f:=pi1 ra) (by_:=8) (fun _=>rfl) (bc (c.aa.take i) k) s (by omega),one_row (f:=pi1 ra) (fun _=>fI _) s,?_⟩
      have hall2:∀ s∈bc (c.aa.take (i+1)) k,has ra s.pl=true:=by
       rw[hs]
       intro y hy
       rcases List.mem_append.1 hy with hy|hy
       ·exact hall y hy
       ·rcases List.mem_singleton.1 hy with rfl; exact hh
      exact⟨i+1,(show c.aa.length-(i+1)<c.aa.length-i by omega),⟨h,hall2⟩,.inr ⟨by(try dsimp only); rw[hs]; simp,[.dead,.dead,_,.tok,.tok],5,6,rfl,rfl,rfl,by simp,by simp,by decide,by(try dsimp only); rw[ar h (by omega),hs,List.map_append,List.map_append]; rfl⟩⟩
     ·rw[if_pos (by rw[eq_false_of_ne_true hh]; rfl)]
      exact⟨_,[.tok,.tok,_],rfl,.refl _,kB (a:=[]) (b:=[]) (ra:=ra) .exact .exact,hQ1 i fun hA=>hh (hA s (List.mem_filter.2 ⟨by rw[hsd]; exact aY h,hct⟩))⟩
    ·rw[if_pos (by simp[c2])]
     by_cases c3:s.st=3
     ·rw[if_neg (by simp[c3])]
      have hct:gH k s=true:=by simp[gH,c1,c3]
      rw[if_pos hct] at hs
      refine⟨0,ra,most,s.pl,rfl,rfl,ok,?_⟩
      by_cases hh:has ra s.pl=true
      ·rw[if_neg (by rw[hh]; decide)]
       refine⟨aE (f:=pu1) (by_:=4) (fun _=>rfl) (bc (c.aa.take i) k) s (by omega),one_row (f:=pu1) (fun _=>dy _) s,aE (f:=pi1 ra) (by_:=8) (fun _=>rfl) (bc (c.aa.take i) k) s (by omega),one_row (f:=pi1 ra) (fun _=>fI _) s,?_⟩
       have hall2:∀ s∈bc (c.aa.take (i+1)) k,has ra s.pl=true:=by
        rw[hs]
        intro y hy
        rcases List.mem_append.1 hy with hy|hy
        ·exact hall y hy
        ·rcases List.mem_singleton.1 hy with rfl; exact hh
       exact⟨i+1,(show c.aa.length-(i+1)<c.aa.length-i by omega),⟨h,hall2⟩,.inr ⟨by(try dsimp only); rw[hs]; simp,[.dead,.dead,_,.tok,.tok],5,6,rfl,rfl,rfl,by simp,by simp,by decide,by(try dsimp only); rw[ar h (by omega),hs,List.map_append,List.map_append]; rfl⟩⟩
      ·rw[if_pos (by rw[eq_false_of_ne_true hh]; rfl)]
       exact⟨_,[.tok,.tok,_],rfl,.refl _,kB (a:=[]) (b:=[]) (ra:=ra) .exact .exact,hQ1 i fun hA=>hh (hA s (List.mem_filter.2 ⟨by rw[hsd]; exact aY h,hct⟩))⟩
     ·rw[if_pos (by simp[c3])]
      rw[gH,if_neg (by simp[c2,c3])] at hs
      rw[List.append_nil] at hs
      have hall2:∀ s∈bc (c.aa.take (i+1)) k,has ra s.pl=true:=by rw[hs]; exact hall
      exact⟨i+1,(show c.aa.length-(i+1)<c.aa.length-i by omega),⟨h,hall2⟩,.inr ⟨by(try dsimp only); rw[hs]; exact ha,[.tok,.tok,_],2,3,rfl,rfl,rfl,by simp,by simp,by decide,by(try dsimp only); rw[ar h (by omega),hs]⟩⟩
   ·rw[if_neg (by simp[c1])]
    rw[gH,if_neg (by simp[c1])] at hs
    rw[List.append_nil] at hs
    have hall2:∀ s∈bc (c.aa.take (i+1)) k,has ra s.pl=true:=by rw[hs]; exact hall
    exact⟨i+1,(show c.aa.length-(i+1)<c.aa.length-i by omega),⟨h,hall2⟩,.inr ⟨by(try dsimp only); rw[hs]; exact ha,[.tok,.tok,_],2,3,rfl,rfl,rfl,by simp,by simp,by decide,by(try dsimp only); rw[ar h (by omega),hs]⟩⟩
  ·rw[if_neg (by omega)]
   have:i=c.aa.length:=by omega
   subst this
   rw[List.take_length] at hall ha
   rw[List.take_length]
   exact⟨_,[.tok,.tok],rfl,J9 (.list _ _) (.list _ _),kB .no .no,hQ0 hall⟩
theorem Fp (ra:List RwI) (most:Int) (c:Mt) (k:Int):∀(K:PV→ae→Prop),(∃(ra_1:List RwI) (most_1:Int) (c_1:Mt) (k_1:Int),by refine(?_:_→_→Prop) (PV.list (c_1.aa.map stc) .no) (bc c_1.aa k_1); exact fun b d=>by refine(?_:_→Prop) [Ob.abs (rkI ra_1 most_1),.cells [.U c_1.id,.I c_1.md,.U c_1.ins,.list (c_1.rows.map rrc) .no,b]]; exact fun a=>Ok ra_1 most_1∧c_1.aa.length≤1000000∧ah [.ptr 0 0,.I k,.E,.E,.I 0,.list (c.aa.map stc) .no,.I (↑(List.length (c.aa.map stc)):Int),.I 0] [.ptr 0 0,.I k_1,.E,.E,.I 0,b,.I c_1.aa.length,.I 0]∧av [.abs (rkI ra most),.cells [.U c.id,.I c.md,.U c.ins,.list (c.rows.map rrc) .no,.list (c.aa.map stc) .no]] a∧((∀(s:Se),s∈bc c_1.aa k_1→has ra_1 s.pl=true)→K (.tup [.list (List.map pu1 d) .no,.list (List.map (pi1 ra_1) d) .no,.I 0]) a)∧∀(_:Nat),(¬∀(s:Se),s∈bc c_1.aa k_1→has ra_1 s.pl=true)→K (.tup [.E,.E,.I 12]) a)→AcK 41 [.ptr 0 0,c.pv,.I k] [.abs (rkI ra most)] K:=fun K h=>acW (T:=TVT) (L:=[([1,0,1,0],Nc)]) (fun _=>0) Tryz.func41 (v7) (.cons suE G8 (.nil _ _ _ _ _)) h
def bD (ra:List RwI) (l:List Se) (k:Int):List Int×List Int×Int:=if(bc l k).all (fun s=>has ra s.pl)=true then((bc l k).map Se.pl,(bc l k).map (fun s=>bF ra s.pl),0) else([],[],12)
def yx (v:List Int×List Int×Int):PV:= .tup [.list (v.1.map u1) .no,.list (v.2.1.map i1) .no,.I v.2.2]
theorem zl {n:Nat} (v:List Int×List Int×Int):Low n (yx v):= .tup _ (dn (bq bO _) (bq iL _) (.int _ _))
def wX (args:List PV) (H:ae) (K:PV→Prop):Prop:=∃(q:Nat) (ra:List RwI) (most:Int) (c:Mt) (t1 t2:Tail) (k:Int),ah args [.ptr q 0,.agg [.U c.id,.I c.md,.U c.ins,.list (c.rows.map rrc) t1,.list (c.aa.map stc) t2],.I k]∧bU H q (rkI ra most)∧Ok ra most∧c.aa.length≤1000000∧
 (let v:=bD ra c.aa k; K (.tup [.list (v.1.map u1) .no,.list (v.2.1.map i1) .no,.I v.2.2]))
theorem DT:SpK 41 (.read wX):=by
 rintro args H K ⟨q,ra,most,c,t1,t2,k,he,hA,ok,hl,hk⟩
 have he:args=_:=he
 subst he
 refine⟨yx (bD ra c.aa k),?_,hk⟩
 refine bj (.cons (.refl _) (.cons (.agg (xs':=mtc c) (.cons (.refl _) (.cons (.refl _) (.cons (.refl _) (.cons (.list _ _) (.cons (.list _ _) .nil)))))) (.cons (.refl _) .nil))) ?_
 refine tN aj hA (args0:=[.ptr 0 0,c.pv,.I k]) (.cons (Ren.ptr (ρ:=fun _=>q) (n:=1) 0 0 (by omega)) (.cons (.low c.low) (.cons (.low (.int _ _)) .nil))) (zl _) ?_
 refine a9 (Fp ra most c k _ ⟨ra,most,c,k,ok,hl,(by show _=_; rw[List.length_map]),rfl,fun hA=>?_,fun i hA=>?_⟩)
 ·have e:bD ra c.aa k=((bc c.aa k).map Se.pl,(bc c.aa k).map (fun s=>bF ra s.pl),0):=if_pos (List.all_eq_true.2 hA)
  refine⟨_,.refl _,?_,[_],rfl⟩
  rw[e]; simp only[yx,List.map_map]; rfl
 ·have e:bD ra c.aa k=([],[],12):=if_neg (fun h=>hA (List.all_eq_true.1 h))
  refine⟨yx (bD ra c.aa k),?_,rfl,[_],rfl⟩
  rw[e]
  exact .tup (.cons (.list _ _) (.cons (.list _ _) (.cons (.refl _) .nil)))
namespace CI
theorem Hv (l:List Int):(l.map i1).flatten.length=l.length:=by rw[bE gJ,Nat.mul_one]
theorem eE {n:Nat} (l:List Int):Low n (.list (l.map i1) .no):=bq iL l
theorem rV (l:List Int):∀(K:PV→ae→Prop),(∀(b:Bool),(List.flatten (l.map i1)≠[]→b=false)→br b (K (.E) []) (aG [] (l.map i1) 1 8∧List.all (List.flatten (l.map i1)) PV.one=true∧(l.map i1=[]→K (.E) [])∧(l.map i1≠[]→K (.list ([]++l.map i1) (.tok 0)) [.tok])))→AcK 44 [.list (l.map i1) .no] [] K:=fun K h=>acW (T:=[]) (L:=[]) (fun o=>match o.dst with|some 7=>4|_=>0) Tryz.func44 (aX.nil _ _) (LOk.nil _ _ _ _ _) h
theorem yH (H:ae)  (K:PV→ae→Prop) (h:∀(b:Bool),(([]:List PV)≠[]→b=false)→br b (K (.E) H) (aG [] [] 1 8∧K (.list [] .no) H)):AcK 44 [.list [] .no] H K:=
 acW (T:=[]) (L:=[]) (fun _=>0) Tryz.func44 (aX.nil _ _) (LOk.nil _ _ _ _ _) h
theorem xX (H:ae) (l:List Int):∀(K:PV→ae→Prop),(∀(b:Bool),(List.flatten (l.map i1)≠[]→b=false)→br b (K (.E) H) (List.length (List.flatten (l.map i1))=List.length (l.map i1)*1∧List.length (l.map i1)*8≤140737488355328∧0<List.length (l.map i1)∧∀(c:Nat),List.length (l.map i1)≤c→K (.arr H.length 0 (List.length (l.map i1)) c) (H++[.cells (List.flatten (l.map i1)++List.flatten (List.replicate (c-List.length (l.map i1)) [.I 0]))])))→AcK 44 [.list (l.map i1) .no] H K:=fun K h=>acW (T:=[]) (L:=[]) (fun o=>match o.dst with|some 7=>2|_=>0) Tryz.func44 (aX.nil _ _) (LOk.nil _ _ _ _ _) h
theorem wU {l:List Int} (h:l≠[]):(l.map i1).flatten≠[]:=by
 cases l with
 | nil=>exact absurd rfl h
 | cons a l=>simp[i1]
def EU (args:List PV) (K:List (List PV)→Prop):Prop:=∃(l:List Int) (tl:Tail),ah args [.list (l.map i1) tl]∧l.length≤1000000∧K (l.map i1)
theorem DM:SpK 44 (.mk EU):=by
 rintro args K ⟨l,tl,he,hl,hk⟩
 have he:args=_:=he
 subst he
 refine⟨l.map i1,hk,Jm aj (.cons (.list _ _) .nil) (bw (eE l)) (bp fun a _=>iL a) (rV l _ ?_)⟩
 intro b hb
 rw[au]
 cases b with
 | true=>
  rw[if_pos rfl]
  have hn:l=[]:=Classical.byContradiction fun h=>absurd (hb (wU h)) (by decide)
  subst hn
  exact⟨fun _=>rfl,fun h=>absurd rfl h⟩
 | false=>
  rw[if_neg (by decide)]
  refine⟨⟨(fun _ h=>nomatch h),b8 gJ l,by simp; omega⟩,?_,fun h=>?_,fun h=>?_⟩
  ·exact List.all_eq_true.2 (by have:=Hv l; intro y hy; obtain⟨c,h2,h3⟩:=List.mem_flatten.1 hy; obtain⟨a,_,rfl⟩:=List.mem_map.1 h2; exact fI a y h3)
  ·exact⟨fun _=>rfl,fun h2=>absurd h h2⟩
  ·exact⟨fun h2=>absurd h2 h,fun _=>⟨0,rfl,rfl⟩⟩
def JF (args:List PV) (K:PV→Prop):Prop:=∃(l:List Int) (tl:Tail),ah args [.list (l.map i1) tl]∧l.length≤1000000∧K (.list (l.map i1) .no)
theorem Is:SpK 44 (.pure JF):=by
 rintro args K ⟨l,tl,he,hl,hk⟩
 obtain⟨es,rfl,h⟩:=DM [.list (l.map i1) .no] (fun es=>es=l.map i1) ⟨l,.no,rfl,hl,rfl⟩
 have he:args=_:=he
 subst he
 refine bu aj (.cons (.list _ _) .nil) (bw (eE l)) (eE l) (a9 ((h []).mono fun x H' k=>?_)) hk
 by_cases c:l.map i1=[]
 ·obtain⟨rfl,_⟩:=k.1 c
  rw[c]; exact⟨_,.list _ _,rfl⟩
 ·obtain⟨rfl,_⟩:=k.2 c
  exact⟨_,.list _ _,rfl⟩
end CI
def D0 (args:List PV) (K:PV→Prop):Prop:=∃(a b:List Int) (r:Int),ah args [.list (a.map i1) .no,.list (b.map i1) .no,.I r]∧a.length≤1000000∧b.length≤1000000∧(let v:=Elo.upd a b r; K (.tup [.list (v.1.map i1) .no,.list (v.2.1.map i1) .no,.I v.2.2]))
theorem IX:SpK 45 (.pure D0):=by
 rintro args K ⟨a,b,r,he,ha,hb,hk⟩
 have he:args=_:=he
 subst he
 exact Elo.Av _ K ⟨a,b,rfl,rfl,by unfold Elo.cn; omega,by unfold Elo.cn; omega,NT.no,NT.no,hk⟩
def TJU:Tab:=[(41,.read wX),(42,.pure CU.nO),(43,.pure CI.nO),(44,.pure CI.JF),(45,.pure D0)]
theorem KO:TbK TJU:= .cons DT (.cons CU.pC (.cons CI.pC (.cons CI.Is (.cons IX (.nil _ _)))))
theorem Lq (ra:List RwI) (most:Int) (c:Mt) (r:Int):∀(R:Ex→List PV→ae→Prop),(R .normal [.ptr 0 0,.I r,.ptr 1 0,.ptr 2 0,.ptr 3 0] [.abs (rkI ra most),.cells [.U c.id,.I c.md,.U c.ins,.list (c.rows.map rrc) .no,.list (c.aa.map stc) .no],.cells [.U 0,.U 0,.I 0,.E,.E,.E],.cells [.I 0]])→Holds (wpK [] [] (fun _=>0) (b5 [0] (ag Tryz.f16)) [] (ak [0,1,2] [.ptr 0 0,c.pv,.I r]) [.abs (rkI ra most)] (fun ex e H=>R ex (List.map e [0,2,4,6,7]) H)):=fun R h=>hoE h
theorem Kz (ra:List RwI) (most:Int) (c:Mt) (r:Int):(by refine(?_:_→_→_→_→_→Prop) [PV.U c.id,.I c.md,.U c.ins,.list (c.rows.map rrc) .no,.list (c.aa.map stc) .no] (Ob.cells [.U 0,.U 0,.I 0,.E,.E,.E]) (Ob.abs (rkI ra most)) [PV.ptr 2 0,.ptr 3 0] (Ob.cells [.I 0]); exact fun w x y z A=>∀(R:Ex→List PV→ae→Prop),by refine(?_:_→Prop) (R .ret z [y,.cells w,x,.cells [.I 2]]); exact fun v=>(br (decide (r<0) == false) (br (decide (r≥3)) v (∃(q:Nat) (ra_1:List RwI) (most_1:Int) (c_1:Mt) (t1:Tail) (t2:Tail) (k:Int),by refine(?_:_→Prop) (bD ra_1 c_1.aa k); exact fun u=>by refine(?_:_→Prop) (Prod.snd u); exact fun s=>by refine(?_:_→_→Prop) [Ob.abs (rkI ra most),.cells w,x,.cells [.I (Prod.snd s)]] (List.map i1 (Prod.fst s)); exact fun p t=>ah [.ptr 0 0,.agg w,.I 1] [.ptr q 0,.agg [.U c_1.id,.I c_1.md,.U c_1.ins,.list (c_1.rows.map rrc) t1,.list (c_1.aa.map stc) t2],.I k]∧bU [y,.cells w,x,A] q (rkI ra_1 most_1)∧Ok ra_1 most_1∧c_1.aa.length≤1000000∧br (Prod.snd s != 0) (R .ret z p) (∃(q:Nat) (ra_2:List RwI) (most_2:Int) (c_2:Mt) (t1:Tail) (t2:Tail) (k_1:Int),by refine(?_:_→Prop) (bD ra_2 c_2.aa k_1); exact fun n=>by refine(?_:_→Prop) (Prod.snd n); exact fun j=>by refine(?_:_→Prop) (List.map i1 (Prod.fst j)); exact fun m=>ah [.ptr 0 0,.agg w,.I 2] [.ptr q 0,.agg [.U c_2.id,.I c_2.md,.U c_2.ins,.list (c_2.rows.map rrc) t1,.list (c_2.aa.map stc) t2],.I k_1]∧bU p q (rkI ra_2 most_2)∧Ok ra_2 most_2∧c_2.aa.length≤1000000∧br (Prod.snd j != 0) (R .ret z [y,.cells w,x,.cells [.I (Prod.snd j)]]) (∃(a:List Int) (b:List Int),ah [.list [[PV.list (List.map u1 (Prod.fst u)) .no],[.list (List.map u1 (Prod.fst n)) .no]] .exact] [.list [[PV.list (a.map u1) .no],[.list (b.map u1) .no]] .exact]∧a.length+b.length≤1000000∧∃(a_1:List Int) (b_1:List Int),by refine(?_:_→Prop) (PV.list (List.map i1 (a_1++b_1)) .no); exact fun i=>ah [.list [[PV.list t .no],[.list m .no]] .exact] [.list [[PV.list (a_1.map i1) .no],[.list (b_1.map i1) .no]] .exact]∧a_1.length+b_1.length≤1000000∧∃(l:List Int) (tl:Tail),by refine(?_:_→Prop) (Ob.cells [.U c.id,.U c.ins,.I r,.list (List.map u1 (a++b)) .no,i,.list (l.map i1) .no]); exact fun h=>by refine(?_:_→Prop) (R .ret z [y,.cells w,h,A]); exact fun g=>ah [i] [.list (l.map i1) tl]∧l.length≤1000000∧br (decide ((↑(List.length t):Int)>0) == true) (br (decide ((↑(List.length m):Int)>0)) (∃(a_2:List Int) (b_2:List Int) (r_1:Int),by refine(?_:_→Prop) (Elo.upd a_2 b_2 r_1); exact fun f=>by refine(?_:_→Prop) (Prod.snd f); exact fun d=>ah [.list t .no,.list m .no,.I r] [.list (a_2.map i1) .no,.list (b_2.map i1) .no,.I r_1]∧a_2.length≤1000000∧b_2.length≤1000000∧br (Prod.snd d != 0) (R .ret z [y,.cells w,h,.cells [.I (Prod.snd d)]]) (∃(a_3:List Int) (b_3:List Int),ah [.list [[PV.list (List.map i1 (Prod.fst f)) .no],[.list (List.map i1 (Prod.fst d)) .no]] .exact] [.list [[PV.list (a_3.map i1) .no],[.list (b_3.map i1) .no]] .exact]∧a_3.length+b_3.length≤1000000∧R .ret z [y,.cells w,.cells [.U c.id,.U c.ins,.I r,.list (List.map u1 (a++b)) .no,i,.list (List.map i1 (a_3++b_3)) .no],A])) g) g)))) v)→Holds (wpK TJU [] (fun o=>match o.dst with|some 22=>1|some 81=>1|some 25=>1|some 36=>1|some 32=>201006|some 33=>301001|some 43=>201006|some 44=>301001|some 46=>101001|some 48=>101201|some _=>0|none=>match o.op with| .store _ (.tmp 6) _=>201006| .store _ (.tmp 7) _=>301001|_=>0) (b5 [1,1] (ag Tryz.f16)) [] (ak [0,2,4,6,7] [.ptr 0 0,.I r,.ptr 1 0,.ptr 2 0,.ptr 3 0]) [y,.cells (mtc c),x,A] (fun ex e H=>R ex (List.map e [6,7]) H)):Prop):=fun R h=>hoE h
theorem MK (R0 B0:Ob) (m i r e:Int) (x y z:PV)  (K:PV→ae→Prop) (h:br (e != 0) (K (.tup []) [R0,B0,.cells [.U 0,.U 0,.I 0,.E,.E,.E],.cells [.I e]]) (K (.tup []) [R0,B0,.cells [.U m,.U i,.I r,x,y,z],.cells [.I e]])):iy Tryz.prog gl 40 [.ptr 3 0,.ptr 2 0] [R0,B0,.cells [.U m,.U i,.I r,x,y,z],.cells [.I e]] K:=
 qh (T:=[]) (L:=[]) (fun _=>0) Tryz.func40 (by kernel_rfl) (by kernel_rfl) (by kernel_rfl) (aX.nil _ _) (LOk.nil _ _ _ _ _) (hoE h)
structure Vd where
 m:Int
 i:Int
 r:Int
 ps:List Int
 old:List Int
 new:List Int
def vd0:Vd:=⟨0,0,0,[],[],[]⟩
def vdC (v:Vd):List PV:=[.U v.m,.U v.i,.I v.r,.list (v.ps.map u1) .no,.list (v.old.map i1) .no,.list (v.new.map i1) .no]
theorem fB {n:Nat} (v:Vd):∀ y∈vdC v,Low n y:=by
 intro y hy
 simp only[vdC,List.mem_cons,List.not_mem_nil,or_false] at hy
 rcases hy with rfl|rfl|rfl|rfl|rfl|rfl<;>first|exact .int _ _|exact bq bO _|exact bq iL _
def bi (ra:List RwI) (c:Mt) (r:Int):Vd×Int:=
 if r<0∨3≤r then(vd0,2) else if(bD ra c.aa 1).2.2≠0 then(vd0,(bD ra c.aa 1).2.2) else if(bD ra c.aa 2).2.2≠0 then(vd0,(bD ra c.aa 2).2.2)
 else if 0<(bD ra c.aa 1).2.1.length∧0<(bD ra c.aa 2).2.1.length then
  (if(Elo.upd (bD ra c.aa 1).2.1 (bD ra c.aa 2).2.1 r).2.2≠0 then(vd0,(Elo.upd (bD ra c.aa 1).2.1 (bD ra c.aa 2).2.1 r).2.2)
   else(⟨c.id,c.ins,r,(bD ra c.aa 1).1++(bD ra c.aa 2).1,(bD ra c.aa 1).2.1++(bD ra c.aa 2).2.1,(Elo.upd (bD ra c.aa 1).2.1 (bD ra c.aa 2).2.1 r).1++(Elo.upd (bD ra c.aa 1).2.1 (bD ra c.aa 2).2.1 r).2.1⟩,0))
 else(⟨c.id,c.ins,r,(bD ra c.aa 1).1++(bD ra c.aa 2).1,(bD ra c.aa 1).2.1++(bD ra c.aa 2).2.1,(bD ra c.aa 1).2.1++(bD ra c.aa 2).2.1⟩,0)
theorem fS (ra:List RwI) (l:List Se) (k:Int):(bD ra l k).1.length≤l.length∧(bD ra l k).2.1.length=(bD ra l k).1.length:=by
 unfold bD
 split
 ·exact⟨by rw[List.length_map]; exact List.length_filter_le _ _,by rw[List.length_map,List.length_map]⟩
 ·exact⟨Nat.zero_le _,rfl⟩
theorem tL (a b:List Int) (r:Int):(Elo.upd a b r).1.length≤4∧(Elo.upd a b r).2.1.length≤4:=by
 unfold Elo.upd
 split
 ·exact⟨Nat.zero_le _,Nat.zero_le _⟩
 ·split
  ·exact⟨Nat.zero_le _,Nat.zero_le _⟩
  ·simp only[Elo.b9]; omega
def w4 (K:PV→ae→Prop):Ex→List PV→ae→Prop:=fun ex vs H3=>(ex = .normal∨ex = .ret)∧iy Tryz.prog gl 40 [.ptr 3 0,.ptr 2 0] H3 fun _ H4=>kO Tryz.prog Tryz.f16.results.toList K ex (ak [6,7] vs) H4
set_option maxRecDepth 10000 in
theorem JU {K:PV→ae→Prop} {R0 B0:Ob} {m i r e:Int} {x y z:PV} (h:e≠0→K (.tup [.agg [.U 0,.U 0,.I 0,.E,.E,.E],.I e]) [R0,B0,.cells [.U 0,.U 0,.I 0,.E,.E,.E],.cells [.I e]])
  (h0:e=0→K (.tup [.agg [.U m,.U i,.I r,x,y,z],.I e]) [R0,B0,.cells [.U m,.U i,.I r,x,y,z],.cells [.I e]]):w4 K .ret [.ptr 2 0,.ptr 3 0] [R0,B0,.cells [.U m,.U i,.I r,x,y,z],.cells [.I e]]:=by
 refine⟨.inr rfl,MK R0 B0 m i r e x y z _ ?_⟩
 rw[au]
 by_cases c:e=0
 ·rw[if_neg (by simp[c])]
  exact Eq.mpr (by kernel_rfl) (h0 c)
 ·rw[if_pos (by simp[c])]
  exact Eq.mpr (by kernel_rfl) (h c)
def oR (v:Vd×Int):PV:= .tup [.agg (vdC v.1),.I v.2]
theorem oG {n:Nat} (v:Vd×Int):Low n (oR v):= .tup _ (bn (.agg _ (fB _)) (.int _ _))
def jK (ra:List RwI) (most:Int) (v:Vd×Int):PV→ae→Prop:=fun x H'=>Wk x (oR v)∧∃ G,H' = .abs (rkI ra most)::G
theorem ni {e:Int}:Wk (.tup [.agg [.U 0,.U 0,.I 0,.E,.E,.E],.I e]) (oR (vd0,e)):= .tup (.cons (.agg (xs':=vdC vd0) (.cons (.refl _) (.cons (.refl _) (.cons (.refl _) (.cons (.list _ _) (.cons (.list _ _) (.cons (.list _ _) .nil))))))) (.cons (.refl _) .nil))
theorem E2 {ra:List RwI} {most:Int} {c:Mt} {v:Vd×Int} {m i r e:Int} {x y z:PV} (h:v=(vd0,e)) (he:e≠0):w4 (jK ra most v) .ret [.ptr 2 0,.ptr 3 0] [.abs (rkI ra most),.cells (mtc c),.cells [.U m,.U i,.I r,x,y,z],.cells [.I e]]:=
 JU (fun _=>by rw[h]; exact⟨ni,_,rfl⟩) (fun h0=>absurd h0 he)
theorem Cp {ra:List RwI} {most:Int} {c:Mt} {v:Vd×Int} {w:Vd} (h:v=(w,0)):w4 (jK ra most v) .ret [.ptr 2 0,.ptr 3 0] [.abs (rkI ra most),.cells (mtc c),.cells (vdC w),.cells [.I 0]]:=
 JU (fun h0=>absurd rfl h0) (fun _=>by rw[h]; exact⟨.refl _,_,rfl⟩)
theorem Np [Dfr] {ra:List RwI} {most:Int} {c:Mt} {r:Int} (ok:Ok ra most) (hl:c.aa.length≤100000) {e:Env} (he:ah (List.map e [0,2,4,6,7]) [.ptr 0 0,.I r,.ptr 1 0,.ptr 2 0,.ptr 3 0]):AwK Tryz.f16.ntmps (b5 [1,1] (ag Tryz.f16)) (fun ex e3 H3=>(ex = .normal∨ex = .ret)∧iy Tryz.prog gl 40 [.ptr 3 0,.ptr 2 0] H3 fun _ H4=>kO Tryz.prog Tryz.f16.results.toList (jK ra most (bi ra c r)) ex e3 H4) e [.abs (rkI ra most),.cells (mtc c),.cells [.U 0,.U 0,.I 0,.E,.E,.E],.cells [.I 0]]:=by
 refine dj (T:=TJU) (slots:=[0,2,4,6,7]) (outs:=[6,7]) (hn:=fun o=>match o.dst with|some 22=>1|some 81=>1|some 25=>1|some 36=>1|some 32=>201006|some 33=>301001|some 43=>201006|some 44=>301001|some 46=>101001|some 48=>101201|some _=>0|none=>match o.op with| .store _ (.tmp 6) _=>201006| .store _ (.tmp 7) _=>301001|_=>0) KO (.nil _ _ _ _ _) he rfl (Kz ra most c r (w4 (jK ra most (bi ra c r))) ?_)
 simp only[au,List.length_map]
 by_cases c1:r<0
 ·rw[if_neg (by simpa using c1)]
  exact E2 (by unfold bi; rw[if_pos (.inl c1)]) (by decide)
 rw[if_pos (by simpa using c1)]
 by_cases c2:3≤r
 ·rw[if_pos (by simpa using c2)]
  exact E2 (by unfold bi; rw[if_pos (.inr c2)]) (by decide)
 rw[if_neg (by simpa using c2)]
 have n0:¬ (r<0∨3≤r):=by omega
 refine⟨0,ra,most,c,.no,.no,1,rfl,rfl,ok,by omega,?_⟩
 obtain⟨l1,l2⟩:=fS ra c.aa 1
 obtain⟨l3,l4⟩:=fS ra c.aa 2
 by_cases c3:(bD ra c.aa 1).2.2=0
 ·rw[if_neg (by simpa using c3)]
  refine⟨0,ra,most,c,.no,.no,2,rfl,rfl,ok,by omega,?_⟩
  by_cases c4:(bD ra c.aa 2).2.2=0
  ·rw[if_neg (by simpa using c4)]
   refine⟨_,_,rfl,by omega,_,_,rfl,by omega,_,.no,rfl,by rw[List.length_append]; omega,?_⟩
   have good:∀ w e,0<(bD ra c.aa 1).2.1.length∧0<(bD ra c.aa 2).2.1.length→_:=fun(_:Unit) (_:Unit) h=>h
   clear good
   by_cases c5:0<(bD ra c.aa 1).2.1.length
   ·rw[if_pos (by rw[decide_eq_true (by omega)]; try rfl)]
    by_cases c6:0<(bD ra c.aa 2).2.1.length
    ·rw[if_pos (by rw[decide_eq_true (by omega)]; try rfl)]
     refine⟨_,_,r,rfl,by omega,by omega,?_⟩
     obtain⟨l5,l6⟩:=tL (bD ra c.aa 1).2.1 (bD ra c.aa 2).2.1 r
     by_cases c7:(Elo.upd (bD ra c.aa 1).2.1 (bD ra c.aa 2).2.1 r).2.2=0
     ·rw[if_neg (by simpa using c7)]
      refine⟨_,_,rfl,by omega,?_⟩
      exact Cp (w:=⟨c.id,c.ins,r,_,_,_⟩) (by unfold bi; rw[if_neg n0,if_neg (by simpa using c3),if_neg (by simpa using c4),if_pos ⟨c5,c6⟩,if_neg (by simpa using c7)])
     ·rw[if_pos (by simpa using c7)]
      exact E2 (by unfold bi; rw[if_neg n0,if_neg (by simpa using c3),if_neg (by simpa using c4),if_pos ⟨c5,c6⟩,if_pos c7]) c7
    ·rw[if_neg (by rw[decide_eq_false (by omega)]; decide)]
     exact Cp (w:=⟨c.id,c.ins,r,_,_,_⟩) (by unfold bi; rw[if_neg n0,if_neg (by simpa using c3),if_neg (by simpa using c4),if_neg (fun h=>c6 h.2)])
   ·rw[if_neg (by rw[decide_eq_false (by omega)]; decide)]
    exact Cp (w:=⟨c.id,c.ins,r,_,_,_⟩) (by unfold bi; rw[if_neg n0,if_neg (by simpa using c3),if_neg (by simpa using c4),if_neg (fun h=>c5 h.1)])
  ·rw[if_pos (by simpa using c4)]
   exact E2 (by unfold bi; rw[if_neg n0,if_neg (by simpa using c3),if_pos c4]) c4
 ·rw[if_pos (by simpa using c3)]
  exact E2 (by unfold bi; rw[if_neg n0,if_pos c3]) c3
def wS (args:List PV) (H:ae) (K:PV→Prop):Prop:=∃(q:Nat) (ra:List RwI) (most:Int) (c:Mt) (t1 t2:Tail) (r:Int),ah args [.ptr q 0,.agg [.U c.id,.I c.md,.U c.ins,.list (c.rows.map rrc) t1,.list (c.aa.map stc) t2],.I r]∧bU H q (rkI ra most)∧Ok ra most∧c.aa.length≤100000∧
 (let v:=bi ra c r; K (.tup [.agg [.U v.1.m,.U v.1.i,.I v.1.r,.list (v.1.ps.map u1) .no,.list (v.1.old.map i1) .no,.list (v.1.new.map i1) .no],.I v.2]))
theorem BA:SpK 16 (.read wS):=by
 rintro args H K ⟨q,ra,most,c,t1,t2,r,he,hA,ok,hl,hk⟩
 have he:args=_:=he
 subst he
 refine⟨oR (bi ra c r),?_,hk⟩
 refine bj (.cons (.refl _) (.cons (.agg (xs':=mtc c) (.cons (.refl _) (.cons (.refl _) (.cons (.refl _) (.cons (.list _ _) (.cons (.list _ _) .nil)))))) (.cons (.refl _) .nil))) ?_
 refine tN aj hA (args0:=[.ptr 0 0,c.pv,.I r]) (.cons (Ren.ptr (ρ:=fun _=>q) (n:=1) 0 0 (by omega)) (.cons (.low c.low) (.cons (.low (.int _ _)) .nil))) (oG _) ?_
 refine a9 (ax.mono (K:=jK ra most (bi ra c r)) ?_ fun x H' ⟨h1,h2⟩=>⟨_,h1,rfl,h2⟩)
 refine ng (t:=15) 0 Tryz.func16 (by kernel_rfl) (by kernel_rfl) (by kernel_rfl) (by kernel_rfl) (by kernel_rfl) ?_
 refine dj (T:=[]) (slots:=[0,1,2]) (fO:=[.ptr 0 0,c.pv,.I r]) (outs:=[0,2,4,6,7]) (hn:=fun _=>0) (.nil _ _) (.nil _ _ _ _ _) rfl rfl (Lq ra most c r (fun ex vs H'=>ex = .normal∧opw Tryz.prog gl (KV (ag Tryz.f16)).op 0 (ev gl (ak [0,2,4,6,7] vs)) H' fun x H2=>∃ F caps,x = .fn F caps∧cO Tryz.prog F=true∧
   ∀ D:Dfr,@AW D Tryz.prog gl Tryz.f16.ntmps (b5 [1,1] (ag Tryz.f16)) (fun ex e3 H3=>(ex = .normal∨ex = .ret)∧iy Tryz.prog gl F caps H3 fun _ H4=>kO Tryz.prog Tryz.f16.results.toList (jK ra most (bi ra c r)) ex e3 H4) (upd (ak [0,2,4,6,7] vs) (some 15) x) H2) ?_)
 refine⟨rfl,?_⟩
 have hmk:(KV (ag Tryz.f16)).op = .makeFunc (.func 40) #[] #[.tmp 7,.tmp 6]:=by kernel_rfl
 rw[hmk]
 have key:∀ K':PV→ae→Prop,K' (.fn 40 [.ptr 3 0,.ptr 2 0]) [.abs (rkI ra most),.cells (mtc c),.cells [.U 0,.U 0,.I 0,.E,.E,.E],.cells [.I 0]]→opw Tryz.prog gl (.makeFunc (.func 40) #[] #[.tmp 7,.tmp 6]) 0 (ev gl (ak [0,2,4,6,7] [.ptr 0 0,.I r,.ptr 1 0,.ptr 2 0,.ptr 3 0])) [.abs (rkI ra most),.cells (mtc c),.cells [.U 0,.U 0,.I 0,.E,.E,.E],.cells [.I 0]] K':=fun K' h=>⟨rfl,Eq.mpr (by kernel_rfl) h⟩
 exact key _ ⟨40,[.ptr 3 0,.ptr 2 0],rfl,by kernel_rfl,fun D=> @Np D ra most c r ok hl _ rfl⟩
def dO (ra:List RwI) (most:Int) (xs:List (Int×Int)):List RwI:=xs.foldl (fun l x=>(cN l most x.1 x.2).1) ra
def TAP:Tab:=[(33,.read p5),(22,.heap vU)]
theorem vz:TbK TAP:= .cons ol (.cons so (.nil _ _))
theorem L5 (ra:List RwI) (most:Int) (v:Vd) (i:Nat):(by refine(?_:_→_→_→Prop) (PV.list (v.ps.map u1) .no) (List.getD (v.ps.map u1) (Int.toNat (i:Int)) []) (PV.I v.ps.length); exact fun c d f=>by refine(?_:_→_→Prop) [Ob.abs (rkI ra most),.cells [.U v.m,.U v.i,.I v.r,c,.list (v.old.map i1) .no,.list (v.new.map i1) .no]] [PV.ptr 0 0,.ptr 1 0,.I 0,c,f,.I i]; exact fun a b=>∀(R:Ex→List PV→ae→Prop),(br (decide ((i:Int)<(v.ps.length:Int))) (InL (v.ps.map u1) 1 (i:Int)∧br (true && aD [.int .u32] 0 d) (∃(q:Nat) (l:List RwI) (most_1:Int) (t:Int),ah [.ptr 0 0,.U (cI d 0)] [.ptr q 0,.U t]∧bU a q (rkI l most_1)∧Ok l most_1∧br (!has l t) (R .ret [.ptr 0 0,.ptr 1 0,.I 12,c,f,.I i] a) (R .normal [.ptr 0 0,.ptr 1 0,.I 0,c,f,.I (wI ((i:Int)+1))] a)) False) (R (.exit 0) b a))→Holds (wpK TAP [] (fun _=>0) (ai [1,1,0,1,0] (ag Tryz.f18)) [] (ak [0,3,4,19,20,21] b) [.abs (rkI ra most),.cells (vdC v)] (fun ex e H=>R ex (List.map e [0,3,4,19,20,21]) H)):Prop):=fun R h=>hoE h
theorem Ls (ra:List RwI) (most:Int) (v:Vd) (i:Nat):(by refine(?_:_→_→_→_→Prop) (Int.toNat (i:Int)) (PV.list (v.ps.map u1) .no) (Ob.abs (rkI ra most)) (PV.I v.ps.length); exact fun c d f j=>by refine(?_:_→_→_→_→Prop) (Ob.cells [.U v.m,.U v.i,.I v.r,d,.list (v.old.map i1) .no,.list (v.new.map i1) .no]) [PV.ptr 0 0,.ptr 1 0,d,j,.I i] (List.getD (v.new.map i1) c []) (List.getD (v.ps.map u1) c []); exact fun a b g h=>∀(R:Ex→List PV→ae→Prop),(br (decide ((i:Int)<(v.ps.length:Int))) (InL (v.ps.map u1) 1 (i:Int)∧br (true && aD [.int .u32] 0 h) (InL (v.new.map i1) 1 (i:Int)∧br (true && aD [.int .i64] 0 g) (∃(l:List RwI) (most_1:Int) (t:Int) (v_1:Int),ah [.U (cI h 0),.I (cI g 0)] [.U t,.I v_1]∧bU [f,a] 0 (rkI l most_1)∧Ok l most_1∧R .normal [.ptr 0 0,.ptr 1 0,d,j,.I (wI ((i:Int)+1))] [.abs (rkI (Prod.fst (cN l most_1 t v_1)) most_1),a]) False) False) (R (.exit 2) b [f,a]))→Holds (wpK TAP [] (fun _=>0) (ai [1,1,1,0,1,0] (ag Tryz.f18)) [] (ak [0,3,35,36,37] b) [f,.cells (vdC v)] (fun ex e H=>R ex (List.map e [0,3,35,36,37]) H)):Prop):=fun R h=>hoE h
def hasAll (ra:List RwI) (l:List Int):Bool:=l.all fun p=>has ra p
def cG (ra:List RwI) (most:Int) (v:Vd):List RwI×Int:=if v.new.length≠v.ps.length then(ra,21) else if hasAll ra v.ps=true then(dO ra most (v.ps.zip v.new),0) else(ra,12)
theorem pO {ra:List RwI} {most:Int} (ok:Ok ra most) (xs:List (Int×Int)):Ok (dO ra most xs) most:=by
 unfold dO
 induction xs generalizing ra with
 | nil=>exact ok
 | cons x xs ih=>exact ih (ok.put _ _)
theorem Ar {ra:List RwI} {most:Int} (ok:Ok ra most) (v:Vd):Ok (cG ra most v).1 most:=by
 unfold cG
 split
 ·exact ok
 ·split
  ·exact pO ok _
  ·exact ok
theorem u4 {ra:List RwI} {most:Int} {ps ns:List Int} {i:Nat} (h:i<ps.length) (hl:ns.length=ps.length):dO ra most ((ps.zip ns).take (i+1))=(cN (dO ra most ((ps.zip ns).take i)) most (ps.getD i 0) (ns.getD i 0)).1:=by
 have hz:i<(ps.zip ns).length:=by rw[List.length_zip]; omega
 unfold dO
 rw[aJ (0,0) hz,List.foldl_append]
 rw[List.getD_eq_getElem?_getD,List.getD_eq_getElem?_getD,List.getD_eq_getElem?_getD,List.getElem?_eq_getElem hz,List.getElem?_eq_getElem h,List.getElem?_eq_getElem (by omega),List.getElem_zip]
 rfl
def JQ:LSp:=fun e H Q=>∃(ra:List RwI) (most:Int) (v:Vd),Ok ra most∧v.ps.length≤1000000∧ah (List.map e [0,3,4,19,20,21]) [.ptr 0 0,.ptr 1 0,.I 0,.list (v.ps.map u1) .no,.I v.ps.length,.I 0]∧av H [.abs (rkI ra most),.cells (vdC v)]∧(hasAll ra v.ps=true→Q (.exit 0) (ak [0,3,4,19,20,21] [.ptr 0 0,.ptr 1 0,.I 0,.list (v.ps.map u1) .no,.I v.ps.length,.I v.ps.length]) [.abs (rkI ra most),.cells (vdC v)])∧(hasAll ra v.ps=false→∀ i:Nat,Q .ret (ak [0,3,4,19,20,21] [.ptr 0 0,.ptr 1 0,.I 12,.list (v.ps.map u1) .no,.I v.ps.length,.I i]) [.abs (rkI ra most),.cells (vdC v)])
theorem AY:∀ e H Q,JQ e H Q→AwK Tryz.f18.ntmps (.loop (ai [1,1,0,1,0] (ag Tryz.f18))) Q e H:=by
 rintro e H Q ⟨ra,most,v,ok,hl,he,hH,hQ0,hQ1⟩
 refine aB (hn:=fun _=>0) aj vz (.nil _ _ _ _ _) (σ:=Nat) [0,3,4,19,20,21] (fun i=>i≤v.ps.length∧hasAll ra (v.ps.take i)=true) (fun i=>[.ptr 0 0,.ptr 1 0,.I 0,.list (v.ps.map u1) .no,.I v.ps.length,.I i]) (fun _=>[.abs (rkI ra most),.cells (vdC v)]) (fun i=>v.ps.length-i) 0 ⟨Nat.zero_le _,rfl⟩ he hH ?_
 rintro i ⟨hi,hall⟩
 refine L5 ra most v i _ ?_
 simp only[au,dt,an]
 by_cases h:i<v.ps.length
 ·rw[if_pos (by omega)]
  have inl:InL (v.ps.map u1) 1 (i:Int):=by rw[dQ]; exact h
  have cp:∀ z:Int,cI (u1 z) 0=z:=fun _=>rfl
  have cq:∀ z:Int,cI (i1 z) 0=z:=fun _=>rfl
  refine⟨inl,?_⟩
  simp only[getD_map 0 h,cp]
  rw[if_pos (by rfl)]
  refine⟨0,ra,most,v.ps.getD i 0,rfl,rfl,ok,?_⟩
  have hs:hasAll ra (v.ps.take (i+1))=(hasAll ra (v.ps.take i) && has ra (v.ps.getD i 0)):=by unfold hasAll; rw[aJ 0 h,List.all_append]; simp
  by_cases c:has ra (v.ps.getD i 0)=true
  ·rw[if_neg (by rw[c]; decide)]
   exact⟨i+1,(show v.ps.length-(i+1)<v.ps.length-i by omega),⟨h,by rw[hs,hall,c]; rfl⟩,by rw[ar h (by omega)],[],rfl,Nat.le_refl _,.inl rfl⟩
  ·rw[if_pos (by rw[eq_false_of_ne_true c]; rfl)]
   refine hQ1 ?_ i
   refine eq_false_of_ne_true fun hA=>c (List.all_eq_true.1 hA _ ?_)
   rw[List.getD_eq_getElem?_getD,List.getElem?_eq_getElem h]; exact List.getElem_mem h
 ·rw[if_neg (by omega)]
  have:i=v.ps.length:=by omega
  subst this
  rw[List.take_length] at hall
  exact hQ0 hall
def Jq:LSp:=fun e H Q=>∃(ra:List RwI) (most:Int) (v:Vd),Ok ra most∧v.ps.length≤1000000∧v.new.length=v.ps.length∧ah (List.map e [0,3,35,36,37]) [.ptr 0 0,.ptr 1 0,.list (v.ps.map u1) .no,.I v.ps.length,.I 0]∧av H [.abs (rkI ra most),.cells (vdC v)]∧Q (.exit 2) (ak [0,3,35,36,37] [.ptr 0 0,.ptr 1 0,.list (v.ps.map u1) .no,.I v.ps.length,.I v.ps.length]) [.abs (rkI (dO ra most (v.ps.zip v.new)) most),.cells (vdC v)]
theorem DK:∀ e H Q,Jq e H Q→AwK Tryz.f18.ntmps (.loop (ai [1,1,1,0,1,0] (ag Tryz.f18))) Q e H:=by
 rintro e H Q ⟨ra,most,v,ok,hl,hnl,he,hH,hQ⟩
 refine aB (hn:=fun _=>0) aj vz (.nil _ _ _ _ _) (σ:=Nat) [0,3,35,36,37] (fun i=>i≤v.ps.length) (fun i=>[.ptr 0 0,.ptr 1 0,.list (v.ps.map u1) .no,.I v.ps.length,.I i]) (fun i=>[.abs (rkI (dO ra most ((v.ps.zip v.new).take i)) most),.cells (vdC v)]) (fun i=>v.ps.length-i) 0 (Nat.zero_le _) he hH ?_
 intro i hi
 have hi':i≤v.ps.length:=hi
 refine Ls _ most v i _ ?_
 simp only[au,dt,an]
 by_cases h:i<v.ps.length
 ·rw[if_pos (by omega)]
  have inl:InL (v.ps.map u1) 1 (i:Int):=by rw[dQ]; exact h
  have cp:∀ z:Int,cI (u1 z) 0=z:=fun _=>rfl
  have cq:∀ z:Int,cI (i1 z) 0=z:=fun _=>rfl
  refine⟨inl,?_⟩
  simp only[getD_map 0 h,cp]
  rw[if_pos (by rfl)]
  refine⟨by rw[vM]; omega,?_⟩
  simp only[getD_map 0 (show i<v.new.length by omega),cq]
  rw[if_pos (by rfl)]
  refine⟨_,most,v.ps.getD i 0,v.new.getD i 0,rfl,rfl,pO ok _,?_⟩
  rw[← u4 h hnl]
  exact⟨i+1,(show v.ps.length-(i+1)<v.ps.length-i by omega),h,by rw[ar h (by omega)],[],rfl,Nat.le_refl _,.inl rfl⟩
 ·rw[if_neg (by omega)]
  have:i=v.ps.length:=by omega
  subst this
  rw[List.take_of_length_le (by rw[List.length_zip]; omega)]
  exact hQ
theorem KM (ra:List RwI) (most:Int) (v:Vd):(by refine(?_:_→_→Prop) (↑(List.length (v.ps.map u1)):Int) (PV.list (v.ps.map u1) .no); exact fun f g=>by refine(?_:_→Prop) [Ob.abs (rkI ra most),.cells [.U v.m,.U v.i,.I v.r,g,.list (v.old.map i1) .no,.list (v.new.map i1) .no]]; exact fun e=>∀(K:PV→ae→Prop),(br ((↑(List.length (v.new.map i1)):Int) != f) (K (.I 21) e) (∃(ra_1:List RwI) (most_1:Int) (v_1:Vd),by refine(?_:_→Prop) (PV.list (v_1.ps.map u1) .no); exact fun d=>by refine(?_:_→Prop) [Ob.abs (rkI ra_1 most_1),.cells [.U v_1.m,.U v_1.i,.I v_1.r,d,.list (v_1.old.map i1) .no,.list (v_1.new.map i1) .no]]; exact fun c=>Ok ra_1 most_1∧v_1.ps.length≤1000000∧ah [.ptr 0 0,.ptr 1 0,.I 0,g,.I f,.I 0] [.ptr 0 0,.ptr 1 0,.I 0,d,.I v_1.ps.length,.I 0]∧av e c∧(hasAll ra_1 v_1.ps=true→∃(ra:List RwI) (most:Int) (v:Vd),by refine(?_:_→Prop) (PV.list (v.ps.map u1) .no); exact fun b=>by refine(?_:_→Prop) (Ob.cells [.U v.m,.U v.i,.I v.r,b,.list (v.old.map i1) .no,.list (v.new.map i1) .no]); exact fun a=>Ok ra most∧v.ps.length≤1000000∧v.new.length=v.ps.length∧ah [.ptr 0 0,.ptr 1 0,d,.I (↑(List.length (v_1.ps.map u1)):Int),.I 0] [.ptr 0 0,.ptr 1 0,b,.I v.ps.length,.I 0]∧av c [.abs (rkI ra most),a]∧K (.I 0) [.abs (rkI (dO ra most (List.zip v.ps v.new)) most),a])∧(hasAll ra_1 v_1.ps=false→∀(_:Nat),K (.I 12) c)))→AcK 18 [.ptr 0 0,.agg (vdC v)] [.abs (rkI ra most)] K:Prop):=fun K h=>acW (T:=TAP) (L:=[([1,1,0,1,0],JQ),([1,1,1,0,1,0],Jq)]) (fun _=>0) Tryz.func18 (vz) (.cons suE AY (.cons suE DK (.nil _ _ _ _ _))) h
def sS (args:List PV) (H:ae) (K:PV→ae→Prop):Prop:=match args with
 | .ptr q 0::rest=>∃(ra:List RwI) (most:Int) (v:Vd) (t1 t2 t3:Tail),ah rest [.agg [.int .u32 v.m,.int .u32 v.i,.int .i64 v.r,.list (v.ps.map u1) t1,.list (v.old.map i1) t2,.list (v.new.map i1) t3]]∧bU H q (rkI ra most)∧Ok ra most∧v.ps.length≤1000000∧K (.int .i64 (cG ra most v).2) (H.set q (.abs (rkI (cG ra most v).1 most)))
 | _=>False
theorem AT:SpK 18 (.heap sS):=by
 intro args H K h
 unfold sS at h
 split at h
 ·rename_i q rest
  obtain⟨ra,most,v,t1,t2,t3,he,hA,ok,hl,hk⟩:=h
  have he:rest=_:=he
  subst he
  refine bj (.cons (.refl _) (.cons (.agg (xs':=vdC v) (.cons (.refl _) (.cons (.refl _) (.cons (.refl _) (.cons (.list _ _) (.cons (.list _ _) (.cons (.list _ _) .nil))))))) .nil)) ?_
  refine uv aj (R':=rkI (cG ra most v).1 most) hA (bw (.agg _ (fB v))) (.int _ _) ?_ hk
  refine KM ra most v (fun x H'=>x = .I (cG ra most v).2∧∃ G,H' = .abs (rkI (cG ra most v).1 most)::G) ?_
  simp only[au,List.length_map]
  by_cases c:v.new.length=v.ps.length
  ·rw[if_neg (by simp[c])]
   refine⟨ra,most,v,ok,hl,(by first|rfl|(show _=_; simp)),rfl,fun h1=>?_,fun h1 i=>?_⟩
   ·have e:cG ra most v=(dO ra most (v.ps.zip v.new),0):=by unfold cG; rw[if_neg (by simp[c]),if_pos h1]
    refine⟨ra,most,v,ok,hl,c,(by first|rfl|(show _=_; simp)),rfl,?_⟩
    rw[e]; exact⟨rfl,[_],rfl⟩
   ·have e:cG ra most v=(ra,12):=by unfold cG; rw[if_neg (by simp[c]),if_neg (by rw[h1]; decide)]
    rw[e]; exact⟨rfl,[_],rfl⟩
  ·rw[if_pos (by simp; omega)]
   have e:cG ra most v=(ra,21):=by unfold cG; rw[if_pos c]
   rw[e]; exact⟨rfl,[_],rfl⟩
 ·exact h.elim
theorem kC {c:Mt} (h:c.Ok):c.aa.length=tot c.rows:=by
 have e:=h.pm.length_eq
 unfold fg pairs at e
 rw[List.length_map,List.length_flatMap] at e
 rw[e]; unfold tot
 congr 1
 exact List.map_congr_left fun r _=>List.length_map _
theorem Es {c:Mt} (h:c.Ok):tot c.rows≤8:=by rw[mE h.tm]; have:=h.t1; have:=h.t2; omega
def Cw (args:List PV) (H:ae) (K:PV→ae→Prop):Prop:=∃(w:List Mt) (m id:Int),ah args [.ptr 2 0,.U id]∧cm H 2 1 (rkM (aq w) m)∧MO w m∧K (.tup [(gM w id).pv,.bool (bz Mt.id w id)]) (H.set 1 (.abs (rkM (aq (ef Mt.id w id)) m)))
theorem Ho:SpK 37 (.heap Cw):=fun args H K ⟨w,m,id,he,hb,ro,hk⟩=>L2 args H K ⟨2,1,w,m,id,he,hb,ro,hk⟩
def TRP:Tab:=[(9,.read sR),(16,.read wS),(18,.heap sS),(37,.heap Cw)]
theorem ML:TbK TRP:= .cons sL (.cons BA (.cons AT (.cons Ho (.nil _ _))))
theorem LJ (ra:List RwI) (mb:Int) (w:List Mt) (m ins id r:Int):(by refine(?_:_→_→_→_→_→Prop) [PV.U 0,.U 0,.I 0,.E,.E,.E] [PV.U 0,.I 0,.U 0,.E,.E] (Ob.abs (rkM (aq w) m)) [PV.ptr 2 0,.U id] (Ob.abs (rkI ra mb)); exact fun j k l n o=>∀(K:PV→ae→Prop),(∃(q:Nat) (r_1:Nat) (w_1:List Mt) (m_1:Int) (t:Int),by refine(?_:_→Prop) [PV.U (Mt.id (gM w_1 t)),.I (Mt.md (gM w_1 t)),.U (Mt.ins (gM w_1 t)),.list (List.map rrc (Mt.rows (gM w_1 t))) .no,.list (List.map stc (Mt.aa (gM w_1 t))) .no]; exact fun g=>by refine(?_:_→Prop) [o,l,.cells [.ptr 1 0],.cells j,.cells k,.cells g]; exact fun h=>ah n [.ptr q 0,.U t]∧cm [.abs (rkI ra mb),l,.cells [.ptr 1 0],.cells j,.cells k] q r_1 (rkM (aq w_1) m_1)∧MO w_1 m_1∧br (!bz Mt.id w_1 t) (K (.tup [.agg j,.agg k,.I 12]) h) (br (Mt.ins (gM w_1 t) != ins) (K (.tup [.agg j,.agg k,.I 13]) h) (∃(q:Nat) (ra_1:List RwI) (most:Int) (c:Mt) (t1:Tail) (t2:Tail) (r_2:Int),by refine(?_:_→Prop) (bi ra_1 c r_2); exact fun f=>by refine(?_:_→Prop) (Prod.fst f); exact fun e=>by refine(?_:_→Prop) [PV.U (Vd.m e),.U (Vd.i e),.I (Vd.r e),.list (List.map u1 (Vd.ps e)) .no,.list (List.map i1 (Vd.old e)) .no,.list (List.map i1 (Vd.new e)) .no]; exact fun b=>by refine(?_:_→Prop) [o,l,.cells [.ptr 1 0],.cells j,.cells k,.cells g,.cells b]; exact fun d=>ah [.ptr 0 0,.agg g,.I r] [.ptr q 0,.agg [.U c.id,.I c.md,.U c.ins,.list (c.rows.map rrc) t1,.list (c.aa.map stc) t2],.I r_2]∧bU h q (rkI ra_1 most)∧Ok ra_1 most∧c.aa.length≤100000∧br (Prod.snd f != 0) (K (.tup [.agg j,.agg k,.I (Prod.snd f)]) d) (∃(ra_2:List RwI) (most:Int) (v:Vd) (t1:Tail) (t2:Tail) (t3:Tail),by refine(?_:_→Prop) (Ob.abs (rkI (Prod.fst (cG ra_2 most v)) most)); exact fun a=>ah [.agg b] [.agg [.U v.m,.U v.i,.I v.r,.list (v.ps.map u1) t1,.list (v.old.map i1) t2,.list (v.new.map i1) t3]]∧bU d 0 (rkI ra_2 most)∧Ok ra_2 most∧v.ps.length≤1000000∧∃(w_2:List Mt) (m_2:Int) (id_1:Int),ah n [.ptr 2 0,.U id_1]∧cm [a,l,.cells [.ptr 1 0],.cells j,.cells k,.cells g,.cells b] 2 1 (rkM (aq w_2) m_2)∧MO w_2 m_2∧K (.tup [.agg b,.agg g,.I 0]) [a,.abs (rkM (aq (ef Mt.id w_2 id_1)) m_2),.cells [.ptr 1 0],.cells b,.cells g,.cells g,.cells b]))))→AcK 10 [.ptr 0 0,.ptr 2 0,.U ins,.U id,.I r] [.abs (rkI ra mb),l,.cells [.ptr 1 0]] K:Prop):=fun K h=>acW (T:=TRP) (L:=[]) (fun o=>match o.dst with|some 37=>1|some 48=>1|some 53=>601006|some 54=>501005|some _=>0|none=>match o.op with| .store _ (.tmp 10) (.tmp 53)=>301006| .store _ (.tmp 11) (.tmp 54)=>401005|_=>0) Tryz.func10 (ML) (LOk.nil _ _ _ _ _) h
structure Rp where
 ra:List RwI
 w:List Mt
 v:Vd
 c:Mt
 e:Int
def aI (ra:List RwI) (mb:Int) (w:List Mt) (ins id r:Int):Rp:=
 if bz Mt.id w id=false then⟨ra,w,vd0,mt0,12⟩ else if(gM w id).ins≠ins then⟨ra,w,vd0,mt0,13⟩ else if(bi ra (gM w id) r).2≠0 then⟨ra,w,vd0,mt0,(bi ra (gM w id) r).2⟩
 else⟨(cG ra mb (bi ra (gM w id) r).1).1,ef Mt.id w id,(bi ra (gM w id) r).1,gM w id,0⟩
def Nl (p:Rp):PV:= .tup [.agg (vdC p.v),p.c.pv,.I p.e]
theorem EJ {n:Nat} (p:Rp):Low n (Nl p):= .tup _ (dn (.agg _ (fB _)) (p.c.low) (.int _ _))
theorem pn {ra:List RwI} {c:Mt} {r:Int}:(bi ra c r).1.ps.length≤2*c.aa.length:=by
 have l1:=(fS ra c.aa 1).1
 have l2:=(fS ra c.aa 2).1
 have z:vd0.ps.length≤2*c.aa.length:=Nat.zero_le _
 unfold bi
 split
 ·exact z
 split
 ·exact z
 split
 ·exact z
 split
 ·split
  ·exact z
  ·show(_++_:List Int).length≤_; rw[List.length_append]; omega
 ·show(_++_:List Int).length≤_; rw[List.length_append]; omega
theorem r9 {e:Int}:Wk (.tup [.agg [.U 0,.U 0,.I 0,.E,.E,.E],.agg [.U 0,.I 0,.U 0,.E,.E],.I e]) (.tup [.agg (vdC vd0),mt0.pv,.I e]):=
 .tup (.cons (.agg (xs':=vdC vd0) (.cons (.refl _) (.cons (.refl _) (.cons (.refl _) (.cons (.list _ _) (.cons (.list _ _) (.cons (.list _ _) .nil))))))) (.cons (.agg (xs':=mtc mt0) (.cons (.refl _) (.cons (.refl _) (.cons (.refl _) (.cons (.list _ _) (.cons (.list _ _) .nil)))))) (.cons (.refl _) .nil)))
theorem uk {ra:List RwI} {mb:Int} {w:List Mt} {m:Int} (ok:Ok ra mb) (ro:MO w m) (ins id r:Int):AcK 10 [.ptr 0 0,.ptr 2 0,.U ins,.U id,.I r] [.abs (rkI ra mb),.abs (rkM (aq w) m),.cells [.ptr 1 0]] (fun x H'=>Wk x (Nl (aI ra mb w ins id r))∧∃ G,H' = .abs (rkI (aI ra mb w ins id r).ra mb) :: .abs (rkM (aq (aI ra mb w ins id r).w) m) :: .cells [.ptr 1 0]::G):=by
 refine LJ ra mb w m ins id r _ ?_
 simp only[au]
 refine⟨2,1,w,m,id,rfl,⟨rfl,rfl⟩,ro,?_⟩
 by_cases c1:bz Mt.id w id=true
 ·rw[if_neg (by rw[c1]; decide)]
  by_cases c2:(gM w id).ins=ins
  ·rw[if_neg (by simp[c2])]
   have hs:(gM w id).aa.length≤8:=by have h:=ro.cs _ (eP c1).1; rw[kC h]; exact Es h
   refine⟨0,ra,mb,gM w id,.no,.no,r,rfl,rfl,ok,by omega,?_⟩
   by_cases c3:(bi ra (gM w id) r).2=0
   ·rw[if_neg (by simp[c3])]
    have hl:=pn (ra:=ra) (c:=gM w id) (r:=r)
    have e:aI ra mb w ins id r=⟨(cG ra mb (bi ra (gM w id) r).1).1,ef Mt.id w id,(bi ra (gM w id) r).1,gM w id,0⟩:=by unfold aI; rw[if_neg (by rw[c1]; decide),if_neg (by simp[c2]),if_neg (by simp[c3])]
    refine⟨ra,mb,(bi ra (gM w id) r).1,.no,.no,.no,rfl,rfl,ok,by omega,w,m,id,rfl,⟨rfl,rfl⟩,ro,?_⟩
    rw[e]
    exact⟨.refl _,_,rfl⟩
   ·rw[if_pos (by simpa using c3)]
    have e:aI ra mb w ins id r=⟨ra,w,vd0,mt0,(bi ra (gM w id) r).2⟩:=by unfold aI; rw[if_neg (by rw[c1]; decide),if_neg (by simp[c2]),if_pos c3]
    rw[e]; exact⟨r9,_,rfl⟩
  ·rw[if_pos (by simpa using c2)]
   have e:aI ra mb w ins id r=⟨ra,w,vd0,mt0,13⟩:=by unfold aI; rw[if_neg (by rw[c1]; decide),if_pos c2]
   rw[e]; exact⟨r9,_,rfl⟩
 ·rw[if_pos (by rw[eq_false_of_ne_true c1]; rfl)]
  have e:aI ra mb w ins id r=⟨ra,w,vd0,mt0,12⟩:=by unfold aI; rw[if_pos (eq_false_of_ne_true c1)]
  rw[e]; exact⟨r9,_,rfl⟩
theorem kw {ra:List RwI} {mb:Int} {w:List Mt} {m:Int} (ok:Ok ra mb) (ro:MO w m) (ins id r:Int):Ok (aI ra mb w ins id r).ra mb∧MO (aI ra mb w ins id r).w m:=by
 unfold aI
 split
 ·exact⟨ok,ro⟩
 split
 ·exact⟨ok,ro⟩
 split
 ·exact⟨ok,ro⟩
 ·exact⟨Ar ok _,ro.drop _⟩
def lZ (args:List PV) (H:ae) (K:PV→ae→Prop):Prop:=match args with
 | .ptr q 0 :: .ptr t 0::rest=>match I7 H t with
  | some a=>∃(ra:List RwI) (mb:Int) (w:List Mt) (m ins id r:Int),ah rest [.int .u32 ins,.int .u32 id,.int .i64 r]∧bU H q (rkI ra mb)∧cm H t a (rkM (aq w) m)∧q≠a∧Ok ra mb∧MO w m∧
   (let p:=aI ra mb w ins id r; K (.tup [.agg [.U p.v.m,.U p.v.i,.I p.v.r,.list (p.v.ps.map u1) .no,.list (p.v.old.map i1) .no,.list (p.v.new.map i1) .no],.agg [.U p.c.id,.I p.c.md,.U p.c.ins,.list (p.c.rows.map rrc) .no,.list (p.c.aa.map stc) .no],.I p.e]) ((H.set q (.abs (rkI p.ra mb))).set a (.abs (rkM (aq p.w) m))))
  | none=>False
 | _=>False
theorem qZ:SpK 10 (.heap lZ):=by
 intro args H K h
 unfold lZ at h
 split at h
 ·rename_i q t rest
  split at h
  ·rename_i a ha
   obtain⟨ra,mb,w,m,ins,id,r,he,hI,hB,hne,ok,ro,hk⟩:=h
   have he:rest=_:=he
   subst he
   exact pS aj hI hB hne (dn (.int _ _) (.int _ _) (.int _ _)) (EJ (aI ra mb w ins id r)) (a9 ((uk ok ro ins id r).mono fun x H' ⟨h1,h2⟩=>⟨_,h1,rfl,h2⟩)) hk
  ·exact h.elim
 ·exact h.elim
theorem zS (w:List RwI) (m:Int) (t:Int) (i:Nat):(by refine(?_:_→_→_→Prop) [Ob.cells [.list (w.map csI) .no,.I m]] (List.drop 0 (List.getD (w.map csI) (Int.toNat (i:Int)) [])) [PV.U t,.ptr 0 0,.I 0,.I i]; exact fun a b c=>∀(R:Ex→List PV→ae→Prop),(br (decide ((i:Int)<(↑(List.length (w.map csI)):Int))) (InL (w.map csI) 2 (i:Int)∧br (true && aD [.int .u32] 0 b) (br (cI b 0 == t) (R .ret [.U t,.ptr 0 0,.I i,.I i] a) (R .normal [.U t,.ptr 0 0,.I 0,.I (wI ((i:Int)+1))] a)) False) (R (.exit 0) c a))→Holds (wpK [] [] (fun _=>0) (ai [1,0,1,0] (ag Tryz.f54)) [] (ak [1,2,4,5] c) a (fun ex e H=>R ex (List.map e [1,2,4,5]) H)):Prop):=fun R h=>hoE h
theorem Ap (w:List RwI) (m:Int) (t:Int) (i:Nat):(by refine(?_:_→_→_→_→_→Prop) (List.getD (w.map csI) (Int.toNat (i:Int)) []) [PV.U t,.ptr 0 0,.ptr 1 0,.ptr 2 0,.I (wI ((i:Int)+1))] [PV.U t,.ptr 0 0,.ptr 1 0,.ptr 2 0,.I i] (Ob.cells [.E,.I 0]) [PV.list (w.map csI) .no,.I m]; exact fun a d f g h=>by refine(?_:_→_→Prop) [Ob.cells h,g,.cells [.E,.I m]] (PV.I (cI a 1)); exact fun b j=>by refine(?_:_→Prop) [[PV.U (cI a 0),j]]; exact fun c=>∀(R:Ex→List PV→ae→Prop),(br (decide ((i:Int)<(↑(List.length (w.map csI)):Int))) (InL (w.map csI) 2 (i:Int)∧br (true && aD [.int .u32] 0 (List.drop 0 a)) (br (cI (List.drop 0 a) 0 != t) (InL (w.map csI) 2 (i:Int)∧br (true && aD [.int .u32,.int .i64] 0 a) (aG [] c 2 16∧(List.all [.U (cI a 0),j] PV.one=true∧c≠[])∧R .normal d [.cells h,g,.cells [.list c (.tok 3),.I m],.tok]) False) (R .normal d b)) False) (R (.exit 0) f b))→Holds (wpK [] [] (fun o=>match o.op with| .load t _=>(match t with|31=>1|_=>0)|_=>match o.dst with|some 33=>1|_=>0) (ai [1,1,0,1,0] (ag Tryz.f55)) [] (ak [1,2,4,5,6] f) b (fun ex e H=>R ex (List.map e [1,2,4,5,6]) H)):Prop):=fun R h=>hoE h
theorem yY (w:List RwI) (m:Int) (t:Int) (es:List (List PV)) (i:Nat):(by refine(?_:_→_→_→_→_→Prop) (List.getD (w.map csI) (Int.toNat (i:Int)) []) [PV.U t,.ptr 0 0,.ptr 1 0,.ptr 2 0,.I (wI ((i:Int)+1))] [PV.U t,.ptr 0 0,.ptr 1 0,.ptr 2 0,.I i] (Ob.cells [.E,.I 0]) [PV.list (w.map csI) .no,.I m]; exact fun a d f g h=>by refine(?_:_→_→Prop) [Ob.cells h,g,.cells [.list es (.tok 3),.I m],.tok] (PV.I (cI a 1)); exact fun b j=>by refine(?_:_→Prop) [[PV.U (cI a 0),j]]; exact fun c=>∀(R:Ex→List PV→ae→Prop),(br (decide ((i:Int)<(↑(List.length (w.map csI)):Int))) (InL (w.map csI) 2 (i:Int)∧br (true && aD [.int .u32] 0 (List.drop 0 a)) (br (cI (List.drop 0 a) 0 != t) (InL (w.map csI) 2 (i:Int)∧br (true && aD [.int .u32,.int .i64] 0 a) (aG es c 2 16∧(List.all [.U (cI a 0),j] PV.one=true∧c≠[])∧R .normal d [.cells h,g,.cells [.list (es++c) (.tok 4),.I m],.dead,.tok]) False) (R .normal d b)) False) (R (.exit 0) f b))→Holds (wpK [] [] (fun o=>match o.op with| .load t _=>(match t with|31=>1|_=>0)|_=>match o.dst with|some 33=>1|_=>0) (ai [1,1,0,1,0] (ag Tryz.f55)) [] (ak [1,2,4,5,6] f) b (fun ex e H=>R ex (List.map e [1,2,4,5,6]) H)):Prop):=fun R h=>hoE h
theorem ji (w:List RwI) (i:Nat):InL (w.map csI) 2 (i:Int)=(i<w.length):=dD fa (by decide) w i
theorem pL {n:Nat} (w:List RwI):∀ x∈(w.map csI).flatten,Low n x:=bp fun a _=>kU a
theorem ud (w:List RwI):uni 2 (w.map csI):=by
 intro e he
 obtain⟨a,_,rfl⟩:=List.mem_map.1 he
 rfl
theorem fi {n:Nat} (w:List RwI) (m:Int):∀ x∈[PV.list (w.map csI) .no,.I m],Low n x:=by
 intro x hx
 simp only[List.mem_cons,List.not_mem_nil,or_false] at hx
 rcases hx with rfl|rfl
 ·exact aH NT.no (pL w)
 ·exact .int _ _
theorem ck (w:List RwI) (m:Int):Low 0 (.agg [.list (w.map csI) .no,.I m]):= .agg _ (fi w m)
theorem tS (w:List RwI) (t:Int):fiW w t≤w.length:=List.findIdx_le_length
def tJ:LSp:=fun e H Q=>∃(w:List RwI) (m t:Int),w.length≤1000000∧ah (List.map e [1,2,4,5]) [.U t,.ptr 0 0,.I 0,.I 0]∧av H [.cells [.list (w.map csI) .no,.I m]]∧
 (fiW w t<w.length→Q .ret (ak [1,2,4,5] [.U t,.ptr 0 0,.I (fiW w t),.I (fiW w t)]) [.cells [.list (w.map csI) .no,.I m]])∧
 (fiW w t=w.length→Q (.exit 0) (ak [1,2,4,5] [.U t,.ptr 0 0,.I 0,.I w.length]) [.cells [.list (w.map csI) .no,.I m]])
theorem uH:∀ e H Q,tJ e H Q→AwK Tryz.f54.ntmps (.loop (ai [1,0,1,0] (ag Tryz.f54))) Q e H:=by
 rintro e H Q ⟨w,m,t,hl,he,hH,hr,hx⟩
 have hle:=tS w t
 refine aB (hn:=fun _=>0) aj (.nil _ _) (.nil _ _ _ _ _) (σ:=Nat) [1,2,4,5] (fun i=>i≤fiW w t)
  (fun i=>[.U t,.ptr 0 0,.I 0,.I i]) (fun _=>[.cells [.list (w.map csI) .no,.I m]]) (fun i=>w.length-i) 0 (Nat.zero_le _) he hH ?_
 intro i hi
 refine zS w m t i _ ?_
 simp only[au,dt,List.length_map]
 by_cases h:i<w.length
 ·rw[if_pos (by omega),ji,an,getD_map default h]
  refine⟨h,?_⟩
  rw[if_pos (by rfl),List.drop_zero]
  have hc:cI (csI (w.getD i default)) 0=(w.getD i default).id:=rfl
  rw[hc]
  by_cases c:((w.getD i default).id == t)=true
  ·rw[if_pos c]
   have hge:fiW w t=i:=ed default hi h c
   rw[hge] at hr
   exact hr h
  ·rw[if_neg c]
   have hlt:i<fiW w t:=ec default hi h (by simpa using c)
   exact⟨i+1,(show w.length-(i+1)<w.length-i by omega),hlt,by rw[ar h (by omega)],[],rfl,Nat.le_refl _,.inl rfl⟩
 ·rw[if_neg (by omega)]
  have hi':i≤fiW w t:=hi
  have:i=w.length:=by omega
  subst this
  exact hx (by omega)
theorem vT (w:List RwI) (m:Int) (t:Int):∀(K:PV→Prop),(∃(w_1:List RwI) (m_1:Int) (t_1:Int),w_1.length≤1000000∧ah [.U t,.ptr 0 0,.I 0,.I 0] [.U t_1,.ptr 0 0,.I 0,.I 0]∧av [.cells [.list (w.map csI) .no,.I m]] [.cells [.list (w_1.map csI) .no,.I m_1]]∧(fiW w_1 t_1<w_1.length→K (.I (↑(fiW w_1 t_1):Int)))∧(fiW w_1 t_1=w_1.length→K (.I (-1))))→AcK 54 [.agg [.list (w.map csI) .no,.I m],.U t] [] (fun x _=>K x):=fun K h=>acW (T:=[]) (L:=[([1,0,1,0],tJ)]) (fun _=>0) Tryz.func54 (aX.nil _ _) (.cons suE uH (.nil _ _ _ _ _)) h
def sX (args:List PV) (K:PV→Prop):Prop:=∃(w:List RwI) (m t:Int),ah args [.agg [.list (w.map csI) .no,.I m],.U t]∧w.length≤1000000∧K (.I (iO w t))
theorem zP:SpK 54 (.pure sX):=by
 rintro args K ⟨w,m,t,he,hl,hk⟩
 have he:args=_:=he
 subst he
 have hle:=tS w t
 refine cr aj (by intro x hx; simp only[List.mem_cons,List.not_mem_nil,or_false] at hx; rcases hx with rfl|rfl; exact ck w m; exact .int _ _) (.int _ _) (vT w m t (fun x=>x = .I (iO w t)) ⟨w,m,t,hl,rfl,rfl,fun h=>?_,fun h=>?_⟩) hk
 ·unfold iO; rw[if_pos h]
 ·unfold iO; rw[if_neg (by omega)]
def tf (w:List RwI) (m:Int) (acc:List RwI):ae:=match acc with
 | []=>[.cells [.list (w.map csI) .no,.int .i64 m],.cells [.list [] .exact,.int .i64 0],.cells [.list [] .exact,.int .i64 m]]
 | a::acc=>[.cells [.list (w.map csI) .no,.int .i64 m],.cells [.list [] .exact,.int .i64 0],.cells [.list ((a::acc).map csI) (.tok 3),.int .i64 m],.tok]
def xu:LSp:=fun e H Q=>∃(w:List RwI) (m t:Int),w.length≤1000000∧ah (List.map e [1,2,4,5,6]) [.U t,.ptr 0 0,.ptr 1 0,.ptr 2 0,.I 0]∧av H [.cells [.list (w.map csI) .no,.I m],.cells [.E,.I 0],.cells [.E,.I m]]∧
 (bL w t=[]→Q (.exit 0) (ak [1,2,4,5,6] [.U t,.ptr 0 0,.ptr 1 0,.ptr 2 0,.I w.length]) [.cells [.list (w.map csI) .no,.I m],.cells [.E,.I 0],.cells [.E,.I m]])∧
 (bL w t≠[]→Q (.exit 0) (ak [1,2,4,5,6] [.U t,.ptr 0 0,.ptr 1 0,.ptr 2 0,.I w.length]) [.cells [.list (w.map csI) .no,.I m],.cells [.E,.I 0],.cells [.list ((bL w t).map csI) (.tok 3),.I m],.tok])
theorem nj {n:Nat} (m:Int):∀ x∈[PV.E,.I m],Low n x:=by
 intro x hx
 simp only[List.mem_cons,List.not_mem_nil,or_false] at hx
 rcases hx with rfl|rfl
 ·exact aH NT.exact (fun _ h=>nomatch h)
 ·exact .int _ _
theorem zQ {ρ:Nat→Nat} {n:Nat} {es:List RwI} {m:Int} {k:Nat} (h3:ρ 3=k) (hn:3<n):dB ρ n (.cells [.list (es.map csI) (.tok 3),.I m]) (.cells [.list (es.map csI) (.tok k),.I m]):=by
 subst h3
 exact .cells (.cons (.ltok _ 3 hn (pL es)) (aW.low cU))
theorem ug {ρ:Nat→Nat} {n:Nat} {t i:Int} (h0:ρ 0=0) (h1:ρ 1=1) (h2:ρ 2=2) (hn:2<n):aW ρ n [.U t,.ptr 0 0,.ptr 1 0,.ptr 2 0,.I i] [.U t,.ptr 0 0,.ptr 1 0,.ptr 2 0,.I i]:=by
 have a0:=Ren.ptr (ρ:=ρ) (n:=n) 0 0 (by omega)
 have a1:=Ren.ptr (ρ:=ρ) (n:=n) 1 0 (by omega)
 have a2:=Ren.ptr (ρ:=ρ) (n:=n) 2 0 (by omega)
 rw[h0] at a0
 rw[h1] at a1
 rw[h2] at a2
 exact .cons (.low (.int _ _)) (.cons a0 (.cons a1 (.cons a2 (.cons (.low (.int _ _)) .nil))))
theorem yJ (w:List RwI) (m t i:Int):ej 3 [.U t,.ptr 0 0,.ptr 1 0,.ptr 2 0,.I i] [.cells [.list (w.map csI) .no,.I m],.cells [.E,.I 0],.cells [.E,.I m]] [.U t,.ptr 0 0,.ptr 1 0,.ptr 2 0,.I i] [.cells [.list (w.map csI) .no,.I m],.cells [.E,.I 0],.cells [.E,.I m]]:=
 aT [0,1,2] (.refl _) (.cons rfl (mr (fi w m)) (.cons rfl (mr (nj _)) (.cons rfl (mr (nj _)) .nil))) (by decide) (Nat.le_refl _) (by decide) (ug rfl rfl rfl (by simp))
theorem oh (w es:List RwI) (m t i:Int) (k:Nat) (hk:3≤k) {er:List (List PV)} (hee:er=es.map csI) {X:ae} (hX:([.cells [.list (w.map csI) .no,.I m],.cells [.E,.I 0],.cells [.list er (.tok k),.I m]]++X:ae)[k]?=some .tok):
  ej 3 [.U t,.ptr 0 0,.ptr 1 0,.ptr 2 0,.I i] ([.cells [.list (w.map csI) .no,.I m],.cells [.E,.I 0],.cells [.list er (.tok k),.I m]]++X) [.U t,.ptr 0 0,.ptr 1 0,.ptr 2 0,.I i] [.cells [.list (w.map csI) .no,.I m],.cells [.E,.I 0],.cells [.list (es.map csI) (.tok 3),.I m],.tok]:=by
 subst hee
 exact aT [0,1,2,k] (.refl _) (.cons rfl (mr (fi w m)) (.cons rfl (mr (nj _)) (.cons rfl (zQ rfl (by simp)) (.cons hX .tok .nil)))) (by simp; omega) (by simp) (by intro o ho; rcases (show o=0∨o=1∨o=2 by omega) with rfl|rfl|rfl<;>rfl) (ug rfl rfl rfl (by simp))
theorem wL:∀ e H Q,xu e H Q→AwK Tryz.f55.ntmps (.loop (ai [1,1,0,1,0] (ag Tryz.f55))) Q e H:=by
 rintro e H Q ⟨w,m,t,hl,he,hH,hx0,hx1⟩
 have hH2:H=_:=hH
 subst hH2
 refine fF (hn:=fun o=>match o.op with| .load t _=>(match t with|31=>1|_=>0)|_=>match o.dst with|some 33=>1|_=>0) aj (.nil _ _) (.nil _ _ _ _ _) (σ:=Nat) [1,2,4,5,6] (fun i=>i≤w.length)
  (fun i=>[.U t,.ptr 0 0,.ptr 1 0,.ptr 2 0,.I i]) (fun i=>tf w m (bL (w.take i) t)) (fun i=>w.length-i) 0 (Nat.zero_le _) he rfl ?_
 intro i hi
 have hi':i≤w.length:=hi
 have hstep:∀ h:i<w.length,bL (w.take (i+1)) t=if((w.getD i default).id != t)=true then bL (w.take i) t++[w.getD i default] else bL (w.take i) t:=by
  intro h
  unfold bL
  rw[aJ default h,List.filter_append,List.filter_cons]
  split<;>simp
 have hc:cI (csI (w.getD i default)) 0=(w.getD i default).id:=rfl
 have hlen:(bL (w.take i) t).length≤1000000:=Nat.le_trans (List.length_filter_le _ _) (by rw[List.length_take]; omega)
 cases hacc:bL (w.take i) t with
 | nil=>
  rw[hacc] at hstep
  refine Ap w m t i _ ?_
  simp only[au,dt,List.length_map]
  by_cases h:i<w.length
  ·rw[if_pos (by omega),ji,an,getD_map default h]
   refine⟨h,?_⟩
   rw[if_pos (by rfl),List.drop_zero,hc]
   have hs:=hstep h
   by_cases c:((w.getD i default).id != t)=true
   ·rw[if_pos c] at hs
    rw[if_pos c]
    refine⟨h,?_⟩
    rw[if_pos (by rfl)]
    refine⟨⟨(by intro e he; simp at he),(by intro e he; simp at he; subst he; rfl),by simp⟩,⟨by rfl,by simp⟩,i+1,(show w.length-(i+1)<w.length-i by omega),h,?_⟩
    show ej 3 _ _ [PV.U t,.ptr 0 0,.ptr 1 0,.ptr 2 0,.I ((i+1:Nat):Int)] (tf w m (bL (w.take (i+1)) t))
    rw[hs,ar h (by omega)]
    exact oh w [w.getD i default] m t _ 3 (Nat.le_refl _) rfl (X:=[.tok]) rfl
   ·rw[if_neg c] at hs
    rw[if_neg c]
    refine⟨i+1,(show w.length-(i+1)<w.length-i by omega),h,?_⟩
    show ej 3 _ _ [PV.U t,.ptr 0 0,.ptr 1 0,.ptr 2 0,.I ((i+1:Nat):Int)] (tf w m (bL (w.take (i+1)) t))
    rw[hs,ar h (by omega)]
    exact yJ w m t _
  ·rw[if_neg (by omega)]
   have:i=w.length:=by omega
   subst this
   rw[List.take_length] at hacc
   exact⟨_,_,yJ w m t _,hx0 hacc⟩
 | cons a acc=>
  rw[hacc] at hstep hlen
  refine yY w m t ((a::acc).map csI) i _ ?_
  simp only[au,dt,List.length_map]
  by_cases h:i<w.length
  ·rw[if_pos (by omega),ji,an,getD_map default h]
   refine⟨h,?_⟩
   rw[if_pos (by rfl),List.drop_zero,hc]
   have hs:=hstep h
   by_cases c:((w.getD i default).id != t)=true
   ·rw[if_pos c] at hs
    rw[if_pos c]
    refine⟨h,?_⟩
    rw[if_pos (by rfl)]
    refine⟨⟨ud _,(by intro e he; simp at he; subst he; rfl),by rw[List.length_map,List.length_singleton]; omega⟩,⟨by rfl,by simp⟩,i+1,(show w.length-(i+1)<w.length-i by omega),h,?_⟩
    show ej 3 _ _ [PV.U t,.ptr 0 0,.ptr 1 0,.ptr 2 0,.I ((i+1:Nat):Int)] (tf w m (bL (w.take (i+1)) t))
    rw[hs,ar h (by omega)]
    exact oh w (a::acc++[w.getD i default]) m t _ 4 (by decide) (by rw[List.map_append]; rfl) (X:=[.dead,.tok]) rfl
   ·rw[if_neg c] at hs
    rw[if_neg c]
    refine⟨i+1,(show w.length-(i+1)<w.length-i by omega),h,?_⟩
    show ej 3 _ _ [PV.U t,.ptr 0 0,.ptr 1 0,.ptr 2 0,.I ((i+1:Nat):Int)] (tf w m (bL (w.take (i+1)) t))
    rw[hs,ar h (by omega)]
    exact oh w (a::acc) m t _ 3 (Nat.le_refl _) rfl (X:=[.tok]) rfl
  ·rw[if_neg (by omega)]
   have:i=w.length:=by omega
   subst this
   rw[List.take_length] at hacc
   rw[hacc] at hx1
   exact⟨_,_,oh w (a::acc) m t _ 3 (Nat.le_refl _) rfl (X:=[.tok]) rfl,hx1 (List.cons_ne_nil _ _)⟩
theorem s6 (w:List RwI) (m:Int) (t:Int):∀(K:PV→ae→Prop),(∃(w_1:List RwI) (m_1:Int) (t_1:Int),by refine(?_:_→_→_→Prop) [PV.list (List.map csI (bL w_1 t_1)) (.tok 3),.I m_1] [PV.E,.I m_1] (Ob.cells [.list (w_1.map csI) .no,.I m_1]); exact fun a b c=>w_1.length≤1000000∧ah [.U t,.ptr 0 0,.ptr 1 0,.ptr 2 0,.I 0] [.U t_1,.ptr 0 0,.ptr 1 0,.ptr 2 0,.I 0]∧av [.cells [.list (w.map csI) .no,.I m],.cells [.E,.I 0],.cells [.E,.I m]] [c,.cells [.E,.I 0],.cells b]∧(bL w_1 t_1=[]→K (.agg b) [c,.cells b,.cells b])∧(bL w_1 t_1≠[]→K (.agg a) [c,.cells a,.cells a,.tok]))→AcK 55 [.agg [.list (w.map csI) .no,.I m],.U t] [] K:=fun K h=>acW (T:=[]) (L:=[([1,1,0,1,0],xu)]) (fun o=>match o.op with| .load t _=>(match t with|31=>1|_=>0)|_=>match o.dst with|some 33=>1|_=>0) Tryz.func55 (aX.nil _ _) (.cons suE wL (.nil _ _ _ _ _)) h
theorem nn (w:List RwI) (m t:Int):∀ x∈[PV.agg [.list (w.map csI) .no,.I m],.U t],Low 0 x:=by
 intro x hx
 simp only[List.mem_cons,List.not_mem_nil,or_false] at hx
 rcases hx with rfl|rfl
 ·exact ck w m
 ·exact .int _ _
theorem E5 {x y:PV} {xs:List PV} (h:Wk x y):Wk (.agg (x::xs)) (.agg (y::xs)):= .agg (.cons h (.refl _))
def qM (args:List PV) (H:ae) (K:PV→ae→Prop):Prop:=∃(w:List RwI) (m t:Int),ah args [.agg [.list (w.map csI) .no,.I m],.U t]∧w.length≤1000000∧
 (bL w t=[]→K (.agg [.E,.I m]) H)∧(bL w t≠[]→K (.agg [.list ((bL w t).map csI) (.tok H.length),.I m]) (H++[.tok]))
theorem vK:SpK 55 (.heap qM):=by
 rintro args H K ⟨w,m,t,he,hl,hk0,hk1⟩
 have he:args=_:=he
 subst he
 refine aM (Md aj (es:=(bL w t).map csI) (rest:=[.I m]) (.refl _) (nn w m t) (pL _) cU ?_ H) ?_
 ·refine s6 w m t _ ⟨w,m,t,hl,rfl,rfl,fun h=>⟨fun _=>rfl,fun k=>absurd (by rw[h]; rfl) k⟩,fun h=>⟨fun k=>absurd (List.map_eq_nil_iff.1 k) h,fun _=>⟨3,rfl,rfl⟩⟩⟩
 ·rintro x H' ⟨h0,h1⟩
  by_cases c:bL w t=[]
  ·obtain⟨rfl,rfl⟩:=h0 (by rw[c]; rfl)
   exact hk0 c
  ·obtain⟨rfl,rfl⟩:=h1 (fun k=>c (List.map_eq_nil_iff.1 k))
   exact hk1 c
def Ln:Tab:=[(54,.pure sX),(53,.pure xT),(55,.heap qM)]
theorem xL:TbK Ln:= .cons zP (.cons uZ (.cons vK (.nil _ _)))
theorem ve (w:List RwI) (m:Int) (t v:Int):(by refine(?_:_→_→Prop) (PV.agg [.list (w.map csI) .no,.I m]) [PV.U t,.I v]; exact fun b e=>by refine(?_:_→_→Prop) [e] e; exact fun c d=>∀(K:PV→Prop),by refine(?_:_→Prop) (∃(w_2:List RwI) (m_2:Int) (t_3:Int),ah [b,.U t] [.agg [.list (w_2.map csI) .no,.I m_2],.U t_3]∧w_2.length≤1000000∧(bL w_2 t_3=[]→aG [] c 2 16∧(List.all d PV.one=true∧c≠[])∧K (.tup [.agg [.list c (.tok 3),.I m_2],.I 0]))∧(bL w_2 t_3≠[]→aG (List.map csI (bL w_2 t_3)) c 2 16∧(List.all d PV.one=true∧c≠[])∧K (.tup [.agg [.list (List.map csI (bL w_2 t_3)++c) (.tok 4),.I m_2],.I 0]))); exact fun a=>(∃(t_1:Int),0≤t_1∧ah [.U t] [.U t_1]∧br (!aC t_1) (K (.tup [b,.I 14])) (∃(w_1:List RwI) (m_1:Int) (t_2:Int),ah [b,.U t] [.agg [.list (w_1.map csI) .no,.I m_1],.U t_2]∧w_1.length≤1000000∧br (decide (iO w_1 t_2<0) == true) (br (decide ((↑(List.length (w.map csI)):Int)≥m)) (K (.tup [b,.I 10])) a) a))→AcK 23 [b,.U t,.I v] [] (fun x _=>K x):Prop):=fun K h=>acW (T:=Ln) (L:=[]) (fun o=>match o.op with| .load t _=>(match t with|31=>1|_=>0)|_=>match o.dst with|some 35=>1|_=>0) Tryz.func23 (xL) (LOk.nil _ _ _ _ _) h
theorem nk (w:List RwI) (t:Int):decide (iO w t<0) = !eT w t:=by
 unfold iO eT
 by_cases c:fiW w t<w.length
 ·rw[if_pos c,decide_eq_true c,decide_eq_false (by omega)]; rfl
 ·rw[if_neg c,decide_eq_false c]; rfl
theorem wA (w:List RwI) (m n:Int):Low 0 (.tup [.agg [.list (w.map csI) .no,.I m],.I n]):= .tup _ (by
 intro y hy
 simp only[List.mem_cons,List.not_mem_nil,or_false] at hy
 rcases hy with rfl|rfl
 ·exact ck w m
 ·exact .int _ _)
def oD (args:List PV) (K:PV→Prop):Prop:=∃(w:List RwI) (m t v:Int),ah args [.agg [.list (w.map csI) .no,.I m],.U t,.I v]∧w.length≤1000000∧0≤t∧K (.tup [.agg [.list ((iU w m t v).1.map csI) .no,.I m],.I (iU w m t v).2])
theorem tE {rows:List (List PV)} {tl:Tail} {m n:Int}:Wk (.tup [.agg [.list rows tl,.I m],.I n]) (.tup [.agg [.list rows .no,.I m],.I n]):= .tup (.cons (E5 (.list _ _)) (.refl _))
theorem nE (w:List RwI) (t:Int):(bL w t).length≤w.length:=List.length_filter_le _ _
theorem rH (w:List RwI) (m t v:Int):∀ x∈[PV.agg [.list (w.map csI) .no,.I m],.U t,.I v],Low 0 x:=by
 intro x hx
 simp only[List.mem_cons,List.not_mem_nil,or_false] at hx
 rcases hx with rfl|rfl|rfl
 ·exact ck w m
 ·exact .int _ _
 ·exact .int _ _
theorem qw:SpK 23 (.pure oD):=by
 rintro args K ⟨w,m,t,v,he,hl,h0,hk⟩
 have he:args=_:=he
 subst he
 refine cr aj (rH w m t v) (wA _ _ _) (iv (aM (ve w m t v (fun x=>Wk x (.tup [.agg [.list ((iU w m t v).1.map csI) .no,.I m],.I (iU w m t v).2])) ⟨t,h0,rfl,?_⟩) fun x H' h=>⟨_,H',h,.refl _,rfl⟩)) hk
 unfold iU
 rw[au]
 by_cases c:aC t=true
 ·rw[if_neg (by simp[c]),if_pos c]
  refine⟨w,m,t,rfl,hl,?_⟩
  simp only[au,bt,nk,List.length_map]
  have fin:∀ rs:List RwI×Int,rs=(bL w t++[⟨t,v⟩],0)→∃(w_2:List RwI),∃(m_2:Int),∃(t_3:Int),ah [PV.agg [PV.list (List.map csI w) Tail.no,PV.int IntKind.i64 m],PV.int IntKind.u32 t] [PV.agg [PV.list (List.map csI w_2) Tail.no,PV.int IntKind.i64 m_2],PV.int IntKind.u32 t_3]∧List.length w_2≤1000000∧(bL w_2 t_3=[]→aG [] [[PV.int IntKind.u32 t,PV.int IntKind.i64 v]] 2 16∧(List.all [PV.int IntKind.u32 t,PV.int IntKind.i64 v] PV.one=true∧[[PV.int IntKind.u32 t,PV.int IntKind.i64 v]]≠[])∧Wk (PV.tup [PV.agg [PV.list [[PV.int IntKind.u32 t,PV.int IntKind.i64 v]] (Tail.tok 3),PV.int IntKind.i64 m_2],PV.int IntKind.i64 0]) (.tup [.agg [.list (rs.1.map csI) .no,.I m],.I rs.2]))∧(bL w_2 t_3≠[]→aG (List.map csI (bL w_2 t_3)) [[PV.int IntKind.u32 t,PV.int IntKind.i64 v]] 2 16∧(List.all [PV.int IntKind.u32 t,PV.int IntKind.i64 v] PV.one=true∧[[PV.int IntKind.u32 t,PV.int IntKind.i64 v]]≠[])∧Wk (PV.tup [PV.agg [PV.list (List.map csI (bL w_2 t_3)++[[PV.int IntKind.u32 t,PV.int IntKind.i64 v]]) (Tail.tok 4),PV.int IntKind.i64 m_2],PV.int IntKind.i64 0]) (.tup [.agg [.list (rs.1.map csI) .no,.I m],.I rs.2])):=by
   rintro rs rfl
   refine⟨w,m,t,rfl,hl,fun h=>⟨⟨(by intro e he; simp at he),(by intro e he; simp at he; subst he; rfl),by simp⟩,⟨rfl,by simp⟩,?_⟩,fun _=>⟨⟨ud _,(by intro e he; simp at he; subst he; rfl),?_⟩,⟨rfl,by simp⟩,?_⟩⟩
   ·rw[h]; exact tE
   ·have:=nE w t; rw[List.length_map,List.length_singleton]; omega
   ·rw[List.map_append]; exact tE
  by_cases c2:eT w t=true
  ·rw[if_neg (by simp[c2]),if_neg (by simp[c2])]
   exact fin _ rfl
  ·have c2':eT w t=false:=by simpa using c2
   rw[if_pos (by simp[c2'])]
   by_cases c3:(w.length:Int)≥m
   ·rw[if_pos (decide_eq_true c3),if_pos ⟨c2',c3⟩]
    exact .refl _
   ·rw[if_neg (by simpa using c3),if_neg (fun h=>c3 h.2)]
    exact fin _ rfl
 ·rw[if_pos (by simpa using c),if_neg c]
  exact .refl _
structure Wd where
 ra:List (Int×Int)
 rows:List (List Rr)
 st:List Int
def prC (p:Int×Int):List PV:=[.U p.1,.I p.2]
theorem I2 (p:Int×Int):(prC p).length=2:=rfl
theorem FR {n:Nat} (p:Int×Int):∀ y∈prC p,Low n y:=bn (.int _ _) (.int _ _)
def wdC (w:Wd):List PV:=[.list (w.ra.map prC) .no,.list (w.rows.map lcs) .no,.list (w.st.map i1) .no]
theorem n5 {n:Nat} (w:Wd):∀ y∈wdC w,Low n y:=dn (bq FR _) (bq jT _) (bq iL _)
theorem K8 (w:Wd) (i j:Nat):(by refine(?_:_→_→_→Prop) (List.getD (w.rows.map lcs) (Int.toNat (i:Int)) []) [Ob.cells [.list (w.ra.map prC) .no,.list (w.rows.map lcs) .no,.list (w.st.map i1) .no]] [PV.ptr 0 0,.bool false,.I i,.I j]; exact fun a b d=>by refine(?_:_→_→Prop) (List.drop 1 (List.getD (cL a 0) (Int.toNat (j:Int)) [])) (true && aD [.list] 0 a); exact fun c f=>∀(R:Ex→List PV→ae→Prop),(InL (w.rows.map lcs) 1 (i:Int)∧br f (br (decide ((j:Int)<(↑(List.length (cL a 0)):Int))) (InL (w.rows.map lcs) 1 (i:Int)∧br f (InL (cL a 0) 4 (j:Int)∧br (true && aD [.list] 0 c) (br (decide ((↑(List.length (cL c 0)):Int)>8)) (R .ret [.ptr 0 0,.bool true,.I i,.I j] b) (R .normal [.ptr 0 0,.bool false,.I i,.I (wI ((j:Int)+1))] b)) False) False) (R (.exit 2) d b)) False)→Holds (wpK [] [] (fun _=>0) (ai [1,1,0,1,0,0,1,0,0,1,1,0] (ag Tryz.f6)) [] (ak [1,2,3,4] d) [.cells (wdC w)] (fun ex e H=>R ex (List.map e [1,2,3,4]) H)):Prop):=fun R h=>hoE h
def g8 (r:Rr):Bool:=decide (r.pl.length>8)
def qi (l:List Rr):Bool:=decide (l.length>8) || l.any g8
def fl (w:Wd):Bool:=decide (w.ra.length>40) || decide (w.rows.length>6) || decide (w.st.length>60) || w.rows.any qi
theorem xW {α:Type} {p:α→Bool} {l:List α} {i:Nat} (d:α) (h:i<l.length):(l.take (i+1)).any p=((l.take i).any p || p (l.getD i d)):=by
 rw[aJ d h,List.any_append]; simp
theorem sB {α:Type} {p:α→Bool} {l:List α} {i:Nat} (d:α) (h:i<l.length) (hp:p (l.getD i d)=true):l.any p=true:=
 List.any_eq_true.2 ⟨_,by rw[List.getD_eq_getElem?_getD,List.getElem?_eq_getElem h]; exact List.getElem_mem h,hp⟩
def Be:LSp:=fun e H Q=>∃(w:Wd) (i:Nat),i<w.rows.length∧(w.rows.getD i []).length≤1000000∧ah (List.map e [1,2,3,4]) [.ptr 0 0,.bool false,.I i,.I 0]∧av H [.cells (wdC w)]∧((w.rows.getD i []).any g8=false→∀ j:Int,Q (.exit 2) (ak [1,2,3,4] [.ptr 0 0,.bool false,.I i,.I j]) [.cells (wdC w)])∧((w.rows.getD i []).any g8=true→∀ j:Int,Q .ret (ak [1,2,3,4] [.ptr 0 0,.bool true,.I i,.I j]) [.cells (wdC w)])
theorem DY:∀ e H Q,Be e H Q→AwK Tryz.f6.ntmps (.loop (ai [1,1,0,1,0,0,1,0,0,1,1,0] (ag Tryz.f6))) Q e H:=by
 rintro e H Q ⟨w,i,hi,hll,he,hH,hQ0,hQ1⟩
 have inl:InL (w.rows.map lcs) 1 (i:Int):=by rw[cy]; exact hi
 obtain⟨l,hl⟩:∃ l,l=w.rows.getD i []:=⟨_,rfl⟩
 rw[← hl] at hll hQ0 hQ1
 have c0:cL (lcs l) 0=l.map rrc:=rfl
 refine aB (hn:=fun _=>0) aj (.nil _ _) (.nil _ _ _ _ _) (σ:=Nat) [1,2,3,4] (fun j=>j≤l.length∧(l.take j).any g8=false) (fun j=>[.ptr 0 0,.bool false,.I i,.I j]) (fun _=>[.cells (wdC w)]) (fun j=>l.length-j) 0 ⟨Nat.zero_le _,rfl⟩ he hH ?_
 rintro j ⟨hj,ha⟩
 refine K8 w i j _ ?_
 simp only[au,dt,an,getD_map [] hi,← hl,c0,List.length_map]
 refine⟨inl,?_⟩
 rw[if_pos (by rfl)]
 by_cases h:j<l.length
 ·rw[if_pos (by omega)]
  have inl2:InL (l.map rrc) 4 (j:Int):=by rw[ee]; exact h
  have c1:∀ r:Rr,cL (List.drop 1 (rrc r)) 0=r.pl.map u1:=fun _=>rfl
  refine⟨inl,?_⟩
  rw[if_pos (by rfl)]
  refine⟨inl2,?_⟩
  simp only[getD_map default h,c1,List.length_map]
  rw[if_pos (by rfl)]
  by_cases c:g8 (l.getD j default)=true
  ·have c':(l.getD j default).pl.length>8:=by simpa[g8] using c
   rw[if_pos (by omega)]
   exact hQ1 (sB default h c) _
  ·have c':¬ (l.getD j default).pl.length>8:=by simpa[g8] using c
   rw[if_neg (by omega)]
   exact⟨j+1,(show l.length-(j+1)<l.length-j by omega),⟨h,by rw[xW default h,ha,eq_false_of_ne_true c]; rfl⟩,by rw[ar h (by omega)],[],rfl,Nat.le_refl _,.inl rfl⟩
 ·rw[if_neg (by omega)]
  have:j=l.length:=by omega
  subst this
  rw[List.take_length] at ha
  exact hQ0 ha _
theorem L4:ai [1,0,0,1,1,0] (ai [1,1,0,1,0] (ag Tryz.f6))=ai [1,1,0,1,0,0,1,0,0,1,1,0] (ag Tryz.f6):=by kernel_rfl
theorem zL:∀ e H Q,Be e H Q→AwK Tryz.f6.ntmps (.loop (ai [1,0,0,1,1,0] (ai [1,1,0,1,0] (ag Tryz.f6)))) Q e H:=by rw[L4]; exact DY
theorem Mk (w:Wd) (i:Nat):(by refine(?_:_→_→_→Prop) [Ob.cells [.list (w.ra.map prC) .no,.list (w.rows.map lcs) .no,.list (w.st.map i1) .no]] (List.getD (w.rows.map lcs) (Int.toNat (i:Int)) []) [PV.ptr 0 0,.bool false,.I i]; exact fun c d f=>∀(R:Ex→List PV→ae→Prop),(br (decide ((i:Int)<(↑(List.length (w.rows.map lcs)):Int))) (InL (w.rows.map lcs) 1 (i:Int)∧br (true && aD [.list] 0 d) (br (decide ((↑(List.length (cL d 0)):Int)>8)) (R .ret [.ptr 0 0,.bool true,.I i] c) (∃(w_1:Wd) (i_1:Nat),by refine(?_:_→_→Prop) [Ob.cells [.list (w_1.ra.map prC) .no,.list (w_1.rows.map lcs) .no,.list (w_1.st.map i1) .no]] (List.getD w_1.rows i_1 []); exact fun a b=>i_1<w_1.rows.length∧List.length b≤1000000∧ah [.ptr 0 0,.bool false,.I i,.I 0] [.ptr 0 0,.bool false,.I i_1,.I 0]∧av c a∧(List.any b g8=false→∀(_:Int),R .normal [.ptr 0 0,.bool false,.I (wI ((i_1:Int)+1))] a)∧(List.any b g8=true→∀(_:Int),R .ret [.ptr 0 0,.bool true,.I i_1] a))) False) (R (.exit 0) f c))→Holds (wpK [] [([1,0,0,1,1,0],Be)] (fun _=>0) (ai [1,1,0,1,0] (ag Tryz.f6)) [] (ak [1,2,3] f) [.cells (wdC w)] (fun ex e H=>R ex (List.map e [1,2,3]) H)):Prop):=fun R h=>hoE h
def JO:LSp:=fun e H Q=>∃(w:Wd),w.rows.length≤1000000∧ah (List.map e [1,2,3]) [.ptr 0 0,.bool false,.I 0]∧av H [.cells (wdC w)]∧(w.rows.any qi=false→∀ i:Int,Q (.exit 0) (ak [1,2,3] [.ptr 0 0,.bool false,.I i]) [.cells (wdC w)])∧(w.rows.any qi=true→∀ i:Int,Q .ret (ak [1,2,3] [.ptr 0 0,.bool true,.I i]) [.cells (wdC w)])
theorem Et:∀ e H Q,JO e H Q→AwK Tryz.f6.ntmps (.loop (ai [1,1,0,1,0] (ag Tryz.f6))) Q e H:=by
 rintro e H Q ⟨w,hwl,he,hH,hQ0,hQ1⟩
 refine aB (hn:=fun _=>0) aj (.nil _ _) (.cons suE zL (.nil _ _ _ _ _)) (σ:=Nat) [1,2,3] (fun i=>i≤w.rows.length∧(w.rows.take i).any qi=false) (fun i=>[.ptr 0 0,.bool false,.I i]) (fun _=>[.cells (wdC w)]) (fun i=>w.rows.length-i) 0 ⟨Nat.zero_le _,rfl⟩ he hH ?_
 rintro i ⟨hi,ha⟩
 refine Mk w i _ ?_
 simp only[au,dt,an,List.length_map]
 by_cases h:i<w.rows.length
 ·rw[if_pos (by omega)]
  have inl:InL (w.rows.map lcs) 1 (i:Int):=by rw[cy]; exact h
  have c0:∀ l:List Rr,cL (lcs l) 0=l.map rrc:=fun _=>rfl
  refine⟨inl,?_⟩
  simp only[getD_map [] h,c0,List.length_map]
  rw[if_pos (by rfl)]
  by_cases c:(w.rows.getD i []).length>8
  ·rw[if_pos (by omega)]
   exact hQ1 (sB [] h (by unfold qi; rw[decide_eq_true c]; rfl)) _
  ·rw[if_neg (by omega)]
   refine⟨w,i,h,by omega,rfl,rfl,fun h0 _=>?_,fun h1 _=>?_⟩
   ·exact⟨i+1,(show w.rows.length-(i+1)<w.rows.length-i by omega),⟨h,by rw[xW [] h,ha]; unfold qi; rw[h0,decide_eq_false c]; rfl⟩,by rw[ar h (by omega)],[],rfl,Nat.le_refl _,.inl rfl⟩
   ·exact hQ1 (sB [] h (by unfold qi; rw[h1]; simp)) _
 ·rw[if_neg (by omega)]
  have:i=w.rows.length:=by omega
  subst this
  rw[List.take_length] at ha
  exact hQ0 ha _
theorem MJ (w:Wd):∀(K:PV→Prop),(br (decide ((↑(List.length (w.ra.map prC)):Int)>40) == false) (br (decide ((↑(List.length (w.rows.map lcs)):Int)>6) == false) (br (decide ((↑(List.length (w.st.map i1)):Int)>60)) (K (.bool true)) (∃(w_1:Wd),w_1.rows.length≤1000000∧ah [.ptr 0 0,.bool false,.I 0] [.ptr 0 0,.bool false,.I 0]∧av [.cells [.list (w.ra.map prC) .no,.list (w.rows.map lcs) .no,.list (w.st.map i1) .no]] [.cells [.list (w_1.ra.map prC) .no,.list (w_1.rows.map lcs) .no,.list (w_1.st.map i1) .no]]∧(List.any w_1.rows qi=false→∀(_:Int),K (.bool false))∧(List.any w_1.rows qi=true→∀(_:Int),K (.bool true)))) (K (.bool true))) (K (.bool true)))→AcK 6 [.agg (wdC w)] [] (fun x _=>K x):=fun K h=>acW (T:=[]) (L:=[([1,1,0,1,0],JO)]) (fun _=>0) Tryz.func6 (aX.nil _ _) (.cons suE Et (.nil _ _ _ _ _)) h
def Jb (args:List PV) (K:PV→Prop):Prop:=∃(w:Wd) (t1 t2 t3:Tail),ah args [.agg [.list (w.ra.map prC) t1,.list (w.rows.map lcs) t2,.list (w.st.map i1) t3]]∧K (.bool (fl w))
theorem Mb:SpK 6 (.pure Jb):=by
 rintro args K ⟨w,t1,t2,t3,he,hk⟩
 have he:args=_:=he
 subst he
 refine bu aj (.cons (.agg (xs':=wdC w) (.cons (.list _ _) (.cons (.list _ _) (.cons (.list _ _) .nil)))) .nil) (bw (.agg _ (n5 w))) (.bool _) (MJ w (fun x=>x = .bool (fl w)) ?_) hk
 simp only[au,List.length_map]
 by_cases c1:w.ra.length>40
 ·rw[if_neg (by simp; omega)]
  unfold fl; rw[decide_eq_true c1]; rfl
 ·rw[if_pos (by simp; omega)]
  by_cases c2:w.rows.length>6
  ·rw[if_neg (by simp; omega)]
   unfold fl; rw[decide_eq_true c2]; simp
  ·rw[if_pos (by simp; omega)]
   by_cases c3:w.st.length>60
   ·rw[if_pos (by simp; omega)]
    unfold fl; rw[decide_eq_true c3]; simp
   ·rw[if_neg (by simp; omega)]
    refine⟨w,by omega,(by first|rfl|(show _=_; simp)),rfl,fun h0 _=>?_,fun h1 _=>?_⟩
    ·unfold fl; rw[decide_eq_false c1,decide_eq_false c2,decide_eq_false c3,h0]; rfl
    ·unfold fl; rw[h1]; simp
theorem yP {w:Wd} (h:fl w=false):w.ra.length≤40∧w.rows.length≤6∧w.st.length≤60∧∀ l∈w.rows,smR l:=by
 unfold fl at h
 simp only[Bool.or_eq_false_iff,decide_eq_false_iff_not] at h
 obtain⟨⟨⟨h1,h2⟩,h3⟩,h4⟩:=h
 refine⟨by omega,by omega,by omega,fun l hl=>?_⟩
 have:=List.any_eq_false.1 h4 l hl
 unfold qi at this
 simp only[Bool.or_eq_true,decide_eq_true_eq,not_or,Bool.not_eq_true] at this
 refine⟨by omega,fun r hr=>?_⟩
 have:=List.any_eq_false.1 this.2 r hr
 unfold g8 at this
 have:=(by simpa using this:r.pl.length≤8)
 omega
def Ew (args:List PV) (H:ae) (K:PV→ae→Prop):Prop:=∃(l:List RwI) (most t v:Int),ah args [.ptr 2 0,.U t,.I v]∧bU H 2 (rkI l most)∧Ok l most∧K (.I (cN l most t v).2) (H.set 2 (.abs (rkI (cN l most t v).1 most)))
theorem F2:SpK 22 (.chg Ew):=by
 rintro args H K ⟨l,most,t,v,he,hb,ok,hk⟩
 have he:args=_:=he
 subst he
 exact⟨_,_,so _ H (fun x H1=>x=_∧H1=_) ⟨l,most,t,v,rfl,hb,ok,⟨rfl,rfl⟩⟩,hk⟩
def Ds (args:List PV) (H:ae) (K:PV→ae→Prop):Prop:=∃(w:List Mt) (m p st un no:Int),ah args [.ptr 4 0,.U p,.I st,.I un,.int .u64 no]∧cm H 4 3 (rkM (aq w) m)∧MO w m∧K (.I (eg w p st un no).2) (H.set 3 (.abs (rkM (aq (eg w p st un no).1) m)))
theorem HM:SpK 26 (.chg Ds):=fun args H _ ⟨w,m,p,st,un,no,he,hb,ro,hk⟩=>⟨_,_,Az args H (fun x H1=>x=_∧H1=_) ⟨4,3,w,m,p,st,un,no,he,hb,ro,⟨rfl,rfl⟩⟩,hk⟩
def w9 (args:List PV) (H:ae) (K:PV→ae→Prop):Prop:=∃(w:List Mt) (m id md ins:Int) (l:List Rr) (t:Tail),ah args [.ptr 4 0,.U id,.I md,.U ins,.list (l.map rrc) t]∧cm H 4 3 (rkM (aq w) m)∧MO w m∧smR l∧K (.I (dH w m id md ins l).2) (H.set 3 (.abs (rkM (aq (dH w m id md ins l).1) m)))
theorem Ft:SpK 24 (.heap w9):=fun args H K ⟨w,m,id,md,ins,l,t,he,hb,ro,hl,hk⟩=>xZ args H K ⟨4,3,w,m,id,md,ins,l,t,he,hb,ro,hl,hk⟩
def TOP:Tab:=[(22,.chg Ew),(23,.pure oD),(26,.chg Ds),(27,.pure De),(24,.heap w9),(25,.pure xn),(20,.heap vY),(21,.heap vI)]
theorem kE:TbK TOP:= .cons F2 (.cons qw (.cons HM (.cons HN (.cons Ft (.cons Ca (.cons xo (.cons yM (.nil _ _))))))))
theorem Mj (d:Wd) (ra:List RwI) (r:List RwI) (i:Nat):(by refine(?_:_→_→_→_→_→Prop) (List.getD (d.ra.map prC) (Int.toNat (i:Int)) []) [PV.ptr 0 0,.ptr 1 0,.ptr 2 0,.ptr 4 0,.ptr 5 0,.E,.I i] [PV.list (d.ra.map prC) .no,.list (d.rows.map lcs) .no,.list (d.st.map i1) .no] [PV.list (r.map csI) .no,.I 40] (Ob.cells [.E,.I 0]); exact fun a c f g h=>by refine(?_:_→_→_→_→_→Prop) [Ob.cells f,h,.abs (rkI ra 40),.abs (rkM [] 6),.cells [.ptr 3 0],.cells g] (true && aD [.int .u32] 0 (List.drop 0 a)) (true && aD [.int .i64] 0 (List.drop 1 a)) (PV.U (cI (List.drop 0 a) 0)) (PV.I (cI (List.drop 1 a) 0)); exact fun b j k n p=>∀(R:Ex→List PV→ae→Prop),(br (decide ((i:Int)<(↑(List.length (d.ra.map prC)):Int))) (InL (d.ra.map prC) 2 (i:Int)∧br j (InL (d.ra.map prC) 2 (i:Int)∧br k (∃(l:List RwI) (most:Int) (t:Int) (v:Int),ah [.ptr 2 0,n,p] [.ptr 2 0,.U t,.I v]∧bU b 2 (rkI l most)∧Ok l most∧InL (d.ra.map prC) 2 (i:Int)∧br j (InL (d.ra.map prC) 2 (i:Int)∧br k (∃(w:List RwI) (m:Int) (t_1:Int) (v_1:Int),ah [.agg g,n,p] [.agg [.list (w.map csI) .no,.I m],.U t_1,.I v_1]∧w.length≤1000000∧0≤t_1∧R .normal [.ptr 0 0,.ptr 1 0,.ptr 2 0,.ptr 4 0,.ptr 5 0,.E,.I (wI ((i:Int)+1))] [.cells f,h,.abs (rkI (Prod.fst (cN l most t v)) most),.abs (rkM [] 6),.cells [.ptr 3 0],.cells [.list (List.map csI (Prod.fst (iU w m t_1 v_1))) .no,.I m]]) False) False) False) False) (R (.exit 0) c b))→Holds (wpK TOP [] (fun o=>match o.dst with|some 41=>7|some 30=>1001|some 36=>1001|some 34=>900|some 40=>900|some 43=>501002|some 45=>1001|some 51=>1001|some 49=>900|some 55=>900|some _=>0|none=>match o.op with| .store _ (.tmp 8) _=>501002|_=>0) (ai [1,1,1,1,0,1,0] (ag Tryz.f7)) [] (ak [1,4,6,7,8,9,10] c) [.cells (wdC d),h,.abs (rkI ra 40),.abs (rkM (aq []) 6),.cells [.ptr 3 0],.cells g] (fun ex e H=>R ex (List.map e [1,4,6,7,8,9,10]) H)):Prop):=fun R h=>hoE h
theorem Kj (d:Wd) (ra r:List RwI) (w:List Mt) (at_ i k j:Nat):(by refine(?_:_→_→_→_→_→_→_→Prop) (List.getD (d.rows.map lcs) (Int.toNat (i:Int)) []) (List.getD (d.st.map i1) (Int.toNat (at_:Int)) []) (Ob.cells [.list (r.map csI) .no,.I 40]) [PV.list (d.ra.map prC) .no,.list (d.rows.map lcs) .no,.list (d.st.map i1) .no] (Ob.cells [.E,.I 0]) (Ob.abs (rkM (aq w) 6)) (PV.list (w.map mtc) .no); exact fun c g n q s y z=>by refine(?_:_→_→_→_→_→_→Prop) (List.drop 1 (List.getD (cL c 0) (Int.toNat (k:Int)) [])) [Ob.cells q,s,.abs (rkI ra 40),y,.cells [.ptr 3 0],n,.dead] [PV.ptr 0 0,.ptr 1 0,.ptr 2 0,.ptr 4 0,.ptr 5 0,z,.I at_,.I i,.I k,.I j] (true && aD [.list] 0 c) (true && aD [.int .i64] 0 g) (PV.I (cI g 0)); exact fun b f l t x B=>by refine(?_:_→_→Prop) (List.getD (cL b 0) (Int.toNat (j:Int)) []) (true && aD [.list] 0 b); exact fun h u=>by refine(?_:_→_→Prop) (true && aD [.int .u32] 0 h) (PV.U (cI h 0)); exact fun v A=>∀(R:Ex→List PV→ae→Prop),by refine(?_:_→Prop) (R (.exit 8) l f); exact fun a=>(InL (d.rows.map lcs) 1 (i:Int)∧br t (InL (cL c 0) 4 (k:Int)∧br u (br (decide ((j:Int)<(↑(List.length (cL b 0)):Int)) == true) (br (decide ((at_:Int)<(↑(List.length (d.st.map i1)):Int))) (InL (d.rows.map lcs) 1 (i:Int)∧br t (InL (cL c 0) 4 (k:Int)∧br u (InL (cL b 0) 1 (j:Int)∧br v (InL (d.st.map i1) 1 (at_:Int)∧br x (∃(w_1:List Mt) (m:Int) (p:Int) (st:Int) (un:Int) (no:Int),ah [.ptr 4 0,A,B,.I 0,.int .u64 0] [.ptr 4 0,.U p,.I st,.I un,.int .u64 no]∧cm f 4 3 (rkM (aq w_1) m)∧MO w_1 m∧InL (d.rows.map lcs) 1 (i:Int)∧br t (InL (cL c 0) 4 (k:Int)∧br u (InL (cL b 0) 1 (j:Int)∧br v (InL (d.st.map i1) 1 (at_:Int)∧br x (∃(w_2:List Mt) (m_1:Int) (p_1:Int) (st_1:Int) (un_1:Int) (no_1:Int) (t0:Tail),ah [z,A,B,.I 0,.int .u64 0] [.list (w_2.map mtc) t0,.U p_1,.I st_1,.I un_1,.int .u64 no_1]∧MO w_2 m_1∧m_1≤100000∧R .normal [.ptr 0 0,.ptr 1 0,.ptr 2 0,.ptr 4 0,.ptr 5 0,.list (List.map mtc (Prod.fst (eg w_2 p_1 st_1 un_1 no_1))) .no,.I (wI ((at_:Int)+1)),.I i,.I k,.I (wI ((j:Int)+1))] [.cells q,s,.abs (rkI ra 40),.abs (rkM (aq (Prod.fst (eg w_1 p st un no))) m),.cells [.ptr 3 0],n,.dead]) False) False) False) False) False) False) False) False) a) a) False) False)→Holds (wpK TOP [] (fun o=>match o.dst with|some 172=>7|some 156=>1101|some 168=>1201|some 159=>900|some 163=>900|some 166=>900|some 171=>900|_=>0) (ai [1,1,1,1,1,1,0,1,0,0,1,0,0,1,1,1,1,1,0,0,1,0,0,1,0] (ag Tryz.f7)) [] (ak [1,4,6,7,8,9,11,12,16,17] l) [.cells (wdC d),s,.abs (rkI ra 40),y,.cells [.ptr 3 0],n,.dead] (fun ex e H=>R ex (List.map e [1,4,6,7,8,9,11,12,16,17]) H)):Prop):=fun R h=>hoE h
def nR (xs:List (Int×Int)):List RwI:=xs.foldl (fun w x=>(iU w 40 x.1 x.2).1) []
theorem jN {α β:Type} {f:β→α→β} {b:β} {l:List α} {i:Nat} (d:α) (h:i<l.length):(l.take (i+1)).foldl f b=f ((l.take i).foldl f b) (l.getD i d):=by
 rw[aJ d h,List.foldl_append]; rfl
theorem Ec (xs:List (Int×Int)):(nR xs).length≤xs.length:=by
 have:∀(xs:List (Int×Int)) (w:List RwI),(xs.foldl (fun w x=>(iU w 40 x.1 x.2).1) w).length≤w.length+xs.length:=by
  intro xs
  induction xs with
  | nil=>intro w; exact Nat.le_refl _
  | cons x xs ih=>
   intro w
   have h1:(iU w 40 x.1 x.2).1.length≤w.length+1:=by
    unfold iU
    split
    ·split
     ·exact Nat.le_succ _
     ·show(bL w x.1++[(⟨x.1,x.2⟩:RwI)]).length≤_
      have:=nE w x.1
      rw[List.length_append]; simp; omega
    ·exact Nat.le_succ _
   have:=ih (iU w 40 x.1 x.2).1
   rw[List.foldl_cons,List.length_cons]; omega
 have:=this xs []
 simpa[nR] using this
theorem Ct {A:ae} {cs cs':List PV} (h:WkL cs cs'):WkH (A++[.cells cs]) (A++[.cells cs']):=by
 refine⟨by simp,fun o x ho=>?_⟩
 by_cases c:o<A.length
 ·rw[List.getElem?_append_left c] at ho
  exact⟨x,by rw[List.getElem?_append_left c]; exact ho,.refl x⟩
 ·have k:=(List.getElem?_eq_some_iff.1 ho).1
  simp at k
  have:o=A.length:=by omega
  subst this
  rw[at0] at ho; cases ho
  exact⟨_,at0 ..,.cells h⟩
theorem LO {z:List PV} (hz:∀ x∈z,Low 0 x):∀ v∈(.ptr 0 0 :: .ptr 1 0 :: .ptr 2 0 :: .ptr 4 0 :: .ptr 5 0::z:List PV),Low 6 v:=by
 intro v hv
 simp only[List.mem_cons] at hv
 rcases hv with rfl|rfl|rfl|rfl|rfl|hv
 ·exact .ptr _ _ (by decide)
 ·exact .ptr _ _ (by decide)
 ·exact .ptr _ _ (by decide)
 ·exact .ptr _ _ (by decide)
 ·exact .ptr _ _ (by decide)
 ·exact(hz v hv).up
def JH:LSp:=fun e H Q=>∃(d:Wd),d.ra.length≤1000∧(∀ p∈d.ra,0≤p.1)∧ah (List.map e [1,4,6,7,8,9,10]) [.ptr 0 0,.ptr 1 0,.ptr 2 0,.ptr 4 0,.ptr 5 0,.E,.I 0]∧av H [.cells (wdC d),.cells [.E,.I 0],.abs (rkI [] 40),.abs (rkM (aq []) 6),.cells [.ptr 3 0],.cells [.E,.I 40]]∧Q (.exit 0) (ak [1,4,6,7,8,9,10] [.ptr 0 0,.ptr 1 0,.ptr 2 0,.ptr 4 0,.ptr 5 0,.E,.I d.ra.length]) [.cells (wdC d),.cells [.E,.I 0],.abs (rkI (dO [] 40 d.ra) 40),.abs (rkM (aq []) 6),.cells [.ptr 3 0],.cells [.list ((nR d.ra).map csI) .no,.I 40]]
theorem AN:∀ e H Q,JH e H Q→AwK Tryz.f7.ntmps (.loop (ai [1,1,1,1,0,1,0] (ag Tryz.f7))) Q e H:=by
 rintro e H Q ⟨d,hl,hp,he,hH,hQ⟩
 have hH:H=_:=hH
 subst hH
 refine AW.KW (H1:=[.cells (wdC d),.cells [.E,.I 0],.abs (rkI [] 40),.abs (rkM (aq []) 6),.cells [.ptr 3 0],.cells [.list (([]:List RwI).map csI) .no,.I 40]]) (Ct (A:=[.cells (wdC d),.cells [.E,.I 0],.abs (rkI [] 40),.abs (rkM (aq []) 6),.cells [.ptr 3 0]]) (.cons (.list _ _) (.cons (.refl _) .nil))) ?_
 refine aB (hn:=fun o=>match o.dst with|some 41=>7|some 30=>1001|some 36=>1001|some 34=>900|some 40=>900|some 43=>501002|some 45=>1001|some 51=>1001|some 49=>900|some 55=>900|some _=>0|none=>match o.op with| .store _ (.tmp 8) _=>501002|_=>0) aj kE (.nil _ _ _ _ _) (σ:=Nat) [1,4,6,7,8,9,10] (fun i=>i≤d.ra.length) (fun i=>[.ptr 0 0,.ptr 1 0,.ptr 2 0,.ptr 4 0,.ptr 5 0,.E,.I i]) (fun i=>[.cells (wdC d),.cells [.E,.I 0],.abs (rkI (dO [] 40 (d.ra.take i)) 40),.abs (rkM (aq []) 6),.cells [.ptr 3 0],.cells [.list ((nR (d.ra.take i)).map csI) .no,.I 40]]) (fun i=>d.ra.length-i) 0 (Nat.zero_le _) he rfl ?_
 intro i hi
 have hi':i≤d.ra.length:=hi
 refine Mj d (dO [] 40 (d.ra.take i)) (nR (d.ra.take i)) i _ ?_
 simp only[au,dt,an,List.length_map]
 by_cases h:i<d.ra.length
 ·rw[if_pos (by omega)]
  obtain⟨p,hpd⟩:∃ p,p=d.ra.getD i (0,0):=⟨_,rfl⟩
  have hpm:p∈d.ra:=by rw[hpd]; exact aY h
  have inl:InL (d.ra.map prC) 2 (i:Int):=by rw[dD I2 (by decide)]; exact h
  have c0:∀ p:Int×Int,cI (List.drop 0 (prC p)) 0=p.1:=fun _=>rfl
  have c1:∀ p:Int×Int,cI (List.drop 1 (prC p)) 0=p.2:=fun _=>rfl
  have ok:Ok (dO [] 40 (d.ra.take i)) 40:=pO (Ok.none (by decide) (by decide)) _
  have hr:=Ec (d.ra.take i)
  rw[List.length_take] at hr
  have e1:dO [] 40 (d.ra.take (i+1))=(cN (dO [] 40 (d.ra.take i)) 40 p.1 p.2).1:=by rw[hpd]; exact jN (0,0) h
  have e2:nR (d.ra.take (i+1))=(iU (nR (d.ra.take i)) 40 p.1 p.2).1:=by rw[hpd]; exact jN (0,0) h
  simp only[getD_map (0,0) h,← hpd,c0,c1]
  refine⟨inl,?_⟩
  rw[if_pos (by rfl)]
  refine⟨inl,?_⟩
  rw[if_pos (by rfl)]
  refine⟨_,40,p.1,p.2,rfl,rfl,ok,inl,?_⟩
  rw[if_pos (by rfl)]
  refine⟨inl,?_⟩
  rw[if_pos (by rfl)]
  refine⟨_,40,p.1,p.2,rfl,by omega,hp p hpm,?_⟩
  rw[← e1,← e2]
  exact⟨i+1,(show d.ra.length-(i+1)<d.ra.length-i by omega),h,by rw[ar h (by omega)],[],rfl,Nat.le_refl _,.inl rfl⟩
 ·rw[if_neg (by omega)]
  have:i=d.ra.length:=by omega
  subst this
  rw[List.take_length]
  exact hQ
def vsS (st:List Int) (x:List Mt×Nat) (p:Int):List Mt×Nat:=if x.2<st.length then((eg x.1 p (st.getD x.2 0) 0 0).1,x.2+1) else x
def vsP (st:List Int) (x:List Mt×Nat) (ps:List Int):List Mt×Nat:=ps.foldl (vsS st) x
def vsR (st:List Int) (x:List Mt×Nat) (rows:List Rr):List Mt×Nat:=rows.foldl (fun x r=>vsP st x r.pl) x
theorem EF {st:List Int} {x:List Mt×Nat} (h:¬ x.2<st.length):∀ ps:List Int,vsP st x ps=x:=by
 intro ps
 unfold vsP
 induction ps with
 | nil=>rfl
 | cons p ps ih=>rw[List.foldl_cons]; unfold vsS; rw[if_neg h]; exact ih
theorem Cy {st:List Int} {m:Int} {x:List Mt×Nat} (ro:MO x.1 m) (hx:x.2≤st.length) (ps:List Int):MO (vsP st x ps).1 m∧(vsP st x ps).2≤st.length:=by
 unfold vsP
 induction ps generalizing x with
 | nil=>exact⟨ro,hx⟩
 | cons p ps ih=>
  rw[List.foldl_cons]
  unfold vsS
  by_cases c:x.2<st.length
  ·rw[if_pos c]; exact ih (ro.set _ _ _ _) c
  ·rw[if_neg c]; exact ih ro hx
theorem FF {st:List Int} {m:Int} {x:List Mt×Nat} (ro:MO x.1 m) (hx:x.2≤st.length) (rows:List Rr):MO (vsR st x rows).1 m∧(vsR st x rows).2≤st.length:=by
 unfold vsR
 induction rows generalizing x with
 | nil=>exact⟨ro,hx⟩
 | cons r rows ih=>
  obtain⟨h1,h2⟩:=Cy ro hx r.pl
  exact ih h1 h2
def FE:LSp:=fun e H Q=>∃(d:Wd) (ra r:List RwI) (x:List Mt×Nat) (i k:Nat),i<d.rows.length∧k<(d.rows.getD i []).length∧((d.rows.getD i []).getD k default).pl.length≤1000000∧d.st.length≤1000000∧MO x.1 6∧x.2≤d.st.length∧ah (List.map e [1,4,6,7,8,9,11,12,16,17]) [.ptr 0 0,.ptr 1 0,.ptr 2 0,.ptr 4 0,.ptr 5 0,.list (x.1.map mtc) .no,.I x.2,.I i,.I k,.I 0]∧av H [.cells (wdC d),.cells [.E,.I 0],.abs (rkI ra 40),.abs (rkM (aq x.1) 6),.cells [.ptr 3 0],.cells [.list (r.map csI) .no,.I 40],.dead]∧
 (∀ j:Nat,Q (.exit 8) (ak [1,4,6,7,8,9,11,12,16,17] [.ptr 0 0,.ptr 1 0,.ptr 2 0,.ptr 4 0,.ptr 5 0,.list ((vsP d.st x ((d.rows.getD i []).getD k default).pl).1.map mtc) .no,.I (vsP d.st x ((d.rows.getD i []).getD k default).pl).2,.I i,.I k,.I j]) [.cells (wdC d),.cells [.E,.I 0],.abs (rkI ra 40),.abs (rkM (aq (vsP d.st x ((d.rows.getD i []).getD k default).pl).1) 6),.cells [.ptr 3 0],.cells [.list (r.map csI) .no,.I 40],.dead])
theorem En:∀ e H Q,FE e H Q→AwK Tryz.f7.ntmps (.loop (ai [1,1,1,1,1,1,0,1,0,0,1,0,0,1,1,1,1,1,0,0,1,0,0,1,0] (ag Tryz.f7))) Q e H:=by
 rintro e H Q ⟨d,ra,r,x,i,k,hi,hk,hpl,hst,ro,hx,he,hH,hQ⟩
 obtain⟨l,hl⟩:∃ l,l=d.rows.getD i []:=⟨_,rfl⟩
 rw[← hl] at hk hpl hQ
 obtain⟨s,hs⟩:∃ s,s=l.getD k default:=⟨_,rfl⟩
 rw[← hs] at hpl hQ
 have inl:InL (d.rows.map lcs) 1 (i:Int):=by rw[cy]; exact hi
 have inl2:InL (l.map rrc) 4 (k:Int):=by rw[ee]; exact hk
 have c0:cL (lcs l) 0=l.map rrc:=rfl
 have c1:cL (List.drop 1 (rrc s)) 0=s.pl.map u1:=rfl
 refine aB (hn:=fun o=>match o.dst with|some 172=>7|some 156=>1101|some 168=>1201|some 159=>900|some 163=>900|some 166=>900|some 171=>900|_=>0) aj kE (.nil _ _ _ _ _) (σ:=Nat) [1,4,6,7,8,9,11,12,16,17] (fun j=>j≤s.pl.length) (fun j=>[.ptr 0 0,.ptr 1 0,.ptr 2 0,.ptr 4 0,.ptr 5 0,.list ((vsP d.st x (s.pl.take j)).1.map mtc) .no,.I (vsP d.st x (s.pl.take j)).2,.I i,.I k,.I j]) (fun j=>[.cells (wdC d),.cells [.E,.I 0],.abs (rkI ra 40),.abs (rkM (aq (vsP d.st x (s.pl.take j)).1) 6),.cells [.ptr 3 0],.cells [.list (r.map csI) .no,.I 40],.dead]) (fun j=>s.pl.length-j) 0 (Nat.zero_le _) he hH ?_
 intro j hj
 have hj':j≤s.pl.length:=hj
 obtain⟨y,hy⟩:∃ y,y=vsP d.st x (s.pl.take j):=⟨_,rfl⟩
 obtain⟨ro2,hx2⟩:=Cy ro hx (s.pl.take j)
 rw[← hy] at ro2 hx2 ⊢
 refine Kj d ra r y.1 y.2 i k j _ ?_
 simp only[au,dt,an,getD_map [] hi,← hl,c0,getD_map default hk,← hs,c1,List.length_map]
 refine⟨inl,?_⟩
 rw[if_pos (by rfl)]
 refine⟨inl2,?_⟩
 rw[if_pos (by rfl)]
 have fin:vsP d.st x s.pl=y→Dc Q [1,4,6,7,8,9,11,12,16,17] (fun j=>j≤s.pl.length) (fun j=>[.ptr 0 0,.ptr 1 0,.ptr 2 0,.ptr 4 0,.ptr 5 0,.list ((vsP d.st x (s.pl.take j)).1.map mtc) .no,.I (vsP d.st x (s.pl.take j)).2,.I i,.I k,.I j]) (fun j=>[.cells (wdC d),.cells [.E,.I 0],.abs (rkI ra 40),.abs (rkM (aq (vsP d.st x (s.pl.take j)).1) 6),.cells [.ptr 3 0],.cells [.list (r.map csI) .no,.I 40],.dead]) (fun j=>s.pl.length-j) j (.exit 8) [.ptr 0 0,.ptr 1 0,.ptr 2 0,.ptr 4 0,.ptr 5 0,.list (y.1.map mtc) .no,.I y.2,.I i,.I k,.I j] [.cells (wdC d),.cells [.E,.I 0],.abs (rkI ra 40),.abs (rkM (aq y.1) 6),.cells [.ptr 3 0],.cells [.list (r.map csI) .no,.I 40],.dead]:=fun e=>by
  have:=hQ j
  rw[e] at this
  exact this
 by_cases h:j<s.pl.length
 ·rw[if_pos (by rw[decide_eq_true (by omega)]; rfl)]
  have hstep:vsP d.st x (s.pl.take (j+1))=vsS d.st y (s.pl.getD j 0):=by rw[hy]; exact jN 0 h
  by_cases c:y.2<d.st.length
  ·rw[if_pos (by omega)]
   have inl3:InL (s.pl.map u1) 1 (j:Int):=by rw[dQ]; exact h
   have inl4:InL (d.st.map i1) 1 (y.2:Int):=by rw[vM]; exact c
   have cu:∀ z:Int,cI (u1 z) 0=z:=fun _=>rfl
   have ci:∀ z:Int,cI (i1 z) 0=z:=fun _=>rfl
   simp only[getD_map 0 h,getD_map 0 c,cu,ci]
   refine⟨inl,?_⟩
   rw[if_pos (by rfl)]
   refine⟨inl2,?_⟩
   rw[if_pos (by rfl)]
   refine⟨inl3,?_⟩
   rw[if_pos (by rfl)]
   refine⟨inl4,?_⟩
   rw[if_pos (by rfl)]
   refine⟨y.1,6,s.pl.getD j 0,d.st.getD y.2 0,0,0,rfl,⟨rfl,rfl⟩,ro2,inl,?_⟩
   rw[if_pos (by rfl)]
   refine⟨inl2,?_⟩
   rw[if_pos (by rfl)]
   refine⟨inl3,?_⟩
   rw[if_pos (by rfl)]
   refine⟨inl4,?_⟩
   rw[if_pos (by rfl)]
   refine⟨y.1,6,s.pl.getD j 0,d.st.getD y.2 0,0,0,.no,rfl,ro2,by decide,?_⟩
   unfold vsS at hstep
   rw[if_pos c] at hstep
   exact⟨j+1,(show s.pl.length-(j+1)<s.pl.length-j by omega),h,by(try dsimp only); rw[hstep,ar h (by omega),ar c (by omega)],[],by(try dsimp only); rw[hstep]; rfl,Nat.le_refl _,.inl rfl⟩
  ·rw[if_neg (by omega)]
   refine fin ?_
   rw[← List.take_append_drop j s.pl]
   unfold vsP
   rw[List.foldl_append]
   show vsP d.st (vsP d.st x (s.pl.take j)) _=y
   rw[← hy]
   exact EF c _
 ·rw[if_neg (by rw[decide_eq_false (by omega)]; decide)]
  have:j=s.pl.length:=by omega
  subst this
  rw[List.take_length] at hy
  exact fin hy.symm
theorem IK:ai [1,0,0,1,0] (ai [1,1,1,1,1,1,0,1,0,0,1,0,0,1,1,1,1,1,0] (ag Tryz.f7))=ai [1,1,1,1,1,1,0,1,0,0,1,0,0,1,1,1,1,1,0,0,1,0,0,1,0] (ag Tryz.f7):=by kernel_rfl
theorem Aa:∀ e H Q,FE e H Q→AwK Tryz.f7.ntmps (.loop (ai [1,0,0,1,0] (ai [1,1,1,1,1,1,0,1,0,0,1,0,0,1,1,1,1,1,0] (ag Tryz.f7)))) Q e H:=by rw[IK]; exact En
theorem Lx (d:Wd) (ra r:List RwI) (w:List Mt) (at_ i k:Nat):(by refine(?_:_→_→_→_→_→Prop) (Ob.cells [.E,.I 0]) (List.getD (d.rows.map lcs) (Int.toNat (i:Int)) []) (Ob.cells [.list (r.map csI) .no,.I 40]) (Ob.abs (rkM (aq w) 6)) (PV.list (w.map mtc) .no); exact fun m n o p q=>by refine(?_:_→_→Prop) [Ob.cells [.list (d.ra.map prC) .no,.list (d.rows.map lcs) .no,.list (d.st.map i1) .no],m,.abs (rkI ra 40),p,.cells [.ptr 3 0],o,.dead] [PV.ptr 0 0,.ptr 1 0,.ptr 2 0,.ptr 4 0,.ptr 5 0,q,.I at_,.I i,.I k]; exact fun j l=>∀(R:Ex→List PV→ae→Prop),(InL (d.rows.map lcs) 1 (i:Int)∧br (true && aD [.list] 0 n) (br (decide ((k:Int)<(↑(List.length (cL n 0)):Int))) (∃(d_1:Wd) (ra_1:List RwI) (r_1:List RwI) (x:List Mt×Nat) (i_1:Nat) (k_1:Nat),by refine(?_:_→_→_→_→Prop) (Ob.cells [.list (d_1.ra.map prC) .no,.list (d_1.rows.map lcs) .no,.list (d_1.st.map i1) .no]) (Ob.cells [.list (r_1.map csI) .no,.I 40]) (List.getD d_1.rows i_1 []) (Ob.abs (rkI ra_1 40)); exact fun b c f h=>by refine(?_:_→Prop) (Rr.pl (List.getD f k_1 default)); exact fun a=>by refine(?_:_→Prop) (Prod.fst (vsP d_1.st x a)); exact fun g=>i_1<d_1.rows.length∧k_1<List.length f∧List.length a≤1000000∧d_1.st.length≤1000000∧MO (Prod.fst x) 6∧Prod.snd x≤d_1.st.length∧ah [.ptr 0 0,.ptr 1 0,.ptr 2 0,.ptr 4 0,.ptr 5 0,q,.I at_,.I i,.I k,.I 0] [.ptr 0 0,.ptr 1 0,.ptr 2 0,.ptr 4 0,.ptr 5 0,.list (List.map mtc (Prod.fst x)) .no,.I (↑(Prod.snd x):Int),.I i_1,.I k_1,.I 0]∧av j [b,m,h,.abs (rkM (aq (Prod.fst x)) 6),.cells [.ptr 3 0],c,.dead]∧∀(_:Nat),R .normal [.ptr 0 0,.ptr 1 0,.ptr 2 0,.ptr 4 0,.ptr 5 0,.list (List.map mtc g) .no,.I (↑(Prod.snd (vsP d_1.st x a)):Int),.I i_1,.I (wI ((k_1:Int)+1))] [b,m,h,.abs (rkM (aq g) 6),.cells [.ptr 3 0],c,.dead]) (R (.exit 6) l j)) False)→Holds (wpK TOP [([1,0,0,1,0],FE)] (fun _=>0) (ai [1,1,1,1,1,1,0,1,0,0,1,0,0,1,1,1,1,1,0] (ag Tryz.f7)) [] (ak [1,4,6,7,8,9,11,12,16] l) [.cells (wdC d),m,.abs (rkI ra 40),p,.cells [.ptr 3 0],o,.dead] (fun ex e H=>R ex (List.map e [1,4,6,7,8,9,11,12,16]) H)):Prop):=fun R h=>hoE h
theorem IL (d:Wd) (ra r:List RwI) (w:List Mt) (at_ i k:Nat):(by refine(?_:_→_→_→_→_→_→Prop) (List.getD (d.rows.map lcs) (Int.toNat (i:Int)) []) (Ob.cells [.list (r.map csI) .no,.I 40]) (Ob.cells [.list (d.ra.map prC) .no,.list (d.rows.map lcs) .no,.list (d.st.map i1) .no]) (Ob.cells [.E,.I 0]) (Ob.abs (rkM (aq w) 6)) (PV.list (w.map mtc) .no); exact fun b g h j l s=>by refine(?_:_→_→_→Prop) (List.getD (cL b 0) (Int.toNat (k:Int)) []) [PV.ptr 0 0,.ptr 1 0,.ptr 2 0,.ptr 4 0,.ptr 5 0,s,.I at_,.I i,.E,.I k] (true && aD [.list] 0 b); exact fun a f p=>by refine(?_:_→_→_→_→Prop) (PV.I (cI a 2)) (PV.I (cI a 3)) (PV.list ([]++cL a 1) .no) (PV.I (cI a 0)); exact fun m n q t=>by refine(?_:_→Prop) [[PV.I (cI a 0),q,m,n]]; exact fun c=>∀(R:Ex→List PV→ae→Prop),(InL (d.rows.map lcs) 1 (i:Int)∧br p (br (decide ((k:Int)<(↑(List.length (cL b 0)):Int))) (InL (d.rows.map lcs) 1 (i:Int)∧br p (InL (cL b 0) 4 (k:Int)∧br (true && aD [.int .i64,.list,.int .i64,.int .i64] 0 a) (aG [] (cL a 1) 1 4∧aG [] c 4 48∧(List.all [t,q,m,n] PV.one=true∧c≠[])∧R .normal [.ptr 0 0,.ptr 1 0,.ptr 2 0,.ptr 4 0,.ptr 5 0,s,.I at_,.I i,.list c (.tok 7),.I (wI ((k:Int)+1))] [h,j,.abs (rkI ra 40),l,.cells [.ptr 3 0],g,.cells [t,.list (cL a 1) (cT a 1),m,n],.tok]) False) False) (R (.exit 4) f [h,j,.abs (rkI ra 40),l,.cells [.ptr 3 0],g])) False)→Holds (wpK TOP [] (fun o=>match o.dst with|some 90=>0|some 97=>1|_=>0) (ai [1,1,1,1,1,1,0,1,0,0,1,0,0,1,0,1,0] (ag Tryz.f7)) [] (ak [1,4,6,7,8,9,11,12,13,14] f) [.cells (wdC d),j,.abs (rkI ra 40),l,.cells [.ptr 3 0],g] (fun ex e H=>R ex (List.map e [1,4,6,7,8,9,11,12,13,14]) H)):Prop):=fun R h=>hoE h
theorem G7 (d:Wd) (ra r:List RwI) (w:List Mt) (b:List Rr) (at_ i k:Nat):(by refine(?_:_→_→_→_→_→_→Prop) (List.getD (d.rows.map lcs) (Int.toNat (i:Int)) []) (Ob.cells [.list (r.map csI) .no,.I 40]) (Ob.cells [.list (d.ra.map prC) .no,.list (d.rows.map lcs) .no,.list (d.st.map i1) .no]) (Ob.cells [.E,.I 0]) (Ob.abs (rkM (aq w) 6)) (PV.list (w.map mtc) .no); exact fun c h j l m t=>by refine(?_:_→_→_→Prop) (List.getD (cL c 0) (Int.toNat (k:Int)) []) [PV.ptr 0 0,.ptr 1 0,.ptr 2 0,.ptr 4 0,.ptr 5 0,t,.I at_,.I i,.list (b.map rrc) (.tok 6),.I k] (true && aD [.list] 0 c); exact fun a g q=>by refine(?_:_→_→_→_→Prop) (PV.I (cI a 2)) (PV.I (cI a 3)) (PV.list ([]++cL a 1) .no) (PV.I (cI a 0)); exact fun n p s u=>by refine(?_:_→Prop) [[PV.I (cI a 0),s,n,p]]; exact fun f=>∀(R:Ex→List PV→ae→Prop),(InL (d.rows.map lcs) 1 (i:Int)∧br q (br (decide ((k:Int)<(↑(List.length (cL c 0)):Int))) (InL (d.rows.map lcs) 1 (i:Int)∧br q (InL (cL c 0) 4 (k:Int)∧br (true && aD [.int .i64,.list,.int .i64,.int .i64] 0 a) (aG [] (cL a 1) 1 4∧aG (b.map rrc) f 4 48∧(List.all [u,s,n,p] PV.one=true∧f≠[])∧R .normal [.ptr 0 0,.ptr 1 0,.ptr 2 0,.ptr 4 0,.ptr 5 0,t,.I at_,.I i,.list (b.map rrc++f) (.tok 8),.I (wI ((k:Int)+1))] [j,l,.abs (rkI ra 40),m,.cells [.ptr 3 0],h,.dead,.cells [u,.list (cL a 1) (cT a 1),n,p],.tok]) False) False) (R (.exit 4) g [j,l,.abs (rkI ra 40),m,.cells [.ptr 3 0],h,.tok])) False)→Holds (wpK TOP [] (fun o=>match o.dst with|some 90=>0|some 97=>1|_=>0) (ai [1,1,1,1,1,1,0,1,0,0,1,0,0,1,0,1,0] (ag Tryz.f7)) [] (ak [1,4,6,7,8,9,11,12,13,14] g) [.cells (wdC d),l,.abs (rkI ra 40),m,.cells [.ptr 3 0],h,.tok] (fun ex e H=>R ex (List.map e [1,4,6,7,8,9,11,12,13,14]) H)):Prop):=fun R h=>hoE h
theorem mA {n:Nat}:Low n (.E):=aH NT.exact (by simp)
theorem yu {d:Wd} {ra r:List RwI} {w:List Mt}:∀(o:Nat) cs,([.cells (wdC d),.cells [.E,.I 0],.abs (rkI ra 40),.abs (rkM (aq w) 6),.cells [.ptr 3 0],.cells [.list (r.map csI) .no,.I 40]]:ae)[o]?=some (.cells cs)→∀ x∈cs,Low 6 x:=by
 intro o cs ho
 have k1:=(List.getElem?_eq_some_iff.1 ho).1
 simp at k1
 have:o=0∨o=1∨o=2∨o=3∨o=4∨o=5:=by omega
 rcases this with rfl|rfl|rfl|rfl|rfl|rfl<;>cases ho
 ·exact n5 d
 ·exact bn mA (.int _ _)
 ·exact bw (.ptr _ _ (by decide))
 ·exact bn (bq kU _) (.int _ _)
theorem GZ {w:List Mt} {at_ i k:Int} {T:PV} (hT:Low 6 T):∀ v∈[.ptr 0 0,.ptr 1 0,.ptr 2 0,.ptr 4 0,.ptr 5 0,.list (w.map mtc) .no,.I at_,.I i,T,.I k],Low 6 v:=by
 intro v hv
 simp only[List.mem_cons,List.not_mem_nil,or_false] at hv
 rcases hv with rfl|rfl|rfl|rfl|rfl|rfl|rfl|rfl|rfl|rfl
 ·exact .ptr _ _ (by decide)
 ·exact .ptr _ _ (by decide)
 ·exact .ptr _ _ (by decide)
 ·exact .ptr _ _ (by decide)
 ·exact .ptr _ _ (by decide)
 ·exact bB w
 ·exact .int _ _
 ·exact .int _ _
 ·exact hT
 ·exact .int _ _
theorem Fq {a b c d e f g i T T' k:PV} (h:Wk T T'):WkL [a,b,c,d,e,f,g,i,T,k] [a,b,c,d,e,f,g,i,T',k]:= .cons (.refl _) (.cons (.refl _) (.cons (.refl _) (.cons (.refl _) (.cons (.refl _) (.cons (.refl _) (.cons (.refl _) (.cons (.refl _) (.cons h (.cons (.refl _) .nil)))))))))
def Bz:LSp:=fun e H Q=>∃(d:Wd) (ra r:List RwI) (w:List Mt) (at_ i:Nat),i<d.rows.length∧smR (d.rows.getD i [])∧ah (List.map e [1,4,6,7,8,9,11,12,13,14]) [.ptr 0 0,.ptr 1 0,.ptr 2 0,.ptr 4 0,.ptr 5 0,.list (w.map mtc) .no,.I at_,.I i,.E,.I 0]∧av H [.cells (wdC d),.cells [.E,.I 0],.abs (rkI ra 40),.abs (rkM (aq w) 6),.cells [.ptr 3 0],.cells [.list (r.map csI) .no,.I 40]]∧Q (.exit 4) (ak [1,4,6,7,8,9,11,12,13,14] [.ptr 0 0,.ptr 1 0,.ptr 2 0,.ptr 4 0,.ptr 5 0,.list (w.map mtc) .no,.I at_,.I i,.list ((d.rows.getD i []).map rrc) .no,.I (d.rows.getD i []).length]) [.cells (wdC d),.cells [.E,.I 0],.abs (rkI ra 40),.abs (rkM (aq w) 6),.cells [.ptr 3 0],.cells [.list (r.map csI) .no,.I 40],.dead]
set_option maxRecDepth 10000 in
theorem C6:∀ e H Q,Bz e H Q→AwK Tryz.f7.ntmps (.loop (ai [1,1,1,1,1,1,0,1,0,0,1,0,0,1,0,1,0] (ag Tryz.f7))) Q e H:=by
 rintro e H Q ⟨d,ra,r,w,at_,i,hi,sm,he,hH,hQ⟩
 have hH:H=_:=hH
 obtain⟨l,hl⟩:∃ l,l=d.rows.getD i []:=⟨_,rfl⟩
 rw[← hl] at sm hQ
 have hll:=sm.1
 have inl:InL (d.rows.map lcs) 1 (i:Int):=by rw[cy]; exact hi
 have c0:cL (lcs l) 0=l.map rrc:=rfl
 refine kK (f:=rrc) (acc:=fun k=>l.take k) (I:=fun k=>k≤l.length) (m:=fun k=>l.length-k) aj [1,4,6,7,8,9,11,12,13,14] (fun T k=>[.ptr 0 0,.ptr 1 0,.ptr 2 0,.ptr 4 0,.ptr 5 0,.list (w.map mtc) .no,.I at_,.I i,T,.I k]) [.cells (wdC d),.cells [.E,.I 0],.abs (rkI ra 40),.abs (rkM (aq w) 6),.cells [.ptr 3 0],.cells [.list (r.map csI) .no,.I 40]] (0:Nat)
  yu (fun _ _ a _=>bJ a) (fun es k j _ h=> .same (.ptr _ _ (by simp)) (.same (.ptr _ _ (by simp)) (.same (.ptr _ _ (by simp)) (.same (.ptr _ _ (by simp)) (.same (.ptr _ _ (by simp)) (.same (bB w) (.same (.int _ _) (.same (.int _ _) (.row h (.same (.int _ _) .nil)))))))))) (fun k _=>GZ mA) (Nat.zero_le _) rfl he hH ?_ ?_
 ·intro k hk ha
  have hk':k≤l.length:=hk
  have ha:l.take k=[]:=ha
  refine aZ kE (ai [1,1,1,1,1,1,0,1,0,0,1,0,0,1,0,1,0] (ag Tryz.f7)) [] (.nil _ _ _ _ _) _ _ _ (IL d ra r w at_ i k _ ?_).out
  simp only[au,dt,an,getD_map [] hi,← hl,c0,List.length_map]
  refine⟨inl,?_⟩
  rw[if_pos (by rfl)]
  by_cases h:k<l.length
  ·rw[if_pos (by omega)]
   obtain⟨s,hs⟩:∃ s,s=l.getD k default:=⟨_,rfl⟩
   have hsucc:l.take (k+1)=l.take k++[s]:=by rw[aJ default h,hs]
   have inl2:InL (l.map rrc) 4 (k:Int):=by rw[ee]; exact h
   have hsl:s.pl.length≤100:=sm.2 s (by rw[hs]; exact aY h)
   have r0:cI (rrc s) 0=s.tm:=rfl
   have r1:cL (rrc s) 1=s.pl.map u1:=rfl
   have r2:cI (rrc s) 2=s.rt:=rfl
   have r3:cI (rrc s) 3=s.wd:=rfl
   refine⟨inl,?_⟩
   rw[if_pos (by rfl)]
   refine⟨inl2,?_⟩
   simp only[getD_map default h,← hs]
   rw[if_pos (by rfl)]
   refine⟨⟨fun _ h=>(nomatch h),b8 da s.pl,by show(0+(s.pl.map u1).length)*4≤_; rw[List.length_map]; omega⟩,aE (l:=[]) (by_:=48) fA s (by show(0+1)*48≤_; decide),one_row rD s,?_⟩
   exact aP (k+1) (show l.length-(k+1)<l.length-k by omega) h (hsucc.trans (by rw[ha])) (by simp) [_,.tok] 7 rfl rfl (by simp) (by(try dsimp only); rw[ar h (by omega)]; rfl)
  ·rw[if_neg (by omega)]
   have:k=l.length:=by omega
   subst this
   rw[List.take_length] at ha
   have hn:l=[]:=ha
   rw[hn] at hQ ⊢
   exact bH (Fq (.list _ _)) (dg _) hQ
 ·intro k hk ha
  have hk':k≤l.length:=hk
  have ha:l.take k≠[]:=ha
  have hbl:(l.take k).length≤100:=by rw[List.length_take]; omega
  refine aZ kE (ai [1,1,1,1,1,1,0,1,0,0,1,0,0,1,0,1,0] (ag Tryz.f7)) [] (.nil _ _ _ _ _) _ _ _ (G7 d ra r w (l.take k) at_ i k _ ?_).out
  simp only[au,dt,an,getD_map [] hi,← hl,c0,List.length_map]
  refine⟨inl,?_⟩
  rw[if_pos (by rfl)]
  by_cases h:k<l.length
  ·rw[if_pos (by omega)]
   obtain⟨s,hs⟩:∃ s,s=l.getD k default:=⟨_,rfl⟩
   have hsucc:l.take (k+1)=l.take k++[s]:=by rw[aJ default h,hs]
   have inl2:InL (l.map rrc) 4 (k:Int):=by rw[ee]; exact h
   have hsl:s.pl.length≤100:=sm.2 s (by rw[hs]; exact aY h)
   have r0:cI (rrc s) 0=s.tm:=rfl
   have r1:cL (rrc s) 1=s.pl.map u1:=rfl
   have r2:cI (rrc s) 2=s.rt:=rfl
   have r3:cI (rrc s) 3=s.wd:=rfl
   refine⟨inl,?_⟩
   rw[if_pos (by rfl)]
   refine⟨inl2,?_⟩
   simp only[getD_map default h,← hs]
   rw[if_pos (by rfl)]
   refine⟨⟨fun _ h=>(nomatch h),b8 da s.pl,by show(0+(s.pl.map u1).length)*4≤_; rw[List.length_map]; omega⟩,aE (by_:=48) fA (l.take k) s (by omega),one_row rD s,?_⟩
   exact aP (k+1) (show l.length-(k+1)<l.length-k by omega) h hsucc (by simp) [.dead,_,.tok] 8 rfl rfl (by simp) (by(try dsimp only); rw[ar h (by omega),List.map_append]; rfl)
  ·rw[if_neg (by omega)]
   have:k=l.length:=by omega
   subst this
   rw[List.take_length]
   exact bH (Fq (.list _ _)) (dK [.cells (wdC d),.cells [.E,.I 0],.abs (rkI ra 40),.abs (rkM (aq w) 6),.cells [.ptr 3 0],.cells [.list (r.map csI) .no,.I 40]] .tok) hQ
def Ed:LSp:=fun e H Q=>∃(d:Wd) (ra r:List RwI) (x:List Mt×Nat) (i:Nat),i<d.rows.length∧smR (d.rows.getD i [])∧d.st.length≤1000000∧MO x.1 6∧x.2≤d.st.length∧ah (List.map e [1,4,6,7,8,9,11,12,16]) [.ptr 0 0,.ptr 1 0,.ptr 2 0,.ptr 4 0,.ptr 5 0,.list (x.1.map mtc) .no,.I x.2,.I i,.I 0]∧av H [.cells (wdC d),.cells [.E,.I 0],.abs (rkI ra 40),.abs (rkM (aq x.1) 6),.cells [.ptr 3 0],.cells [.list (r.map csI) .no,.I 40],.dead]∧Q (.exit 6) (ak [1,4,6,7,8,9,11,12,16] [.ptr 0 0,.ptr 1 0,.ptr 2 0,.ptr 4 0,.ptr 5 0,.list ((vsR d.st x (d.rows.getD i [])).1.map mtc) .no,.I (vsR d.st x (d.rows.getD i [])).2,.I i,.I (d.rows.getD i []).length]) [.cells (wdC d),.cells [.E,.I 0],.abs (rkI ra 40),.abs (rkM (aq (vsR d.st x (d.rows.getD i [])).1) 6),.cells [.ptr 3 0],.cells [.list (r.map csI) .no,.I 40],.dead]
theorem CX:∀ e H Q,Ed e H Q→AwK Tryz.f7.ntmps (.loop (ai [1,1,1,1,1,1,0,1,0,0,1,0,0,1,1,1,1,1,0] (ag Tryz.f7))) Q e H:=by
 rintro e H Q ⟨d,ra,r,x,i,hi,sm,hst,ro,hx,he,hH,hQ⟩
 obtain⟨l,hl⟩:∃ l,l=d.rows.getD i []:=⟨_,rfl⟩
 rw[← hl] at sm hQ
 have hll:=sm.1
 have inl:InL (d.rows.map lcs) 1 (i:Int):=by rw[cy]; exact hi
 have c0:cL (lcs l) 0=l.map rrc:=rfl
 refine aB (hn:=fun _=>0) aj kE (.cons suE Aa (.nil _ _ _ _ _)) (σ:=Nat) [1,4,6,7,8,9,11,12,16] (fun k=>k≤l.length) (fun k=>[.ptr 0 0,.ptr 1 0,.ptr 2 0,.ptr 4 0,.ptr 5 0,.list ((vsR d.st x (l.take k)).1.map mtc) .no,.I (vsR d.st x (l.take k)).2,.I i,.I k]) (fun k=>[.cells (wdC d),.cells [.E,.I 0],.abs (rkI ra 40),.abs (rkM (aq (vsR d.st x (l.take k)).1) 6),.cells [.ptr 3 0],.cells [.list (r.map csI) .no,.I 40],.dead]) (fun k=>l.length-k) 0 (Nat.zero_le _) he hH ?_
 intro k hk
 have hk':k≤l.length:=hk
 obtain⟨y,hy⟩:∃ y,y=vsR d.st x (l.take k):=⟨_,rfl⟩
 obtain⟨ro2,hx2⟩:=FF ro hx (l.take k)
 rw[← hy] at ro2 hx2 ⊢
 refine Lx d ra r y.1 y.2 i k _ ?_
 simp only[au,dt,an,getD_map [] hi,← hl,c0,List.length_map]
 refine⟨inl,?_⟩
 rw[if_pos (by rfl)]
 by_cases h:k<l.length
 ·rw[if_pos (by omega)]
  have hstep:vsR d.st x (l.take (k+1))=vsP d.st y (l.getD k default).pl:=by rw[hy]; exact jN default h
  have hpl:=sm.2 _ (aY (d:=default) h)
  refine⟨d,ra,r,y,i,k,hi,by rw[← hl]; exact h,by rw[← hl]; omega,hst,ro2,hx2,rfl,rfl,fun j=>?_⟩
  rw[← hl,← hstep]
  exact⟨k+1,(show l.length-(k+1)<l.length-k by omega),h,by rw[ar h (by omega)],[],rfl,Nat.le_refl _,.inl rfl⟩
 ·rw[if_neg (by omega)]
  have:k=l.length:=by omega
  subst this
  rw[List.take_length] at hy
  rw[hy]; exact hQ
theorem Iw:ai [1,0,0,1,1,1,1,1,0] (ai [1,1,1,1,1,1,0,1,0] (ag Tryz.f7))=ai [1,1,1,1,1,1,0,1,0,0,1,0,0,1,1,1,1,1,0] (ag Tryz.f7):=by kernel_rfl
theorem Il:ai [1,0,0,1,0,1,0] (ai [1,1,1,1,1,1,0,1,0] (ag Tryz.f7))=ai [1,1,1,1,1,1,0,1,0,0,1,0,0,1,0,1,0] (ag Tryz.f7):=by kernel_rfl
theorem zX:∀ e H Q,Ed e H Q→AwK Tryz.f7.ntmps (.loop (ai [1,0,0,1,1,1,1,1,0] (ai [1,1,1,1,1,1,0,1,0] (ag Tryz.f7)))) Q e H:=by rw[Iw]; exact CX
theorem zz:∀ e H Q,Bz e H Q→AwK Tryz.f7.ntmps (.loop (ai [1,0,0,1,0,1,0] (ai [1,1,1,1,1,1,0,1,0] (ag Tryz.f7)))) Q e H:=by rw[Il]; exact C6
theorem LA (d:Wd) (ra r:List RwI) (w:List Mt) (at_ i:Nat):(by refine(?_:_→_→_→_→Prop) (Ob.cells [.E,.I 0]) (Ob.cells [.list (r.map csI) .no,.I 40]) (Ob.abs (rkM (aq w) 6)) (PV.list (w.map mtc) .no); exact fun v A B C=>by refine(?_:_→_→Prop) [Ob.cells [.list (d.ra.map prC) .no,.list (d.rows.map lcs) .no,.list (d.st.map i1) .no],v,.abs (rkI ra 40),B,.cells [.ptr 3 0],A] [PV.ptr 0 0,.ptr 1 0,.ptr 2 0,.ptr 4 0,.ptr 5 0,C,.I at_,.I i]; exact fun y z=>∀(R:Ex→List PV→ae→Prop),(br (decide ((i:Int)<(↑(List.length (d.rows.map lcs)):Int))) (∃(d_1:Wd) (ra_1:List RwI) (r_1:List RwI) (w_1:List Mt) (at__1:Nat) (i_1:Nat),by refine(?_:_→_→_→_→_→_→_→_→Prop) (Ob.cells [.list (r_1.map csI) .no,.I 40]) (PV.U (IntKind.wrap .u32 (IntKind.wrap .u32 (i_1:Int)+11))) (PV.U (IntKind.wrap .u32 (IntKind.wrap .u32 (i_1:Int)+1))) (d_1.rows.map lcs) (Ob.abs (rkI ra_1 40)) (List.getD d_1.rows i_1 []) (Ob.abs (rkM (aq w_1) 6)) (PV.list (w_1.map mtc) .no); exact fun j k n o p q s u=>by refine(?_:_→_→Prop) (Ob.cells [.list (d_1.ra.map prC) .no,.list o .no,.list (d_1.st.map i1) .no]) (List.getD o (Int.toNat (i_1:Int)) []); exact fun g h=>i_1<d_1.rows.length∧smR q∧ah [.ptr 0 0,.ptr 1 0,.ptr 2 0,.ptr 4 0,.ptr 5 0,C,.I at_,.I i,.E,.I 0] [.ptr 0 0,.ptr 1 0,.ptr 2 0,.ptr 4 0,.ptr 5 0,u,.I at__1,.I i_1,.E,.I 0]∧av y [g,v,p,s,.cells [.ptr 3 0],j]∧∃(w:List Mt) (m:Int) (id:Int) (md:Int) (ins:Int) (l:List Rr) (t:Tail),ah [.ptr 4 0,n,.I 0,k,.list (List.map rrc q) .no] [.ptr 4 0,.U id,.I md,.U ins,.list (l.map rrc) t]∧cm [g,v,p,s,.cells [.ptr 3 0],j,.dead] 4 3 (rkM (aq w) m)∧MO w m∧smR l∧InL o 1 (i_1:Int)∧br (true && aD [.list] 0 h) (∃(w_2:List Mt) (m_1:Int) (id_1:Int) (md_1:Int) (ins_1:Int) (l_1:List Rr) (t0:Tail) (t1:Tail),ah [u,.I 6,n,.I 0,k,.list (cL h 0) (cT h 0)] [.list (w_2.map mtc) t0,.I m_1,.U id_1,.I md_1,.U ins_1,.list (l_1.map rrc) t1]∧MO w_2 m_1∧m_1≤100000∧0≤id_1∧wJ l_1∧smR l_1∧∃(d:Wd) (ra:List RwI) (r:List RwI) (x:List Mt×Nat) (i:Nat),by refine(?_:_→_→_→Prop) (Ob.cells [.list (d.ra.map prC) .no,.list (d.rows.map lcs) .no,.list (d.st.map i1) .no]) (Ob.cells [.list (r.map csI) .no,.I 40]) (List.getD d.rows i []); exact fun a c f=>by refine(?_:_→Prop) (vsR d.st x f); exact fun b=>i<d.rows.length∧smR f∧d.st.length≤1000000∧MO (Prod.fst x) 6∧Prod.snd x≤d.st.length∧ah [.ptr 0 0,.ptr 1 0,.ptr 2 0,.ptr 4 0,.ptr 5 0,.list (List.map mtc (Prod.fst (dH w_2 m_1 id_1 md_1 ins_1 l_1))) .no,.I at__1,.I i_1,.I 0] [.ptr 0 0,.ptr 1 0,.ptr 2 0,.ptr 4 0,.ptr 5 0,.list (List.map mtc (Prod.fst x)) .no,.I (↑(Prod.snd x):Int),.I i,.I 0]∧av [g,v,p,.abs (rkM (aq (Prod.fst (dH w m id md ins l))) m),.cells [.ptr 3 0],j,.dead] [a,v,.abs (rkI ra 40),.abs (rkM (aq (Prod.fst x)) 6),.cells [.ptr 3 0],c,.dead]∧R .normal [.ptr 0 0,.ptr 1 0,.ptr 2 0,.ptr 4 0,.ptr 5 0,.list (List.map mtc (Prod.fst b)) .no,.I (↑(Prod.snd b):Int),.I (wI ((i:Int)+1))] [a,v,.abs (rkI ra 40),.abs (rkM (aq (Prod.fst b)) 6),.cells [.ptr 3 0],c,.dead]) False) (R (.exit 2) z y))→Holds (wpK TOP [([1,0,0,1,0,1,0],Bz),([1,0,0,1,1,1,1,1,0],Ed)] (fun _=>0) (ai [1,1,1,1,1,1,0,1,0] (ag Tryz.f7)) [] (ak [1,4,6,7,8,9,11,12] z) [.cells (wdC d),v,.abs (rkI ra 40),B,.cells [.ptr 3 0],A] (fun ex e H=>R ex (List.map e [1,4,6,7,8,9,11,12]) H)):Prop):=fun R h=>hoE h
theorem idN (i:Nat) (h:i≤6) (a:Int) (h0:0≤a) (h1:a≤100):IntKind.wrap .u32 (IntKind.wrap .u32 (i:Int)+a)=i+a:=by
 rw[wrap_u32 (n:=(i:Int)) (by omega) (by omega),wrap_u32 (by omega) (by omega)]
def opS (d:Wd) (x:List Mt×Nat) (i:Nat):List Mt×Nat:=vsR d.st ((dH x.1 6 (i+1) 0 (i+11) (d.rows.getD i [])).1,x.2) (d.rows.getD i [])
def eY (d:Wd):Nat→List Mt×Nat
 | 0=>([],0)
 | i+1=>opS d (eY d i) i
theorem lW (d:Wd):∀ i,MO (eY d i).1 6∧(eY d i).2≤d.st.length
 | 0=>⟨MO.nil (by decide) (by decide),Nat.zero_le _⟩
 | i+1=>FF (x:=((dH (eY d i).1 6 (i+1) 0 (i+11) (d.rows.getD i [])).1,(eY d i).2)) ((lW d i).1.make _ _ _ _) (lW d i).2 _
def Jz:LSp:=fun e H Q=>∃(d:Wd) (ra r:List RwI),d.rows.length≤6∧d.st.length≤1000000∧(∀ l∈d.rows,smR l∧wJ l)∧ah (List.map e [1,4,6,7,8,9,11,12]) [.ptr 0 0,.ptr 1 0,.ptr 2 0,.ptr 4 0,.ptr 5 0,.E,.I 0,.I 0]∧av H [.cells (wdC d),.cells [.E,.I 0],.abs (rkI ra 40),.abs (rkM (aq []) 6),.cells [.ptr 3 0],.cells [.list (r.map csI) .no,.I 40]]∧Q (.exit 2) (ak [1,4,6,7,8,9,11,12] [.ptr 0 0,.ptr 1 0,.ptr 2 0,.ptr 4 0,.ptr 5 0,.list ((eY d d.rows.length).1.map mtc) .no,.I (eY d d.rows.length).2,.I d.rows.length]) [.cells (wdC d),.cells [.E,.I 0],.abs (rkI ra 40),.abs (rkM (aq (eY d d.rows.length).1) 6),.cells [.ptr 3 0],.cells [.list (r.map csI) .no,.I 40]]
set_option maxRecDepth 10000 in
theorem EK:∀ e H Q,Jz e H Q→AwK Tryz.f7.ntmps (.loop (ai [1,1,1,1,1,1,0,1,0] (ag Tryz.f7))) Q e H:=by
 rintro e H Q ⟨d,ra,r,hn,hst,hr,he,hH,hQ⟩
 have hH:H=_:=hH
 subst hH
 have he:_=_:=he
 refine AW.NG (slots:=[1,4,6,7,8,9,11,12]) (vs:=[.ptr 0 0,.ptr 1 0,.ptr 2 0,.ptr 4 0,.ptr 5 0,.list (([]:List Mt).map mtc) .no,.I 0,.I 0]) (by rw[he]; exact .cons (.refl _) (.cons (.refl _) (.cons (.refl _) (.cons (.refl _) (.cons (.refl _) (.cons (.list _ _) (.cons (.refl _) (.cons (.refl _) .nil)))))))) ?_
 refine aB (hn:=fun _=>0) aj kE (.cons suE zz (.cons suE zX (.nil _ _ _ _ _))) (σ:=Nat) [1,4,6,7,8,9,11,12] (fun i=>i≤d.rows.length) (fun i=>[.ptr 0 0,.ptr 1 0,.ptr 2 0,.ptr 4 0,.ptr 5 0,.list ((eY d i).1.map mtc) .no,.I (eY d i).2,.I i]) (fun i=>[.cells (wdC d),.cells [.E,.I 0],.abs (rkI ra 40),.abs (rkM (aq (eY d i).1) 6),.cells [.ptr 3 0],.cells [.list (r.map csI) .no,.I 40]]) (fun i=>d.rows.length-i) 0 (Nat.zero_le _) rfl rfl ?_
 intro i hi
 have hi':i≤d.rows.length:=hi
 obtain⟨ro,hx⟩:=lW d i
 have hs:eY d (i+1)=opS d (eY d i) i:=rfl
 obtain⟨y,hy⟩:∃ y,y=eY d i:=⟨_,rfl⟩
 rw[← hy] at ro hx hs ⊢
 refine LA d ra r y.1 y.2 i _ ?_
 simp only[au,dt,an,List.length_map]
 by_cases h:i<d.rows.length
 ·rw[if_pos (by omega)]
  have inl:InL (d.rows.map lcs) 1 (i:Int):=by rw[cy]; exact h
  have c0:∀ l:List Rr,cL (lcs l) 0=l.map rrc:=fun _=>rfl
  have ih:∀ a:Int,0≤a→a≤100→_:=idN i (by omega)
  obtain⟨sm,ps⟩:=hr _ (aY (d:=([]:List Rr)) h)
  refine⟨d,ra,r,y.1,y.2,i,h,sm,rfl,rfl,?_⟩
  rw[ih 1 (by decide) (by decide),ih 11 (by decide) (by decide)]
  refine⟨y.1,6,i+1,0,i+11,d.rows.getD i [],.no,rfl,⟨rfl,rfl⟩,ro,sm,inl,?_⟩
  simp only[getD_map ([]:List Rr) h,c0]
  rw[if_pos (by rfl)]
  refine⟨y.1,6,i+1,0,i+11,d.rows.getD i [],.no,_,rfl,ro,by decide,by omega,ps,sm,?_⟩
  refine⟨d,ra,r,((dH y.1 6 (i+1) 0 (i+11) (d.rows.getD i [])).1,y.2),i,h,sm,hst,ro.make _ _ _ _,hx,rfl,rfl,?_⟩
  have hs:vsR d.st ((dH y.1 6 (i+1) 0 (i+11) (d.rows.getD i [])).1,y.2) (d.rows.getD i [])=eY d (i+1):=hs.symm
  rw[hs]
  exact⟨i+1,(show d.rows.length-(i+1)<d.rows.length-i by omega),h,by rw[ar h (by omega)],[.dead],rfl,Nat.le_refl _,.inr ⟨LO (dn (bB _) (.int _ _) (.int _ _)),yu⟩⟩
 ·rw[if_neg (by omega)]
  have:i=d.rows.length:=by omega
  subst this
  rw[hy]; exact hQ
theorem LF (d:Wd):(by refine(?_:_→_→_→_→Prop) (Ob.cells [.E,.I 0]) [PV.ptr 0 0,.ptr 1 0,.ptr 2 0,.ptr 4 0,.ptr 5 0,.E,.I 0,.I 0] [PV.ptr 0 0,.ptr 1 0,.ptr 2 0,.ptr 4 0,.ptr 5 0,.E,.I 0] (Ob.cells [.E,.I 40]); exact fun f g h i=>∀(K:PV→ae→Prop),(∃(n:Int),ah [.I 40] [.I n]∧∃(n_1:Int),ah [.I 6] [.I n_1]∧∃(d_1:Wd),by refine(?_:_→Prop) (Ob.cells [.list (d_1.ra.map prC) .no,.list (d_1.rows.map lcs) .no,.list (d_1.st.map i1) .no]); exact fun e=>d_1.ra.length≤1000∧(∀(p:Int×Int),p∈d_1.ra→0≤Prod.fst p)∧ah h h∧av [.cells [.list (d.ra.map prC) .no,.list (d.rows.map lcs) .no,.list (d.st.map i1) .no],f,.abs (rkI [] (mxI 0 n)),.abs (rkM [] (mxI 0 n_1)),.cells [.ptr 3 0],i] [e,f,.abs (rkI [] 40),.abs (rkM [] 6),.cells [.ptr 3 0],i]∧∃(d:Wd) (ra:List RwI) (r:List RwI),by refine(?_:_→_→_→Prop) [PV.list (r.map csI) .no,.I 40] (Ob.cells [.list (d.ra.map prC) .no,.list (d.rows.map lcs) .no,.list (d.st.map i1) .no]) (Prod.fst (eY d d.rows.length)); exact fun a b c=>d.rows.length≤6∧d.st.length≤1000000∧(∀(l:List Rr),l∈d.rows→smR l∧wJ l)∧ah g g∧av [e,f,.abs (rkI (dO [] 40 d_1.ra) 40),.abs (rkM [] 6),.cells [.ptr 3 0],.cells [.list (List.map csI (nR d_1.ra)) .no,.I 40]] [b,f,.abs (rkI ra 40),.abs (rkM [] 6),.cells [.ptr 3 0],.cells a]∧K (.tup [.ptr 2 0,.ptr 4 0,.agg a,.list (List.map mtc c) .no]) [b,.cells a,.abs (rkI ra 40),.abs (rkM (aq c) 6),.cells [.ptr 3 0],.cells a])→AcK 7 [.agg (wdC d)] [] K:Prop):=fun K h=>acW (T:=TOP) (L:=[([1,1,1,1,0,1,0],JH),([1,1,1,1,1,1,0,1,0],Jz)]) (fun o=>match o.dst with|some 199=>501002|some _=>0|none=>match o.op with| .store _ (.tmp 4) _=>101002|_=>0) Tryz.func7 (kE) (.cons suE AN (.cons suE EK (.nil _ _ _ _ _))) h
def raP (d:Wd):Prop:=(∀ p∈d.ra,0≤p.1)∧∀ l∈d.rows,wJ l
def opH (n:Nat) (d:Wd):ae:=[.abs (rkI (dO [] 40 d.ra) 40),.abs (rkM (aq (eY d d.rows.length).1) 6),.cells [.ptr (n+1) 0]]
def opV (n:Nat) (d:Wd):List PV:=[.ptr n 0,.ptr (n+2) 0,.agg [.list ((nR d.ra).map csI) .no,.I 40],.list ((eY d d.rows.length).1.map mtc) .no]
def Jv (args:List PV) (H:ae) (K:PV→ae→Prop):Prop:=∃(d:Wd),ah args [.agg (wdC d)]∧fl d=false∧raP d∧K (.tup (opV H.length d)) (H++opH H.length d)
theorem xg {ρ:Nat→Nat} {n m k:Nat} (h1:n+2<m) (h2:ρ n=k) (h3:ρ (n+2)=k+2) (d:Wd):Ren ρ m (.tup (opV n d)) (.tup (opV k d)):=by
 have a:=Ren.ptr (ρ:=ρ) (n:=m) n 0 (by omega)
 have b:=Ren.ptr (ρ:=ρ) (n:=m) (n+2) 0 h1
 rw[h2] at a
 rw[h3] at b
 exact .M4 (.cons a (.cons b (.cons (.low (.agg _ (bn (bq kU _) (.int _ _)))) (.cons (.low (bB _)) .nil))))
theorem L3:SpK 7 (.heap Jv):=by
 rintro args H K ⟨d,he,hg,hp,hk⟩
 have he:args=_:=he
 subst he
 obtain⟨g1,g2,g3,g4⟩:=yP hg
 refine a8 aj (X:=[]) (ρ:=fun o=>o) ⟨by simp,by simp,by simp⟩ (aW.low (bw (.agg _ (n5 d)))) (cj aj (LF d _ ⟨40,rfl,6,rfl,d,by omega,hp.1,rfl,rfl,d,dO [] 40 d.ra,nR d.ra,g2,by omega,fun l hl=>⟨g4 l hl,hp.2 l hl⟩,rfl,rfl,?_⟩))
 have q0:aN (fun o=>o) ([]:ae).length H.length 0=H.length:=by simp[aN]
 have q1:aN (fun o=>o) ([]:ae).length H.length 1=H.length+1:=by simp[aN]
 have q2:aN (fun o=>o) ([]:ae).length H.length 2=H.length+2:=by simp[aN]
 refine⟨.tup (opV 0 d),opH 0 d,fun o=>o+2,⟨fun o ho=>by simp[opH] at ho ⊢; omega,fun a b _ _ e=>by have e:a+2=b+2:=e; omega,fun o a ho=>?_⟩,by simp,fun o ho=>by simp at ho,xg (n:=0) (Nat.lt_succ_self 2) rfl rfl d,
  .tup (opV H.length d),H++opH H.length d,⟨by simp,by simp[opH],fun o a ho=>?_,fun o hl _=>by rw[List.getElem?_append_left hl]⟩,xg (n:=0) (Nat.lt_succ_self 2) q0 q2 d,hk⟩
 ·have k1:=(List.getElem?_eq_some_iff.1 ho).1
  simp[opH] at k1
  have:o=0∨o=1∨o=2:=by omega
  rcases this with rfl|rfl|rfl
  ·cases ho; exact⟨_,rfl,.abs _⟩
  ·cases ho; exact⟨_,rfl,.abs _⟩
  ·cases ho; exact⟨_,rfl,.cells (.cons (.ptr (ρ:=fun o=>o+2) 1 0 (Nat.lt_succ_of_lt (Nat.lt_succ_self 1))) .nil)⟩
 ·have k1:=(List.getElem?_eq_some_iff.1 ho).1
  simp[opH] at k1
  have:o=0∨o=1∨o=2:=by omega
  rcases this with rfl|rfl|rfl
  ·cases ho; exact⟨_,by rw[q0,List.getElem?_append_right (Nat.le_refl _)]; simp[opH],.abs _,fun h=>h⟩
  ·cases ho; exact⟨_,by rw[q1,List.getElem?_append_right (by omega)]; simp[opH],.abs _,fun h=>h⟩
  ·cases ho
   refine⟨.cells [.ptr (H.length+1) 0],by rw[q2,List.getElem?_append_right (by omega)]; simp[opH],.cells (.cons ?_ .nil),fun h=>h⟩
   have:=Ren.ptr (ρ:=aN (fun o=>o) ([]:ae).length H.length) (n:=3) 1 0 (by decide)
   rw[q1] at this
   exact this
theorem F9 {xs ys:List PV} (h:WkL xs ys):∀(q:Nat) (y:PV),ys[q]?=some y→∃ x,xs[q]?=some x∧Wk x y:=by
 induction h with
 | nil=>intro q y h; simp at h
 | cons h _ ih=>
  intro q y hq
  cases q with
  | zero=>simp at hq; subst hq; exact⟨_,rfl,h⟩
  | succ q=>simpa using ih q y (by simpa using hq)
theorem It {xs ys:List PV} (h:WkL xs ys):xs.length=ys.length:=by
 induction h with
 | nil=>rfl
 | cons _ _ ih=>simp[ih]
theorem Gi {es es':List (List PV)} {t:Tail} (hw:WkL es.flatten es'.flatten) (hl:es.length=es'.length) (hu:∀ e∈es',∀ e'∈es',e.length=e'.length):Wk (.list es t) (.list es' .no):=by
 intro g w v h
 obtain⟨a,cap,rfl,h1,h2,_,h4⟩:=Rel.aU.1 h
 refine Rel.aU.2 ⟨a,cap,by rw[hl],hu,by omega,trivial,h4.imp (fun e=>?_) ?_⟩
 ·have:=It hw
  rw[e] at this
  exact List.eq_nil_of_length_eq_zero this.symm
 ·rintro⟨A,ha,hn,hr⟩
  refine⟨A,ha,hn,fun q y hq=>?_⟩
  obtain⟨x,hx,hxy⟩:=F9 hw q y hq
  obtain⟨j1,c,j2,j3⟩:=hr q x hx
  exact⟨j1,c,j2,hxy _ _ _ j3⟩
def Df (args:List PV) (H:ae) (K:PV→ae→Prop):Prop:=∃(l:List RwI) (most t v:Int),ah args [.ptr 0 0,.U t,.I v]∧bU H 0 (rkI l most)∧Ok l most∧K (.I (cN l most t v).2) (H.set 0 (.abs (rkI (cN l most t v).1 most)))
theorem Iz:SpK 22 (.heap Df):=by
 rintro args H K ⟨l,most,t,v,he,hb,ok,hk⟩
 have he:args=_:=he
 subst he
 exact so _ H K ⟨l,most,t,v,rfl,hb,ok,hk⟩
def AU (args:List PV) (H:ae) (K:PV→ae→Prop):Prop:=∃(w:List Mt) (m id md ins:Int) (l:List Rr) (x:PV),ah args [.ptr 2 0,.U id,.I md,.U ins,x]∧Wk x (.list (l.map rrc) .no)∧cm H 2 1 (rkM (aq w) m)∧MO w m∧smR l∧K (.I (dH w m id md ins l).2) (H.set 1 (.abs (rkM (aq (dH w m id md ins l).1) m)))
theorem GV:SpK 24 (.heap AU):=by
 rintro args H K ⟨w,m,id,md,ins,l,x,he,hx,hb,ro,hl,hk⟩
 have he:args=_:=he
 subst he
 exact bj (.cons (.refl _) (.cons (.refl _) (.cons (.refl _) (.cons (.refl _) (.cons hx .nil))))) (xZ _ H K ⟨2,1,w,m,id,md,ins,l,.no,rfl,hb,ro,hl,hk⟩)
def xp (args:List PV) (H:ae) (K:PV→ae→Prop):Prop:=∃(w:List Mt) (m p st un no:Int),ah args [.ptr 2 0,.U p,.I st,.I un,.int .u64 no]∧cm H 2 1 (rkM (aq w) m)∧MO w m∧K (.I (eg w p st un no).2) (H.set 1 (.abs (rkM (aq (eg w p st un no).1) m)))
theorem Fc:SpK 26 (.heap xp):=fun args H K ⟨w,m,p,st,un,no,he,hb,ro,hk⟩=>Az args H K ⟨2,1,w,m,p,st,un,no,he,hb,ro,hk⟩
def TAW:Tab:=[(20,.heap vY),(21,.heap vI),(22,.heap Df),(24,.heap AU),(26,.heap xp),(10,.heap lZ),(33,.read p5)]
theorem LG:TbK TAW:= .cons xo (.cons yM (.cons Iz (.cons GV (.cons Fc (.cons qZ (.cons ol (.nil _ _)))))))
theorem Lt  : ∀(K:PV→Prop),(∃(n:Int),ah [.int .i64 4] [.int .i64 n]∧∃(n_1:Int),by refine(?_:_→Prop) (Ob.abs (rkM [] (mxI 0 n_1))); exact fun s=>ah [.int .i64 2] [.int .i64 n_1]∧∃(l:List RwI) (most:Int) (t:Int) (v:Int),ah [.ptr 0 0,.int .u32 1,.int .i64 1500] [.ptr 0 0,.int .u32 t,.int .i64 v]∧bU [.abs (rkI [] (mxI 0 n)),s,.cells [.ptr 1 0]] 0 (rkI l most)∧Ok l most∧∃(l_1:List RwI) (most_1:Int) (t_1:Int) (v_1:Int),by refine(?_:_→Prop) (rkI (Prod.fst (cN l_1 most_1 t_1 v_1)) most_1); exact fun o=>ah [.ptr 0 0,.int .u32 2,.int .i64 1500] [.ptr 0 0,.int .u32 t_1,.int .i64 v_1]∧bU [.abs (rkI (Prod.fst (cN l most t v)) most),s,.cells [.ptr 1 0]] 0 (rkI l_1 most_1)∧Ok l_1 most_1∧∃(w:List Mt) (m:Int) (id:Int) (md:Int) (ins:Int) (l:List Rr) (x:PV),ah [.ptr 2 0,.int .u32 9,.int .i64 0,.int .u32 3,.list [[PV.int .i64 1,.list [[PV.int .u32 1]] .exact,.int .i64 0,.int .i64 0],[.int .i64 2,.list [[PV.int .u32 2]] .exact,.int .i64 0,.int .i64 0]] .exact] [.ptr 2 0,.int .u32 id,.int .i64 md,.int .u32 ins,x]∧(∀(g:Gh),∀(w:World),∀(v:Value),Rel g w x v→Rel g w (.list (l.map rrc) .no) v)∧cm [.abs o,s,.cells [.ptr 1 0]] 2 1 (rkM (aq w) m)∧MO w m∧smR l∧∃(w_1:List Mt) (m_1:Int) (p:Int) (st:Int) (un:Int) (no:Int),ah [.ptr 2 0,.int .u32 1,.int .i64 2,.int .i64 0,.int .u64 0] [.ptr 2 0,.int .u32 p,.int .i64 st,.int .i64 un,.int .u64 no]∧cm [.abs o,.abs (rkM (aq (Prod.fst (dH w m id md ins l))) m),.cells [.ptr 1 0]] 2 1 (rkM (aq w_1) m_1)∧MO w_1 m_1∧∃(w_2:List Mt) (m_2:Int) (p_1:Int) (st_1:Int) (un_1:Int) (no_1:Int),by refine(?_:_→Prop) [Ob.abs o,.abs (rkM (aq (Prod.fst (eg w_2 p_1 st_1 un_1 no_1))) m_2),.cells [.ptr 1 0]]; exact fun k=>ah [.ptr 2 0,.int .u32 2,.int .i64 2,.int .i64 0,.int .u64 0] [.ptr 2 0,.int .u32 p_1,.int .i64 st_1,.int .i64 un_1,.int .u64 no_1]∧cm [.abs o,.abs (rkM (aq (Prod.fst (eg w_1 p st un no))) m_1),.cells [.ptr 1 0]] 2 1 (rkM (aq w_2) m_2)∧MO w_2 m_2∧∃(ra:List RwI) (mb:Int) (w_3:List Mt) (m_3:Int) (ins_1:Int) (id_1:Int) (r:Int),by refine(?_:_→Prop) (aI ra mb w_3 ins_1 id_1 r); exact fun d=>by refine(?_:_→_→Prop) (Ob.cells [.int .u32 (Vd.m (Rp.v d)),.int .u32 (Vd.i (Rp.v d)),.int .i64 (Vd.r (Rp.v d)),.list (List.map u1 (Vd.ps (Rp.v d))) .no,.list (List.map i1 (Vd.old (Rp.v d))) .no,.list (List.map i1 (Vd.new (Rp.v d))) .no]) (Ob.cells [.int .u32 (Mt.id (Rp.c d)),.int .i64 (Mt.md (Rp.c d)),.int .u32 (Mt.ins (Rp.c d)),.list (List.map rrc (Mt.rows (Rp.c d))) .no,.list (List.map stc (Mt.aa (Rp.c d))) .no]); exact fun h j=>by refine(?_:_→Prop) [Ob.abs (rkI (Rp.ra d) mb),.abs (rkM (aq (Rp.w d)) m_3),.cells [.ptr 1 0],h,j]; exact fun f=>ah [.int .u32 3,.int .u32 9,.int .i64 1] [.int .u32 ins_1,.int .u32 id_1,.int .i64 r]∧bU k 0 (rkI ra mb)∧cm k 2 1 (rkM (aq w_3) m_3)∧0≠1∧Ok ra mb∧MO w_3 m_3∧∃(ra_1:List RwI) (mb_1:Int) (w_4:List Mt) (m_4:Int) (ins_2:Int) (id_2:Int) (r_1:Int),by refine(?_:_→Prop) (aI ra_1 mb_1 w_4 ins_2 id_2 r_1); exact fun b=>by refine(?_:_→Prop) [Ob.abs (rkI (Rp.ra b) mb_1),.abs (rkM (aq (Rp.w b)) m_4),.cells [.ptr 1 0],h,j,.cells [.int .u32 (Vd.m (Rp.v b)),.int .u32 (Vd.i (Rp.v b)),.int .i64 (Vd.r (Rp.v b)),.list (List.map u1 (Vd.ps (Rp.v b))) .no,.list (List.map i1 (Vd.old (Rp.v b))) .no,.list (List.map i1 (Vd.new (Rp.v b))) .no],.cells [.int .u32 (Mt.id (Rp.c b)),.int .i64 (Mt.md (Rp.c b)),.int .u32 (Mt.ins (Rp.c b)),.list (List.map rrc (Mt.rows (Rp.c b))) .no,.list (List.map stc (Mt.aa (Rp.c b))) .no]]; exact fun a=>ah [.int .u32 3,.int .u32 9,.int .i64 1] [.int .u32 ins_2,.int .u32 id_2,.int .i64 r_1]∧bU f 0 (rkI ra_1 mb_1)∧cm f 2 1 (rkM (aq w_4) m_4)∧0≠1∧Ok ra_1 mb_1∧MO w_4 m_4∧∃(q:Nat) (l_2:List RwI) (most:Int) (t:Int),ah [.ptr 0 0,.int .u32 1] [.ptr q 0,.int .u32 t]∧bU a q (rkI l_2 most)∧Ok l_2 most∧∃(q:Nat) (l_3:List RwI) (most:Int) (t_2:Int),ah [.ptr 0 0,.int .u32 2] [.ptr q 0,.int .u32 t_2]∧bU a q (rkI l_3 most)∧Ok l_3 most∧br ((Prod.snd (dH w m id md ins l) == 0) == true) (br ((Rp.e d == 0) == true) (br ((Rp.e b == 12) == true) (br ((bF l_2 t == 1516) == true) (K (.bool (bF l_3 t_2 == 1484))) (K (.bool false))) (K (.bool false))) (K (.bool false))) (K (.bool false)))→AcK 14 [] [] (fun x _=>K x):=fun K h=>acW (T:=TAW) (L:=[]) (fun _=>0) Tryz.func14 (LG) (LOk.nil _ _ _ _ _) h
def wR (t:Int) (l:List Int):Rr:=⟨t,l,0,0⟩
def ba1:List RwI:=(cN [] 4 1 1500).1
def ba2:List RwI:=(cN ba1 4 2 1500).1
def wk1:List Mt:=(dH [] 2 9 0 3 [wR 1 [1],wR 2 [2]]).1
def wk2:List Mt:=(eg wk1 1 2 0 0).1
def wk3:List Mt:=(eg wk2 2 2 0 0).1
def wp1:Rp:=aI ba2 4 wk3 3 9 1
def wp2:Rp:=aI wp1.ra 4 wp1.w 3 9 1
theorem EG:Ok ([]:List RwI) 4:=Ok.none (by decide) (by decide)
theorem Bg:Ok ba1 4:=EG.put _ _
theorem FA:Ok ba2 4:=Bg.put _ _
theorem EN:MO [] 2:=MO.nil (by decide) (by decide)
theorem CD:MO wk1 2:=EN.make _ _ _ _
theorem D9:MO wk2 2:=CD.set _ _ _ _
theorem D7:MO wk3 2:=D9.set _ _ _ _
theorem rG:Ok wp1.ra 4∧MO wp1.w 2:=kw FA D7 _ _ _
theorem AO:Ok wp2.ra 4∧MO wp2.w 2:=kw rG.1 rG.2 _ _ _
theorem Mq {l:List Rr} (h:(decide (l.length≤100) && l.all fun r=>decide (r.pl.length≤100))=true):smR l:=by
 rw[Bool.and_eq_true,decide_eq_true_eq,List.all_eq_true] at h
 exact⟨h.1,fun r hr=>of_decide_eq_true (h.2 r hr)⟩
theorem Nb {l:List Int} {t:Tail}:Wk (.list (l.map u1) t) (.list (l.map u1) .no):= .list _ _
theorem u6:AcK 14 [] [] (fun x _=>x = .bool true):=by
 refine Lt (fun x=>x = .bool true) ⟨4,rfl,2,rfl,[],4,1,1500,rfl,rfl,EG,ba1,4,2,1500,rfl,rfl,Bg,[],2,9,0,3,[wR 1 [1],wR 2 [2]],_,rfl,Gi (es':=[wR 1 [1],wR 2 [2]].map rrc) (.cons (.refl _) (.cons (Nb (l:=[1])) (.cons (.refl _) (.cons (.refl _) (.cons (.refl _) (.cons (Nb (l:=[2])) (.cons (.refl _) (.cons (.refl _) .nil)))))))) rfl (by decide),⟨rfl,rfl⟩,EN,Mq (by decide),
  wk1,2,1,2,0,0,rfl,⟨rfl,rfl⟩,CD,wk2,2,2,2,0,0,rfl,⟨rfl,rfl⟩,D9,ba2,4,wk3,2,3,9,1,rfl,rfl,⟨rfl,rfl⟩,by decide,FA,D7,wp1.ra,4,wp1.w,2,3,9,1,rfl,rfl,⟨rfl,rfl⟩,by decide,rG.1,rG.2,0,wp2.ra,4,1,rfl,rfl,AO.1,0,wp2.ra,4,2,rfl,rfl,AO.1,?_⟩
 simp only[au]
 rw[if_pos (by kernel_rfl),if_pos (by kernel_rfl),if_pos (by kernel_rfl),if_pos (by kernel_rfl)]
 kernel_rfl
def yp (args:List PV) (K:PV→Prop):Prop:=ah args []∧K (.bool true)
theorem D6:SpK 14 (.pure yp):=by
 rintro args K ⟨he,hk⟩
 have he:args=_:=he
 subst he
 exact bu aj .nil (fun _ h=>nomatch h) (.bool _) u6 hk
theorem vB (w:List RwI) (m:Int) (t b:Int) (i:Nat):(by refine(?_:_→_→_→_→Prop) (List.drop 0 (List.getD (w.map csI) (Int.toNat (i:Int)) [])) [Ob.cells [.list (w.map csI) .no,.I m]] [PV.U t,.ptr 0 0,.U 0,.bool false,.U b,.I i] (PV.I (wI ((i:Int)+1))); exact fun d f g h=>∀(R:Ex→List PV→ae→Prop),by refine(?_:_→_→Prop) (R .normal [.U t,.ptr 0 0,.U 0,.bool false,.U (cI d 0),h] f) (R .normal [.U t,.ptr 0 0,.U 0,.bool false,.U b,h] f); exact fun a c=>(br (decide ((i:Int)<(↑(List.length (w.map csI)):Int))) (InL (w.map csI) 2 (i:Int)∧br (true && aD [.int .u32] 0 d) (br (decide (cI d 0>t) == true) (br ((b == 0) == false) (br (decide (cI d 0<b)) a c) a) c) False) (R (.exit 0) g f))→Holds (wpK [] [] (fun _=>0) (ai [1,1,0,1,0] (ag Tryz.f66)) [] (ak [1,2,4,5,6,7] g) f (fun ex e H=>R ex (List.map e [1,2,4,5,6,7]) H)):Prop):=fun R h=>hoE h
theorem vy (w:List RwI) (m:Int) (t:Int):(by refine(?_:_→Prop) [PV.agg [.list (w.map csI) .no,.I m],.U t]; exact fun b=>∀(K:PV→Prop),(∃(w_1:List RwI) (m_1:Int) (t_1:Int),by refine(?_:_→Prop) (List.drop 1 (List.getD (w.map csI) (Int.toNat (iO w_1 t_1)) [])); exact fun a=>ah b [.agg [.list (w_1.map csI) .no,.I m_1],.U t_1]∧w_1.length≤1000000∧br (decide (iO w_1 t_1<0)) (K (.tup [.I 0,.bool false])) (InL (w.map csI) 2 (iO w_1 t_1)∧br (true && aD [.int .i64] 0 a) (K (.tup [.I (cI a 0),.bool true])) False))→AcK 34 b [] (fun x _=>K x):Prop):=fun K h=>acW (T:=Ln) (L:=[]) (fun _=>0) Tryz.func34 (xL) (LOk.nil _ _ _ _ _) h
theorem vG (v:Int) (b:Bool):Low 0 (.tup [.I v,.bool b]):= .tup _ (by intro y hy; simp only[List.mem_cons,List.not_mem_nil,or_false] at hy; rcases hy with rfl|rfl; exact .int _ _; exact .bool _)
def pX (args:List PV) (K:PV→Prop):Prop:=∃(w:List RwI) (m t:Int),ah args [.agg [.list (w.map csI) .no,.I m],.U t]∧w.length≤1000000∧K (.tup [.I (ff w t),.bool (eT w t)])
theorem qB:SpK 34 (.pure pX):=by
 rintro args K ⟨w,m,t,he,hl,hk⟩
 have he:args=_:=he
 subst he
 refine cr aj (nn w m t) (vG _ _) (vy w m t (fun x=>x = .tup [.I (ff w t),.bool (eT w t)]) ⟨w,m,t,rfl,hl,?_⟩) hk
 rw[au,nk]
 unfold ff
 by_cases c:fiW w t<w.length
 ·have hh:eT w t=true:=decide_eq_true c
  rw[hh,if_neg (by decide),if_pos c]
  have e:iO w t=(fiW w t:Int):=by unfold iO; rw[if_pos c]
  rw[e,ji,an,getD_map default c]
  refine⟨c,?_⟩
  rw[au,if_pos (by rfl)]
  rfl
 ·have hh:eT w t=false:=decide_eq_false c
  rw[hh,if_pos (by decide),if_neg c]
  rfl
def qz:LSp:=fun e H Q=>∃(w:List RwI) (m t:Int),w.length≤1000000∧ah (List.map e [1,2,4,5,6,7]) [.U t,.ptr 0 0,.U 0,.bool false,.U 0,.I 0]∧av H [.cells [.list (w.map csI) .no,.I m]]∧
 Q (.exit 0) (ak [1,2,4,5,6,7] [.U t,.ptr 0 0,.U 0,.bool false,.U (ct w t),.I w.length]) [.cells [.list (w.map csI) .no,.I m]]
theorem rU:∀ e H Q,qz e H Q→AwK Tryz.f66.ntmps (.loop (ai [1,1,0,1,0] (ag Tryz.f66))) Q e H:=by
 rintro e H Q ⟨w,m,t,hl,he,hH,hx⟩
 refine aB (hn:=fun _=>0) aj (.nil _ _) (.nil _ _ _ _ _) (σ:=Nat) [1,2,4,5,6,7] (fun i=>i≤w.length)
  (fun i=>[.U t,.ptr 0 0,.U 0,.bool false,.U (ct (w.take i) t),.I i]) (fun _=>[.cells [.list (w.map csI) .no,.I m]]) (fun i=>w.length-i) 0 (Nat.zero_le _) he hH ?_
 intro i hi
 refine vB w m t _ i _ ?_
 simp only[au,dt,bt,bf,List.length_map]
 by_cases h:i<w.length
 ·rw[if_pos (by omega),ji,an,getD_map default h]
  refine⟨h,?_⟩
  rw[if_pos (by rfl),List.drop_zero]
  have hc:cI (csI (w.getD i default)) 0=(w.getD i default).id:=rfl
  rw[hc]
  have hs:ct (w.take (i+1)) t=ep t (ct (w.take i) t) (w.getD i default):=by
   unfold ct; rw[aJ default h,List.foldl_append]; rfl
  have fin:∀ b,b=ct (w.take (i+1)) t→Dc Q [1,2,4,5,6,7] (fun i=>i≤w.length) (fun i=>[.U t,.ptr 0 0,.U 0,.bool false,.U (ct (w.take i) t),.I i]) (fun _=>[.cells [.list (w.map csI) .no,.I m]]) (fun i=>w.length-i) i .normal [.U t,.ptr 0 0,.U 0,.bool false,.U b,.I (wI ((i:Int)+1))] [.cells [.list (w.map csI) .no,.I m]]:=by
   rintro b rfl
   exact⟨i+1,(show w.length-(i+1)<w.length-i by omega),h,by rw[ar h (by omega)],[],rfl,Nat.le_refl _,.inl rfl⟩
  rw[hs] at fin
  unfold ep at fin
  by_cases c:(w.getD i default).id>t
  ·rw[if_pos c] at fin
   rw[if_pos c]
   by_cases c2:ct (w.take i) t=0
   ·rw[if_pos c2] at fin
    rw[if_neg (by simpa using c2)]
    exact fin _ rfl
   ·rw[if_neg c2] at fin
    rw[if_pos (by simpa using c2)]
    by_cases c3:(w.getD i default).id<ct (w.take i) t
    ·rw[if_pos c3] at fin
     rw[if_pos c3]
     exact fin _ rfl
    ·rw[if_neg c3] at fin
     rw[if_neg c3]
     exact fin _ rfl
  ·rw[if_neg c] at fin
   rw[if_neg c]
   exact fin _ rfl
 ·rw[if_neg (by omega)]
  have hi':i≤w.length:=hi
  have:i=w.length:=by omega
  subst this
  rw[List.take_length]
  exact hx
theorem uI (w:List RwI) (m:Int) (t:Int)  (K:PV→Prop) (h:∃(w_1:List RwI) (m_1:Int) (t_1:Int),List.length w_1≤1000000∧ah [.U t,.ptr 0 0,.U 0,.bool false,.U 0,.I 0] [.U t_1,.ptr 0 0,.U 0,.bool false,.U 0,.I 0]∧av [.cells [.list (List.map csI w) .no,.I m]] [.cells [.list (List.map csI w_1) .no,.I m_1]]∧K (.tup [.U (ct w_1 t_1),.bool (ct w_1 t_1 != 0)])):AcK 66 [.agg [.list (w.map csI) .no,.I m],.U t] [] (fun x _=>K x):=
 acW (T:=[]) (L:=[([1,1,0,1,0],qz)]) (fun _=>0) Tryz.func66 (aX.nil _ _) (.cons suE rU (.nil _ _ _ _ _)) h
def qQ (args:List PV) (K:PV→Prop):Prop:=∃(w:List RwI) (m t:Int),ah args [.agg [.list (w.map csI) .no,.I m],.U t]∧w.length≤1000000∧K (.tup [.U (ct w t),.bool (ct w t != 0)])
theorem vn:SpK 66 (.pure qQ):=by
 rintro args K ⟨w,m,t,he,hl,hk⟩
 have he:args=_:=he
 subst he
 exact cr aj (by intro x hx; simp only[List.mem_cons,List.not_mem_nil,or_false] at hx; rcases hx with rfl|rfl; exact ck w m; exact .int _ _) (.tup _ (by intro y hy; simp only[List.mem_cons,List.not_mem_nil,or_false] at hy; rcases hy with rfl|rfl; exact .int _ _; exact .bool _)) (uI w m t (fun x=>x = .tup [.U (ct w t),.bool (ct w t != 0)]) ⟨w,m,t,hl,rfl,rfl,rfl⟩) hk
def ye:Tab:=[(66,.pure qQ)]
theorem uz:TbK ye:= .cons vn (.nil _ _)
theorem vZ (w:List RwI) (m:Int) (x:Int) (b:Bool):(by refine(?_:_→_→Prop) [PV.list (w.map csI) .no,.I m] [PV.ptr 0 0,.E,.U x,.bool b]; exact fun a c=>∀(R:Ex→List PV→ae→Prop),(br b (aG [] [[PV.U x]] 1 4∧(List.all [.U x] PV.one=true∧[[PV.U x]]≠[])∧∃(w_1:List RwI) (m_1:Int) (t:Int),ah [.agg a,.U x] [.agg [.list (w_1.map csI) .no,.I m_1],.U t]∧w_1.length≤1000000∧R .normal [.ptr 0 0,.list [[PV.U x]] (.tok 1),.U (ct w_1 t),.bool (ct w_1 t != 0)] [.cells a,.tok]) (R (.exit 0) c [.cells a]))→Holds (wpK ye [] (fun o=>match o.dst with|some 15=>1|_=>0) (ai [1,1,1,0,0] (ag Tryz.f28)) [] (ak [1,3,4,5] c) [.cells a] (fun ex e H=>R ex (List.map e [1,3,4,5]) H)):Prop):=fun R h=>hoE h
theorem vW (w:List RwI) (m:Int) (es:List (List PV)) (x:Int) (b:Bool):(by refine(?_:_→_→Prop) [PV.list (w.map csI) .no,.I m] [PV.ptr 0 0,.list es (.tok 1),.U x,.bool b]; exact fun a c=>∀(R:Ex→List PV→ae→Prop),(br b (aG es [[PV.U x]] 1 4∧(List.all [.U x] PV.one=true∧[[PV.U x]]≠[])∧∃(w_1:List RwI) (m_1:Int) (t:Int),ah [.agg a,.U x] [.agg [.list (w_1.map csI) .no,.I m_1],.U t]∧w_1.length≤1000000∧R .normal [.ptr 0 0,.list (es++[[PV.U x]]) (.tok 2),.U (ct w_1 t),.bool (ct w_1 t != 0)] [.cells a,.dead,.tok]) (R (.exit 0) c [.cells a,.tok]))→Holds (wpK ye [] (fun o=>match o.dst with|some 15=>1|_=>0) (ai [1,1,1,0,0] (ag Tryz.f28)) [] (ak [1,3,4,5] c) [.cells a,.tok] (fun ex e H=>R ex (List.map e [1,3,4,5]) H)):Prop):=fun R h=>hoE h
theorem nl {l:List RwI} {i:Nat} (h:i<l.length):(l.take (i+1)).map (fun r:RwI=>[PV.U r.id])=(l.take i).map (fun r:RwI=>[PV.U r.id])++[[.U (ii l i)]]:=by
 have:=m9 h
 unfold bT at this
 rw[this]
 unfold ii
 rw[if_pos h]
theorem oB {l w:List RwI} {most:Int} (h:bY l w most):w.length≤1000000:=by rw[h.len]; exact h.ok.len
def uS:LSp:=fun e H Q=>∃(l w:List RwI) (m most:Int),bY l w most∧ah (List.map e [1,3,4,5]) [.ptr 0 0,.E,.U (ct w 0),.bool (ct w 0 != 0)]∧av H [.cells [.list (w.map csI) .no,.I m]]∧
 Q (.exit 0) (ak [1,3,4,5] [.ptr 0 0,.list (bT l) .no,.U 0,.bool false]) [.cells [.list (w.map csI) .no,.I m],.dead]
theorem tG:∀ e H Q,uS e H Q→AwK Tryz.f28.ntmps (.loop (ai [1,1,1,0,0] (ag Tryz.f28))) Q e H:=by
 rintro e H Q ⟨l,w,m,most,lk,he,hH,hQ⟩
 have hH2:H=_:=hH
 have hwl:=oB lk
 have hll:=lk.ok.len
 have hnx:∀ k,k<l.length→ct w (ii l k)=ii l (k+1):=fun k hk=>lk.atS hk
 refine r5 (f:=fun r:RwI=>[PV.U r.id]) (T:=l) (hn:=fun o=>match o.dst with|some 15=>1|_=>0) aj uz (.nil _ _ _ _ _) [1,3,4,5] (fun r i=>[.ptr 0 0,r,.U (ii l i),.bool (decide (i<l.length))]) [.cells [.list (w.map csI) .no,.I m]]
  (by intro o cs ho; have:o=0:=by { have:=(List.getElem?_eq_some_iff.1 ho).1; simp at this; omega }; subst this; cases ho; exact fi w m) (fun b _ x hx=>by rcases List.mem_singleton.1 hx with rfl; exact .int _ _)
  (fun es i k h=> .same (.ptr _ _ (by simp)) (.row h (.same (.int _ _) (.same (.bool _) .nil)))) (by rw[he,← lk.at0,← oV lk,lk.at0]) hH2 ?_ ?_
 ·refine vZ w m _ _ _ ?_
  simp only[au]
  by_cases h:0<l.length
  ·rw[if_pos (decide_eq_true h)]
   refine⟨⟨(by intro e he; simp at he),(by intro e he; simp at he; subst he; rfl),by simp⟩,⟨by rfl,by simp⟩,w,m,ii l 0,rfl,hwl,h,_,1,rfl,rfl,by simp,?_⟩
   rw[hnx 0 h,oV lk,nl h]; rfl
  ·rw[if_neg (by simpa using h)]
   have hm:l=[]:=List.eq_nil_of_length_eq_zero (by omega)
   subst hm
   exact⟨_,_,.cons (.refl _) (.cons (.list _ _) (.cons (.refl _) (.cons (.refl _) .nil))),dg _,hQ⟩
 ·intro i h0 hi
  refine vW w m _ _ _ _ ?_
  simp only[au]
  by_cases h:i<l.length
  ·rw[if_pos (decide_eq_true h)]
   refine⟨⟨(by intro e he; obtain⟨a,_,rfl⟩:=List.mem_map.1 he; rfl),(by intro e he; simp at he; subst he; rfl),by simp only[List.length_map,List.length_take,List.length_cons,List.length_nil]; omega⟩,⟨by rfl,by simp⟩,w,m,ii l i,rfl,hwl,h,_,2,rfl,rfl,by simp,?_⟩
   rw[hnx i h,oV lk,nl h]
  ·rw[if_neg (by simpa using h)]
   have hm:i=l.length:=by omega
   subst hm
   rw[List.take_length]
   have e1:ii l l.length=0:=by unfold ii; rw[if_neg (Nat.lt_irrefl _)]
   rw[e1,decide_eq_false (Nat.lt_irrefl _)]
   exact⟨_,_,.cons (.refl _) (.cons (.list _ _) (.cons (.refl _) (.cons (.refl _) .nil))),dK [.cells [.list (w.map csI) .no,.I m]] .tok,hQ⟩
theorem wh (w:List RwI) (m:Int):(by refine(?_:_→Prop) [PV.list (w.map csI) .no,.I m]; exact fun a=>∀(K:PV→Prop),(∃(w_1:List RwI) (m_1:Int) (t:Int),ah [.agg a,.U 0] [.agg [.list (w_1.map csI) .no,.I m_1],.U t]∧w_1.length≤1000000∧∃(l:List RwI) (w_2:List RwI) (m_2:Int) (most:Int),bY l w_2 most∧ah [.ptr 0 0,.E,.U (ct w_1 t),.bool (ct w_1 t != 0)] [.ptr 0 0,.E,.U (ct w_2 0),.bool (ct w_2 0 != 0)]∧av [.cells a] [.cells [.list (w_2.map csI) .no,.I m_2]]∧K (.list (bT l) .no))→AcK 28 [.agg a] [] (fun x _=>K x):Prop):=fun K h=>acW (T:=ye) (L:=[([1,1,1,0,0],uS)]) (fun o=>match o.dst with|some 15=>1|_=>0) Tryz.func28 (uz) (.cons suE tG (.nil _ _ _ _ _)) h
theorem rN (w:List RwI) (m:Int):∀ x∈[PV.agg [.list (w.map csI) .no,.I m]],Low 0 x:=by
 intro x hx
 rcases List.mem_singleton.1 hx with rfl
 exact ck w m
def uA (args:List PV) (K:PV→Prop):Prop:=∃(l w:List RwI) (m most:Int),ah args [.agg [.list (w.map csI) .no,.I m]]∧bY l w most∧K (.list (bT l) .no)
theorem z1:SpK 28 (.pure uA):=by
 rintro args K ⟨l,w,m,most,he,lk,hk⟩
 have he:args=_:=he
 subst he
 exact cr aj (rN w m) (s9 l) (wh w m (fun x=>x = .list (bT l) .no) ⟨w,m,0,rfl,oB lk,l,w,m,most,lk,rfl,rfl,rfl⟩) hk
theorem LM (c:Mt) (k:Int) (i:Nat):(by refine(?_:_→_→_→_→Prop) (List.getD (c.aa.map stc) (Int.toNat (i:Int)) []) (Ob.cells [.U c.id,.I c.md,.U c.ins,.list (c.rows.map rrc) .no,.list (c.aa.map stc) .no]) [PV.I k,.ptr 0 0,.E,.I i] (PV.I (wI ((i:Int)+1))); exact fun d f h l=>by refine(?_:_→_→Prop) [[PV.U (cI d 0)]] (PV.U (cI d 0)); exact fun j m=>by refine(?_:_→Prop) (Ob.cells [m,.I (cI d 1),.I (cI d 2),.I (cI d 3),.I (cI d 4),.int .u64 (cI d 5)]); exact fun g=>∀(R:Ex→List PV→ae→Prop),by refine(?_:_→_→Prop) (aG [] j 1 4∧(List.all [m] PV.one=true∧j≠[])∧R .normal [.I k,.ptr 0 0,.list j (.tok 2),l] [f,g,.tok]) (R .normal [.I k,.ptr 0 0,.E,l] [f,g]); exact fun a b=>(br (decide ((i:Int)<(↑(List.length (c.aa.map stc)):Int))) (InL (c.aa.map stc) 6 (i:Int)∧br (true && aD [.int .u32,.int .i64,.int .i64,.int .i64,.int .i64,.int .u64] 0 d) (br ((cI d 1 == k) == true) (br ((cI d 3 == 2) == false) (br (cI d 3 == 3) a b) a) b) False) (R (.exit 0) h [f]))→Holds (wpK [] [] (fun o=>match o.dst with|some 38=>1|_=>0) (ai [1,1,0,1,0] (ag Tryz.f46)) [] (ak [1,2,5,6] h) [.cells (mtc c)] (fun ex e H=>R ex (List.map e [1,2,5,6]) H)):Prop):=fun R h=>hoE h
theorem KF (c:Mt) (k:Int) (es:List (List PV)) (i:Nat):(by refine(?_:_→_→_→_→Prop) (List.getD (c.aa.map stc) (Int.toNat (i:Int)) []) (Ob.cells [.U c.id,.I c.md,.U c.ins,.list (c.rows.map rrc) .no,.list (c.aa.map stc) .no]) [PV.I k,.ptr 0 0,.list es (.tok 1),.I i] (PV.I (wI ((i:Int)+1))); exact fun d f h l=>by refine(?_:_→_→Prop) [[PV.U (cI d 0)]] (PV.U (cI d 0)); exact fun j m=>by refine(?_:_→Prop) (Ob.cells [m,.I (cI d 1),.I (cI d 2),.I (cI d 3),.I (cI d 4),.int .u64 (cI d 5)]); exact fun g=>∀(R:Ex→List PV→ae→Prop),by refine(?_:_→_→Prop) (aG es j 1 4∧(List.all [m] PV.one=true∧j≠[])∧R .normal [.I k,.ptr 0 0,.list (es++j) (.tok 3),l] [f,.dead,g,.tok]) (R .normal [.I k,.ptr 0 0,.list es (.tok 1),l] [f,.tok,g]); exact fun a b=>(br (decide ((i:Int)<(↑(List.length (c.aa.map stc)):Int))) (InL (c.aa.map stc) 6 (i:Int)∧br (true && aD [.int .u32,.int .i64,.int .i64,.int .i64,.int .i64,.int .u64] 0 d) (br ((cI d 1 == k) == true) (br ((cI d 3 == 2) == false) (br (cI d 3 == 3) a b) a) b) False) (R (.exit 0) h [f,.tok]))→Holds (wpK [] [] (fun o=>match o.dst with|some 38=>1|_=>0) (ai [1,1,0,1,0] (ag Tryz.f46)) [] (ak [1,2,5,6] h) [.cells (mtc c),.tok] (fun ex e H=>R ex (List.map e [1,2,5,6]) H)):Prop):=fun R h=>hoE h
def TRR:Tab:=[(34,.pure pX)]
theorem Bq:TbK TRR:= .cons qB (.nil _ _)
theorem Ks (w:List RwI) (m:Int) (l:List Int) (i:Nat):(by refine(?_:_→_→_→Prop) [PV.list (l.map u1) .no,.ptr 0 0,.E,.bool false,.E,.I i] [PV.list (w.map csI) .no,.I m] (List.getD (l.map u1) (Int.toNat (i:Int)) []); exact fun b c d=>∀(R:Ex→List PV→ae→Prop),(br (decide ((i:Int)<(↑(List.length (l.map u1)):Int))) (InL (l.map u1) 1 (i:Int)∧br (true && aD [.int .u32] 0 d) (∃(w_1:List RwI) (m_1:Int) (t:Int),by refine(?_:_→Prop) [[PV.I (ff w_1 t)]]; exact fun a=>ah [.agg c,.U (cI d 0)] [.agg [.list (w_1.map csI) .no,.I m_1],.U t]∧w_1.length≤1000000∧br (!eT w_1 t) (R .ret b [.cells c]) (aG [] a 1 8∧(List.all [.I (ff w_1 t)] PV.one=true∧a≠[])∧R .normal [.list (l.map u1) .no,.ptr 0 0,.E,.bool false,.list a (.tok 1),.I (wI ((i:Int)+1))] [.cells c,.tok])) False) (R (.exit 0) b [.cells c]))→Holds (wpK TRR [] (fun o=>match o.dst with|some 30=>1|_=>0) (ai [1,1,0,1,0] (ag Tryz.f47)) [] (ak [1,2,4,5,6,7] b) [.cells c] (fun ex e H=>R ex (List.map e [1,2,4,5,6,7]) H)):Prop):=fun R h=>hoE h
theorem KC (w:List RwI) (m:Int) (l:List Int) (es:List (List PV)) (i:Nat):(by refine(?_:_→_→_→Prop) [PV.list (l.map u1) .no,.ptr 0 0,.E,.bool false,.list es (.tok 1),.I i] [PV.list (w.map csI) .no,.I m] (List.getD (l.map u1) (Int.toNat (i:Int)) []); exact fun b c d=>∀(R:Ex→List PV→ae→Prop),(br (decide ((i:Int)<(↑(List.length (l.map u1)):Int))) (InL (l.map u1) 1 (i:Int)∧br (true && aD [.int .u32] 0 d) (∃(w_1:List RwI) (m_1:Int) (t:Int),by refine(?_:_→Prop) [[PV.I (ff w_1 t)]]; exact fun a=>ah [.agg c,.U (cI d 0)] [.agg [.list (w_1.map csI) .no,.I m_1],.U t]∧w_1.length≤1000000∧br (!eT w_1 t) (R .ret b [.cells c,.tok]) (aG es a 1 8∧(List.all [.I (ff w_1 t)] PV.one=true∧a≠[])∧R .normal [.list (l.map u1) .no,.ptr 0 0,.E,.bool false,.list (es++a) (.tok 2),.I (wI ((i:Int)+1))] [.cells c,.dead,.tok])) False) (R (.exit 0) b [.cells c,.tok]))→Holds (wpK TRR [] (fun o=>match o.dst with|some 30=>1|_=>0) (ai [1,1,0,1,0] (ag Tryz.f47)) [] (ak [1,2,4,5,6,7] b) [.cells c,.tok] (fun ex e H=>R ex (List.map e [1,2,4,5,6,7]) H)):Prop):=fun R h=>hoE h
theorem FP {a b c:Bool} {X Y:Prop} (hx:(a && (b || c))=true→X) (hy:(a && (b || c))=false→Y):if(a == true)=true then(if(b == false)=true then(if c=true then X else Y) else X) else Y:=by
 cases a<;>cases b<;>cases c<;>first|exact hx rfl|exact hy rfl
theorem G1 {c:Mt}:∀(o:Nat) cs,([.cells (mtc c)]:ae)[o]?=some (.cells cs)→∀ x∈cs,Low 1 x:=kT (by intro ob ho; rcases List.mem_singleton.1 ho with rfl; exact gC c)
theorem L6 {k i:Int}:∀ v∈[.I k,.ptr 0 0,.E,.I i],Low 1 v:=by
 intro v hv
 simp only[List.mem_cons,List.not_mem_nil,or_false] at hv
 rcases hv with rfl|rfl|rfl|rfl
 ·exact .int _ _
 ·exact .ptr _ _ (by decide)
 ·exact mA
 ·exact .int _ _
def Nj:LSp:=fun e H Q=>∃(c:Mt) (k:Int),c.aa.length≤1000000∧ah (List.map e [1,2,5,6]) [.I k,.ptr 0 0,.E,.I 0]∧av H [.cells (mtc c)]∧Q (.exit 0) (ak [1,2,5,6] [.I k,.ptr 0 0,.list ((bc c.aa k).map pu1) .no,.I c.aa.length]) [.cells (mtc c),.dead]
theorem Hq:∀ e H Q,Nj e H Q→AwK Tryz.f46.ntmps (.loop (ai [1,1,0,1,0] (ag Tryz.f46))) Q e H:=by
 rintro e H Q ⟨c,k,hl,he,hH,hQ⟩
 have hH:H=_:=hH
 refine fk (f:=pu1) (acc:=fun i=>bc (c.aa.take i) k) (I:=fun i=>i≤c.aa.length) (m:=fun i=>c.aa.length-i) (hn:=fun o=>match o.dst with|some 38=>1|_=>0) aj (.nil _ _) (.nil _ _ _ _ _) [1,2,5,6] (fun T i=>[.I k,.ptr 0 0,T,.I i]) [.cells (mtc c)] (0:Nat)
  G1 (fun _ _ a _=>om a) (fun es i j _ h=> .same (.int _ _) (.same (.ptr _ _ (by simp)) (.row h (.same (.int _ _) .nil)))) (fun _ _=>L6) (Nat.zero_le _) rfl he hH ?_ ?_
 all_goals
  intro i hi ha
  have hi':i≤c.aa.length:=hi
  have hle:(bc (c.aa.take i) k).length≤i:=dI _ _ _
 ·refine LM c k i _ ?_
  simp only[au,dt,an,List.length_map,n7]
  by_cases h:i<c.aa.length
  ·rw[if_pos (by omega)]
   obtain⟨s,hsd⟩:∃ s,s=c.aa.getD i default:=⟨_,rfl⟩
   have hs:bc (c.aa.take (i+1)) k=bc (c.aa.take i) k++(if gH k s=true then [s] else []):=by rw[hsd]; exact eH default h
   simp only[getD_map default h,← hsd,ct0,ct1,ct3]
   refine⟨h,?_⟩
   rw[if_pos (by rfl)]
   refine FP (fun hc=>?_) (fun hc=>?_)
   ·rw[if_pos (show gH k s=true from hc)] at hs
    exact⟨aE (f:=pu1) (l:=[]) (by_:=4) (fun _=>rfl) s (by show(0+1)*4≤_; decide),one_row (f:=pu1) (fun _=>dy _) s,aP (i+1) (show c.aa.length-(i+1)<c.aa.length-i by omega) h hs (gF _ _) [_,.tok] 2 rfl rfl (by simp) (by rw[ha,ar h (by omega)]; rfl)⟩
   ·rw[if_neg (by rw[show gH k s=false from hc]; decide),List.append_nil] at hs
    exact ga (i+1) (show c.aa.length-(i+1)<c.aa.length-i by omega) h (hs.trans ha) [_] rfl (by rw[ar h (by omega)])
  ·rw[if_neg (by omega)]
   have:i=c.aa.length:=by omega
   subst this
   simp only[List.take_length] at ha
   rw[ha] at hQ
   exact bH (.cons (.refl _) (.cons (.refl _) (.cons (.list _ _) (.cons (.refl _) .nil)))) (dg _) hQ
 ·refine KF c k ((bc (c.aa.take i) k).map pu1) i _ ?_
  simp only[au,dt,an,List.length_map,n7]
  by_cases h:i<c.aa.length
  ·rw[if_pos (by omega)]
   obtain⟨s,hsd⟩:∃ s,s=c.aa.getD i default:=⟨_,rfl⟩
   have hs:bc (c.aa.take (i+1)) k=bc (c.aa.take i) k++(if gH k s=true then [s] else []):=by rw[hsd]; exact eH default h
   simp only[getD_map default h,← hsd,ct0,ct1,ct3]
   refine⟨h,?_⟩
   rw[if_pos (by rfl)]
   refine FP (fun hc=>?_) (fun hc=>?_)
   ·rw[if_pos (show gH k s=true from hc)] at hs
    exact⟨aE (f:=pu1) (by_:=4) (fun _=>rfl) (bc (c.aa.take i) k) s (by omega),one_row (f:=pu1) (fun _=>dy _) s,aP (i+1) (show c.aa.length-(i+1)<c.aa.length-i by omega) h hs (gF _ _) [.dead,_,.tok] 3 rfl rfl (by simp) (by rw[ar h (by omega),List.map_append]; rfl)⟩
   ·rw[if_neg (by rw[show gH k s=false from hc]; decide),List.append_nil] at hs
    exact aP (i+1) (show c.aa.length-(i+1)<c.aa.length-i by omega) h hs ha [.tok,_] 1 rfl rfl (by simp) (by rw[ar h (by omega)])
  ·rw[if_neg (by omega)]
   have:i=c.aa.length:=by omega
   subst this
   simp only[List.take_length]
   exact bH (.cons (.refl _) (.cons (.refl _) (.cons (.list _ _) (.cons (.refl _) .nil)))) (dK [.cells (mtc c)] .tok) hQ
theorem K0 {l:List Int} {i:Int}:∀ v∈[.list (l.map u1) .no,.ptr 0 0,.E,.bool false,.E,.I i],Low 1 v:=by
 intro v hv
 simp only[List.mem_cons,List.not_mem_nil,or_false] at hv
 rcases hv with rfl|rfl|rfl|rfl|rfl|rfl
 ·exact bq bO _
 ·exact .ptr _ _ (by decide)
 ·exact mA
 ·exact .bool _
 ·exact mA
 ·exact .int _ _
def Nz:LSp:=fun e H Q=>∃(w:List RwI) (m:Int) (l:List Int),l.length≤1000000∧w.length≤1000000∧ah (List.map e [1,2,4,5,6,7]) [.list (l.map u1) .no,.ptr 0 0,.E,.bool false,.E,.I 0]∧av H [.cells [.list (w.map csI) .no,.I m]]∧((∀ p∈l,eT w p=true)→Q (.exit 0) (ak [1,2,4,5,6,7] [.list (l.map u1) .no,.ptr 0 0,.E,.bool false,.list ((l.map (ff w)).map i1) .no,.I l.length]) ([.cells [.list (w.map csI) .no,.I m]]++[.dead]))∧(¬ (∀ p∈l,eT w p=true)→∀(es:List (List PV)) (i:Int),Q .ret (ak [1,2,4,5,6,7] [.list (l.map u1) .no,.ptr 0 0,.E,.bool false,.list es .no,.I i]) ([.cells [.list (w.map csI) .no,.I m]]++[.dead]))
theorem GQ:∀ e H Q,Nz e H Q→AwK Tryz.f47.ntmps (.loop (ai [1,1,0,1,0] (ag Tryz.f47))) Q e H:=by
 rintro e H Q ⟨w,m,l,hl,hwl,he,hH,hQ0,hQ1⟩
 have hH:H=_:=hH
 refine fk (f:=i1) (acc:=fun i=>(l.take i).map (ff w)) (I:=fun i=>i≤l.length∧∀ p∈l.take i,eT w p=true) (m:=fun i=>l.length-i) (hn:=fun o=>match o.dst with|some 30=>1|_=>0) aj Bq (.nil _ _ _ _ _) [1,2,4,5,6,7] (fun T i=>[.list (l.map u1) .no,.ptr 0 0,.E,.bool false,T,.I i]) [.cells [.list (w.map csI) .no,.I m]] (0:Nat)
  (kT (by intro ob ho; rcases List.mem_singleton.1 ho with rfl; exact fi w m)) (fun _ _ a _=>iL a) (fun es i j _ h=> .same (bq bO _) (.same (.ptr _ _ (by simp)) (.same mA (.same (.bool _) (.row h (.same (.int _ _) .nil)))))) (fun _ _=>K0) ⟨Nat.zero_le _,fun _ h=>nomatch h⟩ rfl he hH ?_ ?_
 all_goals
  rintro i ⟨hi,hall⟩ ha
  have hbl:((l.take i).map (ff w)).length≤1000000:=by rw[List.length_map,List.length_take]; omega
 ·refine Ks w m l i _ ?_
  simp only[au,dt,an,List.length_map,dQ]
  by_cases h:i<l.length
  ·rw[if_pos (by omega)]
   obtain⟨p,hp⟩:∃ p,p=l.getD i 0:=⟨_,rfl⟩
   have cu:∀ z:Int,cI (u1 z) 0=z:=fun _=>rfl
   have hs:(l.take (i+1)).map (ff w)=(l.take i).map (ff w)++[ff w p]:=by rw[aJ 0 h,← hp,List.map_append]; rfl
   simp only[getD_map 0 h,← hp,cu]
   refine⟨h,?_⟩
   rw[if_pos (by rfl)]
   refine⟨w,m,p,rfl,hwl,?_⟩
   by_cases c:eT w p=true
   ·rw[if_neg (by rw[c]; decide)]
    have hall2:∀ q∈l.take (i+1),eT w q=true:=by
     intro q hq
     rw[aJ 0 h,← hp] at hq
     rcases List.mem_append.1 hq with k|k
     ·exact hall q k
     ·rw[List.mem_singleton.1 k]; exact c
    exact⟨aE (f:=i1) (l:=[]) (by_:=8) (fun _=>rfl) (ff w p) (by show(0+1)*8≤_; decide),one_row (f:=i1) fI (ff w p),aP (i+1) (show l.length-(i+1)<l.length-i by omega) ⟨h,hall2⟩ hs (gF _ _) [.tok] 1 rfl rfl (by simp) (by rw[ha,ar h (by omega)]; rfl)⟩
   ·rw[if_pos (by rw[eq_false_of_ne_true c]; rfl)]
    exact⟨_,_,(.cons (.refl _) (.cons (.refl _) (.cons (.refl _) (.cons (.refl _) (.cons (.list _ _) (.cons (.refl _) .nil)))))),dg _,hQ1 (fun hA=>c (hA p (by rw[hp]; exact aY h))) _ _⟩
  ·rw[if_neg (by omega)]
   have:i=l.length:=by omega
   subst this
   simp only[List.take_length] at ha hall
   have hQ0:=hQ0 hall
   rw[ha] at hQ0
   exact bH (.cons (.refl _) (.cons (.refl _) (.cons (.refl _) (.cons (.refl _) (.cons (.list _ _) (.cons (.refl _) .nil)))))) (dg _) hQ0
 ·refine KC w m l (((l.take i).map (ff w)).map i1) i _ ?_
  simp only[au,dt,an,List.length_map,dQ]
  by_cases h:i<l.length
  ·rw[if_pos (by omega)]
   obtain⟨p,hp⟩:∃ p,p=l.getD i 0:=⟨_,rfl⟩
   have cu:∀ z:Int,cI (u1 z) 0=z:=fun _=>rfl
   have hs:(l.take (i+1)).map (ff w)=(l.take i).map (ff w)++[ff w p]:=by rw[aJ 0 h,← hp,List.map_append]; rfl
   simp only[getD_map 0 h,← hp,cu]
   refine⟨h,?_⟩
   rw[if_pos (by rfl)]
   refine⟨w,m,p,rfl,hwl,?_⟩
   by_cases c:eT w p=true
   ·rw[if_neg (by rw[c]; decide)]
    have hall2:∀ q∈l.take (i+1),eT w q=true:=by
     intro q hq
     rw[aJ 0 h,← hp] at hq
     rcases List.mem_append.1 hq with k|k
     ·exact hall q k
     ·rw[List.mem_singleton.1 k]; exact c
    exact⟨aE (f:=i1) (by_:=8) (fun _=>rfl) ((l.take i).map (ff w)) (ff w p) (by omega),one_row (f:=i1) fI (ff w p),aP (i+1) (show l.length-(i+1)<l.length-i by omega) ⟨h,hall2⟩ hs (gF _ _) [.dead,.tok] 2 rfl rfl (by simp) (by rw[ar h (by omega),List.map_append]; rfl)⟩
   ·rw[if_pos (by rw[eq_false_of_ne_true c]; rfl)]
    exact⟨_,_,(.cons (.refl _) (.cons (.refl _) (.cons (.refl _) (.cons (.refl _) (.cons (.list _ _) (.cons (.refl _) .nil)))))),dK [.cells [.list (w.map csI) .no,.I m]] .tok,hQ1 (fun hA=>c (hA p (by rw[hp]; exact aY h))) _ _⟩
  ·rw[if_neg (by omega)]
   have:i=l.length:=by omega
   subst this
   simp only[List.take_length] at hall ⊢
   exact bH (.cons (.refl _) (.cons (.refl _) (.cons (.refl _) (.cons (.refl _) (.cons (.list _ _) (.cons (.refl _) .nil)))))) (dK [.cells [.list (w.map csI) .no,.I m]] .tok) (hQ0 hall)
theorem K6 (c:Mt) (k:Int):∀(K:PV→Prop),(∃(c_1:Mt) (k_1:Int),c_1.aa.length≤1000000∧ah [.I k,.ptr 0 0,.E,.I 0] [.I k_1,.ptr 0 0,.E,.I 0]∧av [.cells [.U c.id,.I c.md,.U c.ins,.list (c.rows.map rrc) .no,.list (c.aa.map stc) .no]] [.cells [.U c_1.id,.I c_1.md,.U c_1.ins,.list (c_1.rows.map rrc) .no,.list (c_1.aa.map stc) .no]]∧K (.list (List.map pu1 (bc c_1.aa k_1)) .no))→AcK 46 [c.pv,.I k] [] (fun x _=>K x):=fun K h=>acW (T:=[]) (L:=[([1,1,0,1,0],Nj)]) (fun o=>match o.dst with|some 38=>1|_=>0) Tryz.func46 (aX.nil _ _) (.cons suE Hq (.nil _ _ _ _ _)) h
theorem KX (w:List RwI) (m:Int) (l:List Int):∀(K:PV→Prop),(∃(w_1:List RwI) (m_1:Int) (l_1:List Int),l_1.length≤1000000∧w_1.length≤1000000∧ah [.list (l.map u1) .no,.ptr 0 0,.E,.bool false,.E,.I 0] [.list (l_1.map u1) .no,.ptr 0 0,.E,.bool false,.E,.I 0]∧av [.cells [.list (w.map csI) .no,.I m]] [.cells [.list (w_1.map csI) .no,.I m_1]]∧((∀(p:Int),p∈l_1→eT w_1 p=true)→K (.tup [.list (List.map i1 (List.map (ff w_1) l_1)) .no,.bool true]))∧((¬∀(p:Int),p∈l_1→eT w_1 p=true)→∀(_:List (List PV)),∀(_:Int),K (.tup [.E,.bool false])))→AcK 47 [.agg [.list (w.map csI) .no,.I m],.list (l.map u1) .no] [] (fun x _=>K x):=fun K h=>acW (T:=TRR) (L:=[([1,1,0,1,0],Nz)]) (fun o=>match o.dst with|some 30=>1|_=>0) Tryz.func47 (Bq) (.cons suE GQ (.nil _ _ _ _ _)) h
def JX (args:List PV) (K:PV→Prop):Prop:=∃(c:Mt) (t1 t2:Tail) (k:Int),ah args [.agg [.U c.id,.I c.md,.U c.ins,.list (c.rows.map rrc) t1,.list (c.aa.map stc) t2],.I k]∧c.aa.length≤1000000∧K (.list (((bc c.aa k).map Se.pl).map u1) .no)
theorem MH:SpK 46 (.pure JX):=by
 rintro args K ⟨c,t1,t2,k,he,hl,hk⟩
 have he:args=_:=he
 subst he
 have e:((bc c.aa k).map Se.pl).map u1=(bc c.aa k).map pu1:=by rw[List.map_map]; rfl
 rw[e] at hk
 exact bu aj (.cons gW (.cons (.refl _) .nil)) (bn c.low (.int _ _)) (bq om _) (K6 c k (fun x=>x = .list ((bc c.aa k).map pu1) .no) ⟨c,k,hl,rfl,rfl,rfl⟩) hk
def dw (w:List RwI) (l:List Int):List Int×Bool:=if l.all (eT w)=true then(l.map (ff w),true) else([],false)
def CM (args:List PV) (K:PV→Prop):Prop:=∃(w:List RwI) (m:Int) (l:List Int) (t:Tail),ah args [.agg [.list (w.map csI) .no,.I m],.list (l.map u1) t]∧l.length≤1000000∧w.length≤1000000∧(let v:=dw w l; K (.tup [.list (v.1.map i1) .no,.bool v.2]))
theorem Ez:SpK 47 (.pure CM):=by
 rintro args K ⟨w,m,l,t,he,hl,hwl,hk⟩
 have he:args=_:=he
 subst he
 refine bu aj (.cons (.refl _) (.cons (.list _ _) .nil)) (bn (ck w m) (bq bO _)) (.tup _ (bn (bq iL _) (.bool _))) (a9 (KX w m l (fun x=>∃ y,Wk x y∧y = .tup [.list ((dw w l).1.map i1) .no,.bool (dw w l).2]) ⟨w,m,l,hl,hwl,rfl,rfl,fun hA=>⟨_,.refl _,?_⟩,fun hA es i=>⟨.tup [.list [] .no,.bool false],.tup (.cons (.list _ _) (.cons (.refl _) .nil)),?_⟩⟩)) hk
 ·unfold dw; rw[if_pos (List.all_eq_true.2 hA)]
 ·unfold dw; rw[if_neg (fun k=>hA (List.all_eq_true.1 k))]; rfl
def El (args:List PV) (K:PV→Prop):Prop:=∃(a b:List Int) (r:Int),ah args [.list (a.map i1) .no,.list (b.map i1) .no,.I r]∧a.length≤1000000∧b.length≤1000000∧(let v:=Elo.upd a b r; K (.tup [.list (v.1.map i1) .no,.list (v.2.1.map i1) .no,.I v.2.2]))
theorem Gs:SpK 48 (.pure El):=by
 rintro args K ⟨a,b,r,he,ha,hb,hk⟩
 have he:args=_:=he
 subst he
 exact Elo.u9 _ K ⟨a,b,rfl,rfl,by unfold Elo.cn; omega,by unfold Elo.cn; omega,NT.no,NT.no,hk⟩
def TRJ:Tab:=[(46,.pure JX),(47,.pure CM),(48,.pure El)]
theorem MI:TbK TRJ:= .cons MH (.cons Ez (.cons Gs (.nil _ _)))
theorem Hi (w:List RwI) (m:Int) (c:Mt) (r:Int) (q b y:List Int):∀(R:Ex→List PV→ae→Prop),(aG [] [] 1 4∧([]:List (List PV))=[]∧aG [] (q.map u1) 1 4∧aG [] [] 1 8∧([]:List (List PV))=[]∧aG [] (b.map i1) 1 8∧aG [] [] 1 8∧([]:List (List PV))=[]∧aG [] (y.map i1) 1 8∧R .normal [.ptr 2 0,.I 0] [.cells [.list (w.map csI) .no,.I m],.cells [.U c.id,.I c.md,.U c.ins,.list (c.rows.map rrc) .no,.list (c.aa.map stc) .no],.cells [.U c.id,.U c.ins,.I r,.list ([]++q.map u1) .no,.list ([]++b.map i1) .no,.list ([]++y.map i1) .no]])→Holds (wpK [] [] (fun o=>match o.dst with|some 74=>101001|some 76=>101201|some 80|some 85|some 90=>9|some 82|some 87|some 92=>0|some _=>0|none=>201006) (b5 [1,1,1,1,1,1,1,1,0] (ag Tryz.f17)) [] (ak [2,4,6,8,9,10,12,14,15] [.I r,.ptr 1 0,.ptr 2 0,.list [] .no,.list (q.map u1) .no,.list [] .no,.list (b.map i1) .no,.list [] .no,.list (y.map i1) .no]) [.cells [.list (w.map csI) .no,.I m],.cells (mtc c),.cells [.U 0,.U 0,.I 0,.E,.E,.E]] (fun ex e H=>R ex (List.map e [6,7]) H)):=fun R h=>hoE h
theorem HI (w:List RwI) (m:Int) (c:Mt) (r:Int) (p a x:List Int):∀(R:Ex→List PV→ae→Prop),(aG [] (p.map u1) 1 4∧aG ([]++p.map u1) [] 1 4∧([]:List (List PV))=[]∧aG [] (a.map i1) 1 8∧aG ([]++a.map i1) [] 1 8∧([]:List (List PV))=[]∧aG [] (x.map i1) 1 8∧aG ([]++x.map i1) [] 1 8∧([]:List (List PV))=[]∧R .normal [.ptr 2 0,.I 0] [.cells [.list (w.map csI) .no,.I m],.cells [.U c.id,.I c.md,.U c.ins,.list (c.rows.map rrc) .no,.list (c.aa.map stc) .no],.cells [.U c.id,.U c.ins,.I r,.list ([]++p.map u1) .no,.list ([]++a.map i1) .no,.list ([]++x.map i1) .no]])→Holds (wpK [] [] (fun o=>match o.dst with|some 74=>101001|some 76=>101201|some 80|some 85|some 90=>0|some 82|some 87|some 92=>9|some _=>0|none=>201006) (b5 [1,1,1,1,1,1,1,1,0] (ag Tryz.f17)) [] (ak [2,4,6,8,9,10,12,14,15] [.I r,.ptr 1 0,.ptr 2 0,.list (p.map u1) .no,.list [] .no,.list (a.map i1) .no,.list [] .no,.list (x.map i1) .no,.list [] .no]) [.cells [.list (w.map csI) .no,.I m],.cells (mtc c),.cells [.U 0,.U 0,.I 0,.E,.E,.E]] (fun ex e H=>R ex (List.map e [6,7]) H)):=fun R h=>hoE h
def mrg:Nat→List Nat→List Nat→List (List Nat)
 | n+1,x::a,y::b=>(mrg n a (y::b)).map (x :: ·)++(mrg n (x::a) b).map (y :: ·)
 | _,a,b=>[a++b]
def F14:List (List Nat):=((mrg 4 [7,9] [12,14]).flatMap fun l=>mrg 6 l [17,19]).map fun q=>[0,1,2,3,4,5,6,8,10,11,13,15,16,18]++q++[20,21,22]
def Mv (st:Nat→Prop→Prop) (B:Prop):List Nat→Prop
 | []=>B
 | i::l=>st i (Mv st B l)
theorem yh {st:Nat→Prop→Prop} {B:Prop} (h:∀ i acc,acc→st i acc) (hB:B):∀ l,Mv st B l
 | []=>hB
 | i::l=>h i _ (yh h hB l)
def apC (es ys:List (List PV)) (by_:Nat) (acc:Prop):Prop:=aG es ys 1 by_∧(ys.flatten.all PV.one=true∧ys≠[])∧acc
def stJ (p q a b x y:List Int) (i:Nat) (acc:Prop):Prop:=match i with
 | 7=>apC [] (p.map u1) 4 acc
 | 9=>apC (p.map u1) (q.map u1) 4 acc
 | 12=>apC [] (a.map i1) 8 acc
 | 14=>apC (a.map i1) (b.map i1) 8 acc
 | 17=>apC [] (x.map i1) 8 acc
 | 19=>apC (x.map i1) (y.map i1) 8 acc
 | _=>acc
theorem pF {f:Int→List PV} {sz by_:Nat} (hf:∀ a,(f a).length=sz) (l k:List Int) (h:(l.length+k.length)*by_≤140737488355328):aG (l.map f) (k.map f) sz by_:=⟨b8 hf l,b8 hf k,by rw[List.length_map,List.length_map]; exact h⟩
theorem all_map {f:Int→List PV} (h1:∀ a,∀ y∈f a,y.one=true) (l:List Int):(l.map f).flatten.all PV.one=true:=by
 rw[List.all_eq_true]
 intro y hy
 obtain⟨e,he,hy⟩:=List.mem_flatten.1 hy
 obtain⟨a,_,rfl⟩:=List.mem_map.1 he
 exact h1 a y hy
theorem mF {f:Int→List PV} {by_:Nat} {acc:Prop} (hf:∀ a,(f a).length=1) (h1:∀ a,∀ y∈f a,y.one=true) (l k:List Int) (hb:by_≤8) (hl:l.length≤1000000) (hk:k.length≤1000000) (hn:k≠[]) (h:acc):apC (l.map f) (k.map f) by_ acc:=
 ⟨pF hf l k (Nat.le_trans (Nat.mul_le_mul (show l.length+k.length≤2000000 by omega) hb) (by decide)),⟨all_map h1 k,fun e=>hn (List.map_eq_nil_iff.1 e)⟩,h⟩
def JN:LSp:=fun e H Q=>∃(w:List RwI) (m:Int) (c:Mt) (r:Int) (p q a b x y:List Int),p.length≤1000000∧q.length≤1000000∧a.length=p.length∧x.length=p.length∧b.length=q.length∧y.length=q.length∧ah (List.map e [2,4,6,8,9,10,12,14,15]) [.I r,.ptr 1 0,.ptr 2 0,.list (p.map u1) .no,.list (q.map u1) .no,.list (a.map i1) .no,.list (b.map i1) .no,.list (x.map i1) .no,.list (y.map i1) .no]∧av H [.cells [.list (w.map csI) .no,.I m],.cells (mtc c),.cells [.U 0,.U 0,.I 0,.E,.E,.E]]∧Q .normal (ak [6,7] [.ptr 2 0,.I 0]) [.cells [.list (w.map csI) .no,.I m],.cells (mtc c),.cells (vdC ⟨c.id,c.ins,r,p++q,a++b,x++y⟩)]
theorem Cm:mD (b5 [1,1,1,1,1,1,1,1,0] (ag Tryz.f17))=true:=by kernel_rfl
def Kr:Oper→Nat:=fun o=>match o.dst with|some 74=>101001|some 76=>101201|some 80|some 85|some 90=>1|some 82|some 87|some 92=>1|some _=>0|none=>201006
theorem Ie:tR (opsOf (b5 [1,1,1,1,1,1,1,1,0] (ag Tryz.f17))) Kr [7,9,12,14,17,19] F14=true:=by kernel_rfl
theorem Ma (w:List RwI) (m:Int) (c:Mt) (r:Int) (p q a b x y:List Int) (R:List PV→ae→Prop):F14.map (fun is=>iV br Tryz.prog gl [] Kr true (opsOf (b5 [1,1,1,1,1,1,1,1,0] (ag Tryz.f17))) (eS (opsOf (b5 [1,1,1,1,1,1,1,1,0] (ag Tryz.f17))) is) (ak [2,4,6,8,9,10,12,14,15] [.I r,.ptr 1 0,.ptr 2 0,.list (p.map u1) .no,.list (q.map u1) .no,.list (a.map i1) .no,.list (b.map i1) .no,.list (x.map i1) .no,.list (y.map i1) .no]) [.cells [.list (w.map csI) .no,.I m],.cells (mtc c),.cells [.U 0,.U 0,.I 0,.E,.E,.E]] (fun e' H'=>sr ([.cells [.list (w.map csI) .no,.I m],.cells (mtc c),.cells [.U 0,.U 0,.I 0,.E,.E,.E]]:ae).length R (List.map (ak [6,7] (List.map e' [6,7])) [6,7]) H'))=F14.map (Mv (stJ p q a b x y) ((3:Nat)≤9∧R [.ptr 2 0,.I 0] [.cells [.list (w.map csI) .no,.I m],.cells (mtc c),.cells [.U c.id,.U c.ins,.I r,.list (p.map u1++q.map u1) .no,.list (a.map i1++b.map i1) .no,.list (x.map i1++y.map i1) .no]])):=by kernel_rfl
set_option maxRecDepth 10000 in
theorem Eh:∀ e H Q,JN e H Q→AwK Tryz.f17.ntmps (b5 [1,1,1,1,1,1,1,1,0] (ag Tryz.f17)) Q e H:=by
 rintro e H Q ⟨w,m,c,r,p,q,a,b,x,y,hp,hq,la,lx,lb,ly,he,hH,hQ⟩
 have ua:=fun(l k:List Int) (h:l.length+k.length≤2000000)=>pF (by_:=4) da l k (by omega)
 have ub:=fun(l k:List Int) (h:l.length+k.length≤2000000)=>pF (by_:=8) gJ l k (by omega)
 by_cases c1:p=[]
 ·subst c1
  have e1:a=[]:=List.eq_nil_of_length_eq_zero la
  have e2:x=[]:=List.eq_nil_of_length_eq_zero lx
  subst e1; subst e2
  refine dj (T:=[]) (slots:=[2,4,6,8,9,10,12,14,15]) (outs:=[6,7]) (hn:=fun o=>match o.dst with|some 74=>101001|some 76=>101201|some 80|some 85|some 90=>9|some 82|some 87|some 92=>0|some _=>0|none=>201006) (.nil _ _) (.nil _ _ _ _ _) he hH (Hi w m c r q b y (fun ex vs H'=>Q ex (ak [6,7] vs) H') ?_)
  exact⟨ua [] [] (by simp),rfl,ua [] q (by simp; omega),ub [] [] (by simp),rfl,ub [] b (by simp; omega),ub [] [] (by simp),rfl,ub [] y (by simp; omega),hQ⟩
 by_cases c2:q=[]
 ·subst c2
  have e1:b=[]:=List.eq_nil_of_length_eq_zero lb
  have e2:y=[]:=List.eq_nil_of_length_eq_zero ly
  subst e1; subst e2
  rw[List.append_nil,List.append_nil,List.append_nil] at hQ
  refine dj (T:=[]) (slots:=[2,4,6,8,9,10,12,14,15]) (outs:=[6,7]) (hn:=fun o=>match o.dst with|some 74=>101001|some 76=>101201|some 80|some 85|some 90=>0|some 82|some 87|some 92=>9|some _=>0|none=>201006) (.nil _ _) (.nil _ _ _ _ _) he hH (HI w m c r p a x (fun ex vs H'=>Q ex (ak [6,7] vs) H') ?_)
  exact⟨ua [] p (by simp; omega),ua p [] (by simp; omega),rfl,ub [] a (by simp; omega),ub a [] (by simp; omega),rfl,ub [] x (by simp; omega),ub x [] (by simp; omega),rfl,hQ⟩
 have ne:∀ {l k:List Int},l.length=k.length→k≠[]→l≠[]:=fun h h2 h3=>h2 (List.eq_nil_of_length_eq_zero (by rw[← h,h3]; rfl))
 refine we aj (T:=[]) (.nil _ _) (hn:=Kr) (slots:=[2,4,6,8,9,10,12,14,15]) (outs:=[6,7]) [7,9,12,14,17,19] F14 (fun vs H2=>vs=[.ptr 2 0,.I 0]∧H2=[.cells [.list (w.map csI) .no,.I m],.cells (mtc c),.cells [.U c.id,.U c.ins,.I r,.list (p.map u1++q.map u1) .no,.list (a.map i1++b.map i1) .no,.list (x.map i1++y.map i1) .no]]) _ Cm Ie he hH (Ma w m c r p q a b x y _) (fun is _=>yh (fun i acc h=>?_) ⟨by decide,rfl,rfl⟩ is) ?_
 ·unfold stJ
  split
  ·exact mF da dy [] p (by decide) (Nat.zero_le _) hp c1 h
  ·exact mF da dy p q (by decide) hp hq c2 h
  ·exact mF gJ fI [] a (by decide) (Nat.zero_le _) (by omega) (ne la c1) h
  ·exact mF gJ fI a b (by decide) (by omega) (by omega) (ne lb c2) h
  ·exact mF gJ fI [] x (by decide) (Nat.zero_le _) (by omega) (ne lx c1) h
  ·exact mF gJ fI x y (by decide) (by omega) (by omega) (ne ly c2) h
  ·exact h
 ·rintro _ _ ⟨rfl,rfl⟩
  rw[← List.map_append,← List.map_append,← List.map_append]
  refine⟨fun o cs ho z hz=> .low ?_,fun v hv=>?_,hQ⟩
  ·have k1:=(List.getElem?_eq_some_iff.1 ho).1
   simp at k1
   have:o=0∨o=1∨o=2:=by omega
   rcases this with rfl|rfl|rfl<;>cases ho
   ·exact fi w m z hz
   ·exact gC c z hz
   ·exact fB ⟨c.id,c.ins,r,p++q,a++b,x++y⟩ z hz
  ·simp only[List.mem_cons,List.not_mem_nil,or_false] at hv
   rcases hv with rfl|rfl
   ·exact .ptr _ _ (by show(2:Nat)<3; decide)
   ·exact .low (.int _ _)
theorem Mf (w:List RwI) (m:Int) (c:Mt) (r:Int):(by refine(?_:_→_→_→Prop) [PV.U 0,.U 0,.I 0,.E,.E,.E] [PV.U c.id,.I c.md,.U c.ins,.list (c.rows.map rrc) .no,.list (c.aa.map stc) .no] [PV.list (w.map csI) .no,.I m]; exact fun o s u=>by refine(?_:_→Prop) [Ob.cells u,.cells s,.cells o]; exact fun v=>∀(K:PV→Prop),by refine(?_:_→_→Prop) (K (.tup [.agg o,.I 12])) (K (.tup [.agg o,.I 2])); exact fun j n=>(br (decide (r<0) == false) (br (decide (r>2)) n (∃(c_1:Mt) (t1:Tail) (t2:Tail) (k:Int),by refine(?_:_→Prop) (PV.list (List.map u1 (List.map Se.pl (bc c_1.aa k))) .no); exact fun i=>ah [.agg s,.I 1] [.agg [.U c_1.id,.I c_1.md,.U c_1.ins,.list (c_1.rows.map rrc) t1,.list (c_1.aa.map stc) t2],.I k]∧c_1.aa.length≤1000000∧∃(c_2:Mt) (t1:Tail) (t2:Tail) (k_1:Int),by refine(?_:_→Prop) (PV.list (List.map u1 (List.map Se.pl (bc c_2.aa k_1))) .no); exact fun h=>ah [.agg s,.I 2] [.agg [.U c_2.id,.I c_2.md,.U c_2.ins,.list (c_2.rows.map rrc) t1,.list (c_2.aa.map stc) t2],.I k_1]∧c_2.aa.length≤1000000∧∃(w_1:List RwI) (m_1:Int) (l:List Int) (t:Tail),by refine(?_:_→Prop) (List.map i1 (Prod.fst (dw w_1 l))); exact fun g=>ah [.agg u,i] [.agg [.list (w_1.map csI) .no,.I m_1],.list (l.map u1) t]∧l.length≤1000000∧w_1.length≤1000000∧∃(w_2:List RwI) (m_2:Int) (l_1:List Int) (t:Tail),by refine(?_:_→Prop) (List.map i1 (Prod.fst (dw w_2 l_1))); exact fun f=>by refine(?_:_→Prop) (∃(w_3:List RwI) (m_3:Int) (c_3:Mt) (r_1:Int) (p:List Int) (q:List Int) (a:List Int) (b:List Int) (x:List Int) (y:List Int),p.length≤1000000∧q.length≤1000000∧a.length=p.length∧x.length=p.length∧b.length=q.length∧y.length=q.length∧ah [.I r,.ptr 1 0,.ptr 2 0,i,h,.list g .no,.list f .no,.list g .no,.list f .no] [.I r_1,.ptr 1 0,.ptr 2 0,.list (p.map u1) .no,.list (q.map u1) .no,.list (a.map i1) .no,.list (b.map i1) .no,.list (x.map i1) .no,.list (y.map i1) .no]∧av v [.cells [.list (w_3.map csI) .no,.I m_3],.cells [.U c_3.id,.I c_3.md,.U c_3.ins,.list (c_3.rows.map rrc) .no,.list (c_3.aa.map stc) .no],.cells o]∧K (.tup [.agg [.U c_3.id,.U c_3.ins,.I r_1,.list (List.map u1 (p++q)) .no,.list (List.map i1 (a++b)) .no,.list (List.map i1 (x++y)) .no],.I 0])); exact fun e=>ah [.agg u,h] [.agg [.list (w_2.map csI) .no,.I m_2],.list (l_1.map u1) t]∧l_1.length≤1000000∧w_2.length≤1000000∧br ((!Prod.snd (dw w_1 l)) == false) (br (!Prod.snd (dw w_2 l_1)) j (br (decide ((↑(List.length g):Int)>0) == true) (br (decide ((↑(List.length f):Int)>0)) (∃(a:List Int) (b:List Int) (r_1:Int),by refine(?_:_→Prop) (Prod.snd (Elo.upd a b r_1)); exact fun d=>ah [.list g .no,.list f .no,.I r] [.list (a.map i1) .no,.list (b.map i1) .no,.I r_1]∧a.length≤1000000∧b.length≤1000000∧br (Prod.snd d != 0) (K (.tup [.agg o,.I (Prod.snd d)])) (∃(w_3:List RwI) (m_3:Int) (c_3:Mt) (r_2:Int) (p:List Int) (q:List Int) (a_1:List Int) (b_1:List Int) (x:List Int) (y:List Int),p.length≤1000000∧q.length≤1000000∧a_1.length=p.length∧x.length=p.length∧b_1.length=q.length∧y.length=q.length∧ah [.I r,.ptr 1 0,.ptr 2 0,i,h,.list g .no,.list f .no,.list (List.map i1 (Prod.fst (Elo.upd a b r_1))) .no,.list (List.map i1 (Prod.fst d)) .no] [.I r_2,.ptr 1 0,.ptr 2 0,.list (p.map u1) .no,.list (q.map u1) .no,.list (a_1.map i1) .no,.list (b_1.map i1) .no,.list (x.map i1) .no,.list (y.map i1) .no]∧av v [.cells [.list (w_3.map csI) .no,.I m_3],.cells [.U c_3.id,.I c_3.md,.U c_3.ins,.list (c_3.rows.map rrc) .no,.list (c_3.aa.map stc) .no],.cells o]∧K (.tup [.agg [.U c_3.id,.U c_3.ins,.I r_2,.list (List.map u1 (p++q)) .no,.list (List.map i1 (a_1++b_1)) .no,.list (List.map i1 (x++y)) .no],.I 0]))) e) e)) j)) n)→AcK 17 [.agg u,c.pv,.I r] [] (fun x _=>K x):Prop):=fun K h=>acW (T:=TRJ) (L:=[([1,1,1,1,1,1,1,1,0],JN)]) (fun o=>match o.dst with|some 26=>1|some 28=>1|some 31=>1|some 37=>1|_=>0) Tryz.func17 (MI) (.cons atE Eh (.nil _ _ _ _ _)) h
namespace Elo
theorem zJ {a b:List Int} {r:Int} (h:(upd a b r).2.2=0):(1≤a.length∧a.length≤4)∧(1≤b.length∧b.length≤4)∧bM a=true∧bM b=true∧(0≤r∧r≤2)∧
  upd a b r=(shd a (stk (dx a) (dx b) (mnI a.length b.length) r),shd b (-(stk (dx a) (dx b) (mnI a.length b.length) r)),0):=by
 have e:=h
 unfold upd at e
 by_cases c:a.length<1∨b.length<1∨a.length>4∨b.length>4
 ·rw[if_pos c] at e; simp at e
 ·rw[if_neg c] at e
  by_cases d:bM a=false∨bM b=false∨r<0∨r>2
  ·rw[if_pos d] at e; simp at e
  ·refine⟨by omega,by omega,?_,?_,by omega,?_⟩
   ·cases hq:bM a
    ·exact absurd (.inl hq) d
    ·rfl
   ·cases hq:bM b
    ·exact absurd (.inr (.inl hq)) d
    ·rfl
   ·unfold upd; rw[if_neg c,if_neg d]
end Elo
theorem sq {l w:List RwI} {m:Int} (h:bY l w m):eT w=has l:=funext fun t=>h.Lf t
theorem Ip {l w:List RwI} {m:Int} (h:bY l w m):ff w=bF l:=funext fun t=>h.M2 t
def J4 (args:List PV) (K:PV→Prop):Prop:=∃(l w:List RwI) (m:Int) (c:Mt) (t1 t2:Tail) (r:Int),ah args [.agg [.list (w.map csI) .no,.I m],.agg [.U c.id,.I c.md,.U c.ins,.list (c.rows.map rrc) t1,.list (c.aa.map stc) t2],.I r]∧bY l w m∧c.aa.length≤100000∧
 (let v:=bi l c r; K (.tup [.agg [.U v.1.m,.U v.1.i,.I v.1.r,.list (v.1.ps.map u1) .no,.list (v.1.old.map i1) .no,.list (v.1.new.map i1) .no],.I v.2]))
theorem hY {l w:List RwI} {m:Int} (h:bY l w m):w.length≤1000000:=by rw[h.len]; exact h.ok.len
theorem rZ {l w:List RwI} {m:Int} (h:bY l w m) (s:List Se) (k:Int):bD l s k=([],[],12)∧dw w ((bc s k).map Se.pl)=([],false)∨bD l s k=((bc s k).map Se.pl,(dw w ((bc s k).map Se.pl)).1,0)∧dw w ((bc s k).map Se.pl)=(((bc s k).map Se.pl).map (bF l),true):=by
 unfold dw bD
 rw[sq h,Ip h,List.all_map]
 by_cases c:(bc s k).all (fun x=>has l x.pl)=true
 ·right
  rw[if_pos c,if_pos (show(bc s k).all (has l ∘ Se.pl)=true from c),List.map_map]
  exact⟨rfl,rfl⟩
 ·left
  rw[if_neg c,if_neg (show ¬ (bc s k).all (has l ∘ Se.pl)=true from c)]
  exact⟨rfl,rfl⟩
theorem Le:SpK 17 (.pure J4):=by
 rintro args K ⟨l,w,m,c,t1,t2,r,he,hl,hc,hk⟩
 have he:args=_:=he
 subst he
 have hw:=hY hl
 refine bu aj (.cons (.refl _) (.cons gW (.cons (.refl _) .nil))) (dn (ck w m) c.low (.int _ _)) (oG (bi l c r)) (a9 (Mf w m c r (fun x=>∃ y,Wk x y∧y=oR (bi l c r)) ?_)) hk
 simp only[au,List.length_map]
 have len:∀ k,((bc c.aa k).map Se.pl).length≤1000000:=fun k=>by rw[List.length_map]; exact Nat.le_trans (List.length_filter_le _ _) (by omega)
 by_cases c1:r<0
 ·rw[if_neg (by simpa using c1)]
  exact⟨_,ni,by unfold bi; rw[if_pos (.inl c1)]⟩
 rw[if_pos (by simpa using c1)]
 by_cases c2:r>2
 ·rw[if_pos (by simpa using c2)]
  exact⟨_,ni,by unfold bi; rw[if_pos (.inr (by omega))]⟩
 rw[if_neg (by simpa using c2)]
 have n0:¬ (r<0∨3≤r):=by omega
 refine⟨c,.no,.no,1,rfl,by omega,c,.no,.no,2,rfl,by omega,w,m,_,.no,rfl,len 1,hw,w,m,_,.no,rfl,len 2,hw,?_⟩
 have lr:∀ k,(dw w ((bc c.aa k).map Se.pl)).1.length≤1000000:=fun k=>by
  rcases rZ hl c.aa k with⟨_,h⟩|⟨_,h⟩
  ·rw[h]; exact Nat.zero_le _
  ·rw[h]; show(((bc c.aa k).map Se.pl).map (bF l)).length≤_; rw[List.length_map]; exact len k
 rcases rZ hl c.aa 1 with⟨a1,b1⟩|⟨a1,b1⟩
 ·rw[if_neg (by rw[b1]; decide)]
  exact⟨_,ni,by unfold bi; rw[if_neg n0,a1,if_pos (by decide)]⟩
 rw[if_pos (by rw[b1]; rfl)]
 rcases rZ hl c.aa 2 with⟨a2,b2⟩|⟨a2,b2⟩
 ·rw[if_pos (by rw[b2]; decide)]
  exact⟨_,ni,by unfold bi; rw[if_neg n0,a1,if_neg (fun h=>h rfl),a2,if_pos (by decide)]⟩
 rw[if_neg (by rw[b2]; exact fun h=>nomatch h)]
 have l1:=lr 1
 have l2:=lr 2
 have p1:=len 1
 have p2:=len 2
 have e1:(dw w ((bc c.aa 1).map Se.pl)).1.length=((bc c.aa 1).map Se.pl).length:=by rw[b1]; exact List.length_map _
 have e2:(dw w ((bc c.aa 2).map Se.pl)).1.length=((bc c.aa 2).map Se.pl).length:=by rw[b2]; exact List.length_map _
 have hJ:bi l c r=if 0<(dw w ((bc c.aa 1).map Se.pl)).1.length∧0<(dw w ((bc c.aa 2).map Se.pl)).1.length then(if(Elo.upd (dw w ((bc c.aa 1).map Se.pl)).1 (dw w ((bc c.aa 2).map Se.pl)).1 r).2.2≠0 then(vd0,(Elo.upd (dw w ((bc c.aa 1).map Se.pl)).1 (dw w ((bc c.aa 2).map Se.pl)).1 r).2.2) else(⟨c.id,c.ins,r,(bc c.aa 1).map Se.pl++(bc c.aa 2).map Se.pl,(dw w ((bc c.aa 1).map Se.pl)).1++(dw w ((bc c.aa 2).map Se.pl)).1,(Elo.upd (dw w ((bc c.aa 1).map Se.pl)).1 (dw w ((bc c.aa 2).map Se.pl)).1 r).1++(Elo.upd (dw w ((bc c.aa 1).map Se.pl)).1 (dw w ((bc c.aa 2).map Se.pl)).1 r).2.1⟩,0))
   else(⟨c.id,c.ins,r,(bc c.aa 1).map Se.pl++(bc c.aa 2).map Se.pl,(dw w ((bc c.aa 1).map Se.pl)).1++(dw w ((bc c.aa 2).map Se.pl)).1,(dw w ((bc c.aa 1).map Se.pl)).1++(dw w ((bc c.aa 2).map Se.pl)).1⟩,0):=by
  unfold bi
  rw[if_neg n0,a1,if_neg (fun h=>h rfl),a2,if_neg (fun h=>h rfl)]
 generalize (dw w ((bc c.aa 1).map Se.pl)).1=a at l1 e1 hJ ⊢
 generalize (dw w ((bc c.aa 2).map Se.pl)).1=b at l2 e2 hJ ⊢
 generalize (bc c.aa 1).map Se.pl=p at p1 e1 hJ ⊢
 generalize (bc c.aa 2).map Se.pl=q at p2 e2 hJ ⊢
 by_cases c3:0<a.length
 ·rw[if_pos (by rw[decide_eq_true (by omega)]; try rfl)]
  by_cases c4:0<b.length
  ·rw[if_pos (by rw[decide_eq_true (by omega)]; try rfl)]
   refine⟨a,b,r,rfl,l1,l2,?_⟩
   rw[if_pos ⟨c3,c4⟩] at hJ
   by_cases c5:(Elo.upd a b r).2.2=0
   ·rw[if_neg (by simpa using c5)]
    rw[if_neg (by simpa using c5)] at hJ
    obtain⟨⟨_,_⟩,⟨_,_⟩,_,_,_,hu⟩:=Elo.zJ c5
    refine⟨w,m,c,r,p,q,a,b,_,_,p1,p2,e1,?_,e2,?_,rfl,rfl,_,.refl _,by rw[hJ]; rfl⟩
    ·rw[hu]; exact(Elo.b9 _ _).trans e1
    ·rw[hu]; exact(Elo.b9 _ _).trans e2
   ·rw[if_pos (by simpa using c5)]
    rw[if_pos c5] at hJ
    exact⟨_,ni,by rw[hJ]⟩
  ·rw[if_neg (by rw[decide_eq_false (by omega)]; decide)]
   exact⟨w,m,c,r,p,q,a,b,a,b,p1,p2,e1,e1,e2,e2,rfl,rfl,_,.refl _,by rw[hJ,if_neg (fun h=>c4 h.2)]; rfl⟩
 ·rw[if_neg (by rw[decide_eq_false (by omega)]; decide)]
  exact⟨w,m,c,r,p,q,a,b,a,b,p1,p2,e1,e1,e2,e2,rfl,rfl,_,.refl _,by rw[hJ,if_neg (fun h=>c3 h.1)]; rfl⟩
def lM (w:List RwI) (m:Int) (xs:List (Int×Int)):List RwI:=xs.foldl (fun w x=>(iU w m x.1 x.2).1) w
theorem bY.Ki {l w:List RwI} {m:Int} (h:bY l w m) (xs:List (Int×Int)):bY (dO l m xs) (lM w m xs) m:=by
 unfold dO lM
 induction xs generalizing l w with
 | nil=>exact h
 | cons x xs ih=>exact ih (h.put x.1 x.2).1
def gG (w:List RwI) (m:Int) (v:Vd):List RwI×Int:=if v.new.length≠v.ps.length then(w,21) else if v.ps.all (eT w)=true then(lM w m (v.ps.zip v.new),0) else(w,12)
theorem bY.apply {l w:List RwI} {m:Int} (h:bY l w m) (v:Vd):bY (cG l m v).1 (gG w m v).1 m∧(gG w m v).2=(cG l m v).2:=by
 unfold cG gG hasAll
 rw[sq h]
 split
 ·exact⟨h,rfl⟩
 split
 ·exact⟨h.Ki _,rfl⟩
 ·exact⟨h,rfl⟩
def TRA:Tab:=[(23,.pure oD),(47,.pure CM)]
theorem DF:TbK TRA:= .cons qw (.cons Ez (.nil _ _))
theorem Ml (w:List RwI) (m:Int) (v:Vd) (i:Nat):(by refine(?_:_→_→_→_→_→Prop) (Ob.cells [.U v.m,.U v.i,.I v.r,.list (v.ps.map u1) .no,.list (v.old.map i1) .no,.list (v.new.map i1) .no]) (Ob.cells [.E,.I 0]) [PV.list (w.map csI) .no,.I m] (Int.toNat (i:Int)) [PV.ptr 0 0,.ptr 1 0,.ptr 2 0,.I 0,.I i]; exact fun a b c d f=>by refine(?_:_→_→Prop) (List.getD (v.new.map i1) d []) (List.getD (v.ps.map u1) d []); exact fun g h=>∀(R:Ex→List PV→ae→Prop),(br (decide ((i:Int)<(↑(List.length (v.ps.map u1)):Int))) (InL (v.ps.map u1) 1 (i:Int)∧br (true && aD [.int .u32] 0 h) (InL (v.new.map i1) 1 (i:Int)∧br (true && aD [.int .i64] 0 g) (∃(w_1:List RwI) (m_1:Int) (t:Int) (v_1:Int),ah [.agg c,.U (cI h 0),.I (cI g 0)] [.agg [.list (w_1.map csI) .no,.I m_1],.U t,.I v_1]∧w_1.length≤1000000∧0≤t∧R .normal [.ptr 0 0,.ptr 1 0,.ptr 2 0,.I 0,.I (wI ((i:Int)+1))] [.cells [.list (List.map csI (Prod.fst (iU w_1 m_1 t v_1))) .no,.I m_1],a,b]) False) False) (R (.exit 0) f [.cells c,a,b]))→Holds (wpK TRA [] (fun o=>match o.dst with|some 35=>1002|some 37=>101301|some 40|some 45=>900|some 42=>101501|some 18|some 26|some 49|some 16=>1|some _=>0|none=>match o.op with| .store _ (.tmp 2) _=>1002|_=>0) (ai [1,1,1,1,0,1,0] (ag Tryz.f19)) [] (ak [2,3,4,5,8] f) [.cells c,.cells (vdC v),b] (fun ex e H=>R ex (List.map e [2,3,4,5,8]) H)):Prop):=fun R h=>hoE h
def JV:LSp:=fun e H Q=>∃(l w:List RwI) (m:Int) (v:Vd),bY l w m∧v.ps.length≤1000000∧v.new.length=v.ps.length∧(∀ p∈v.ps,has l p=true)∧ah (List.map e [2,3,4,5,8]) [.ptr 0 0,.ptr 1 0,.ptr 2 0,.I 0,.I 0]∧av H [.cells [.list (w.map csI) .no,.I m],.cells (vdC v),.cells [.E,.I 0]]∧Q (.exit 0) (ak [2,3,4,5,8] [.ptr 0 0,.ptr 1 0,.ptr 2 0,.I 0,.I v.ps.length]) [.cells [.list ((lM w m (v.ps.zip v.new)).map csI) .no,.I m],.cells (vdC v),.cells [.E,.I 0]]
theorem C5:∀ e H Q,JV e H Q→AwK Tryz.f19.ntmps (.loop (ai [1,1,1,1,0,1,0] (ag Tryz.f19))) Q e H:=by
 rintro e H Q ⟨l,w,m,v,hl,hv,hn,hh,he,hH,hQ⟩
 refine aB (hn:=fun o=>match o.dst with|some 35=>1002|some 37=>101301|some 40|some 45=>900|some 42=>101501|some 18|some 26|some 49|some 16=>1|some _=>0|none=>match o.op with| .store _ (.tmp 2) _=>1002|_=>0) aj DF (.nil _ _ _ _ _) (σ:=Nat) [2,3,4,5,8] (fun i=>i≤v.ps.length) (fun i=>[.ptr 0 0,.ptr 1 0,.ptr 2 0,.I 0,.I i]) (fun i=>[.cells [.list ((lM w m ((v.ps.zip v.new).take i)).map csI) .no,.I m],.cells (vdC v),.cells [.E,.I 0]]) (fun i=>v.ps.length-i) 0 (Nat.zero_le _) he hH ?_
 intro i hi
 have hi':i≤v.ps.length:=hi
 refine Ml _ m v i _ ?_
 simp only[au,dt,an,List.length_map]
 by_cases h:i<v.ps.length
 ·rw[if_pos (by omega)]
  have h2:i<v.new.length:=by omega
  have inl:InL (v.ps.map u1) 1 (i:Int):=by rw[dQ]; exact h
  have inl2:InL (v.new.map i1) 1 (i:Int):=by rw[vM]; exact h2
  have cu:∀ z:Int,cI (u1 z) 0=z:=fun _=>rfl
  have ci:∀ z:Int,cI (i1 z) 0=z:=fun _=>rfl
  have lk:=hl.Ki ((v.ps.zip v.new).take i)
  have hp:1≤v.ps.getD i 0:=by
   obtain⟨r,h1,h2⟩:=(jE hl.ok).1 (hh _ (aY (d:=(0:Int)) h))
   rw[← h2]; exact gb (hl.pos r h1)
  have hs:lM w m ((v.ps.zip v.new).take (i+1))=(iU (lM w m ((v.ps.zip v.new).take i)) m (v.ps.getD i 0) (v.new.getD i 0)).1:=by
   unfold lM
   rw[aJ ((0:Int),(0:Int)) (by rw[List.length_zip]; omega),List.foldl_append,show(v.ps.zip v.new).getD i (0,0)=(v.ps.getD i 0,v.new.getD i 0) by rw[bh (show i<(v.ps.zip v.new).length by rw[List.length_zip]; omega),List.getElem_zip,bh h,bh h2]]
   rfl
  simp only[getD_map 0 h,getD_map 0 h2,cu,ci]
  refine⟨inl,?_⟩
  rw[if_pos (by rfl)]
  refine⟨inl2,?_⟩
  rw[if_pos (by rfl)]
  refine⟨_,m,_,_,rfl,hY lk,by omega,?_⟩
  rw[← hs]
  exact⟨i+1,(show v.ps.length-(i+1)<v.ps.length-i by omega),h,by rw[ar h (by omega)],[],rfl,Nat.le_refl _,.inl rfl⟩
 ·rw[if_neg (by omega)]
  have:i=v.ps.length:=by omega
  subst this
  rw[List.take_of_length_le (by rw[List.length_zip]; omega)]
  exact hQ
theorem GA (w:List RwI) (m:Int) (v:Vd):(by refine(?_:_→_→_→_→Prop) [PV.list (w.map csI) .no,.I m] [PV.ptr 0 0,.ptr 1 0,.ptr 2 0,.I 0,.I 0] (Ob.cells [.E,.I 0]) (PV.list (v.ps.map u1) .no); exact fun a b c d=>∀(K:PV→Prop),(br ((↑(List.length (v.new.map i1)):Int) != (↑(List.length (v.ps.map u1)):Int)) (K (.tup [.agg a,.I 21])) (∃(w_1:List RwI) (m_1:Int) (l:List Int) (t:Tail),ah [.agg a,d] [.agg [.list (w_1.map csI) .no,.I m_1],.list (l.map u1) t]∧l.length≤1000000∧w_1.length≤1000000∧br (!Prod.snd (dw w_1 l)) (K (.tup [.agg a,.I 12])) (∃(l:List RwI) (w_2:List RwI) (m_2:Int) (v_1:Vd),bY l w_2 m_2∧v_1.ps.length≤1000000∧v_1.new.length=v_1.ps.length∧(∀(p:Int),p∈v_1.ps→has l p=true)∧ah b b∧av [.cells a,.cells [.U v.m,.U v.i,.I v.r,d,.list (v.old.map i1) .no,.list (v.new.map i1) .no],c] [.cells [.list (w_2.map csI) .no,.I m_2],.cells [.U v_1.m,.U v_1.i,.I v_1.r,.list (v_1.ps.map u1) .no,.list (v_1.old.map i1) .no,.list (v_1.new.map i1) .no],c]∧K (.tup [.agg [.list (List.map csI (lM w_2 m_2 (List.zip v_1.ps v_1.new))) .no,.I m_2],.I 0]))))→AcK 19 [.agg a,.agg (vdC v)] [] (fun x _=>K x):Prop):=fun K h=>acW (T:=TRA) (L:=[([1,1,1,1,0,1,0],JV)]) (fun o=>match o.dst with|some 35=>1002|some 37=>101301|some 40|some 45=>900|some 42=>101501|some 18|some 26|some 49|some 16=>1|some _=>0|none=>match o.op with| .store _ (.tmp 2) _=>1002|_=>0) Tryz.func19 (DF) (.cons suE C5 (.nil _ _ _ _ _)) h
def JJ (args:List PV) (K:PV→Prop):Prop:=∃(l w:List RwI) (m:Int) (v:Vd) (t1 t2 t3:Tail),ah args [.agg [.list (w.map csI) .no,.I m],.agg [.U v.m,.U v.i,.I v.r,.list (v.ps.map u1) t1,.list (v.old.map i1) t2,.list (v.new.map i1) t3]]∧bY l w m∧v.ps.length≤1000000∧K (.tup [.agg [.list ((gG w m v).1.map csI) .no,.I m],.I (gG w m v).2])
theorem Ll:SpK 19 (.pure JJ):=by
 rintro args K ⟨l,w,m,v,t1,t2,t3,he,hl,hv,hk⟩
 have he:args=_:=he
 subst he
 have hw:=hY hl
 refine bu aj (.cons (.refl _) (.cons (.agg (xs':=vdC v) (.cons (.refl _) (.cons (.refl _) (.cons (.refl _) (.cons (.list _ _) (.cons (.list _ _) (.cons (.list _ _) .nil))))))) .nil)) (bn (ck w m) (.agg _ (fB v))) (.tup _ (bn (ck _ m) (.int _ _))) (GA w m v (fun x=>x = .tup [.agg [.list ((gG w m v).1.map csI) .no,.I m],.I (gG w m v).2]) ?_) hk
 simp only[au,List.length_map]
 unfold gG
 by_cases c:v.new.length=v.ps.length
 ·rw[if_neg (by simp[c]),if_neg (by simp[c])]
  refine⟨w,m,v.ps,.no,rfl,hv,hw,?_⟩
  have er:(dw w v.ps).2=v.ps.all (eT w):=by
   unfold dw
   cases v.ps.all (eT w)<;>rfl
  rw[er]
  by_cases c2:v.ps.all (eT w)=true
  ·rw[if_neg (by rw[c2]; decide),if_pos c2]
   rw[sq hl] at c2
   exact⟨l,w,m,v,hl,hv,c,List.all_eq_true.1 c2,rfl,rfl,rfl⟩
  ·rw[if_pos (by rw[eq_false_of_ne_true c2]; rfl),if_neg c2]
 ·rw[if_pos (by simp; omega),if_pos c]
def TRE:Tab:=[(15,.pure rP),(17,.pure J4),(19,.pure JJ),(38,.pure Dk)]
theorem K5:TbK TRE:= .cons sE (.cons Le (.cons Ll (.cons GK (.nil _ _))))
def uY (args:List PV) (K:PV→Prop):Prop:=∃(l:List Int),ah args [.list (l.map u1) .no,.list (l.map u1) .no]∧l.length≤1000000∧K (.bool true)
theorem yE:SpK 29 (.pure uY):=by
 rintro args K ⟨l,he,hl,hk⟩
 have he:args=_:=he
 subst he
 have e:l.map u1=en1 .u32 l:=by simp[en1,u1]
 rw[e]
 exact n8 _ K ⟨l,l,.no,.no,rfl,hl,by rw[decide_eq_true rfl]; exact hk⟩
def x8 (args:List PV) (K:PV→Prop):Prop:=∃(l:List Int),ah args [.list (l.map i1) .no,.list (l.map i1) .no]∧l.length≤1000000∧K (.bool true)
theorem DQ:SpK 39 (.pure x8):=by
 rintro args K ⟨l,he,hl,hk⟩
 have he:args=_:=he
 subst he
 exact Elo.n8 _ K ⟨l,l,rfl,rfl,by unfold Elo.cn; omega,by unfold Elo.cn; omega,NT.no,NT.no,by rw[beq_self_eq_true]; exact hk⟩
def TSV:Tab:=[(29,.pure uY),(39,.pure x8)]
theorem LN:TbK TSV:= .cons yE (.cons DQ (.nil _ _))
def TLK:Tab:=[(30,.read BM),(29,.pure uY),(31,.read wQ),(32,.pure AD),(28,.pure uA),(33,.read p5),(34,.pure pX)]
theorem A0:TbK TLK:= .cons Gx (.cons yE (.cons yo (.cons HS (.cons z1 (.cons ol (.cons qB (.nil _ _)))))))
theorem La (w:List RwI) (m:Int) (u:List Mt) (ins id r:Int):(by refine(?_:_→_→_→Prop) (PV.agg [.list (w.map csI) .no,.I m]) (PV.agg [.U 0,.U 0,.I 0,.E,.E,.E]) (PV.list (u.map mtc) .no); exact fun d e f=>∀(K:PV→Prop),(∃(w_1:List Mt) (tl:Tail) (t:Int),ah [f,.U id] [.list (w_1.map mtc) tl,.U t]∧w_1.length≤1000000∧br (!bz Mt.id w_1 t) (K (.tup [d,f,e,.I 12])) (br (Mt.ins (gM w_1 t) != ins) (K (.tup [d,f,e,.I 13])) (∃(l:List RwI) (w_2:List RwI) (m_1:Int) (c:Mt) (t1:Tail) (t2:Tail) (r_1:Int),by refine(?_:_→Prop) (Prod.fst (bi l c r_1)); exact fun b=>by refine(?_:_→Prop) (PV.agg [.U (Vd.m b),.U (Vd.i b),.I (Vd.r b),.list (List.map u1 (Vd.ps b)) .no,.list (List.map i1 (Vd.old b)) .no,.list (List.map i1 (Vd.new b)) .no]); exact fun a=>ah [d,.agg [.U (Mt.id (gM w_1 t)),.I (Mt.md (gM w_1 t)),.U (Mt.ins (gM w_1 t)),.list (List.map rrc (Mt.rows (gM w_1 t))) .no,.list (List.map stc (Mt.aa (gM w_1 t))) .no],.I r] [.agg [.list (w_2.map csI) .no,.I m_1],.agg [.U c.id,.I c.md,.U c.ins,.list (c.rows.map rrc) t1,.list (c.aa.map stc) t2],.I r_1]∧bY l w_2 m_1∧c.aa.length≤100000∧br (Prod.snd (bi l c r_1) != 0) (K (.tup [d,f,e,.I (Prod.snd (bi l c r_1))])) (∃(l_1:List RwI) (w_3:List RwI) (m_2:Int) (v:Vd) (t1:Tail) (t2:Tail) (t3:Tail),ah [d,a] [.agg [.list (w_3.map csI) .no,.I m_2],.agg [.U v.m,.U v.i,.I v.r,.list (v.ps.map u1) t1,.list (v.old.map i1) t2,.list (v.new.map i1) t3]]∧bY l_1 w_3 m_2∧v.ps.length≤1000000∧∃(w:List Mt) (tl:Tail) (t:Int),ah [f,.U id] [.list (w.map mtc) tl,.U t]∧w.length≤1000000∧K (.tup [.agg [.list (List.map csI (Prod.fst (gG w_3 m_2 v))) .no,.I m_2],.list (List.map mtc (ef Mt.id w t)) .no,a,.I 0])))))→AcK 11 [d,f,.U ins,.U id,.I r] [] (fun x _=>K x):Prop):=fun K h=>acW (T:=TRE) (L:=[]) (fun o=>match o.dst with|some 26|some 33|some 37|some 38|some 45|some 50|some 51=>1|some 55=>1002|some 59=>401006|some _=>0|none=>match o.op with| .store _ (.tmp 10) (.tmp 55)=>101002| .store _ (.tmp 12) (.tmp 59)=>201006|_=>0) Tryz.func11 (K5) (LOk.nil _ _ _ _ _) h
theorem K1 (v:Vd):∀(K:PV→Prop),(br ((v.m == v.m) == true) (br ((v.i == v.i) == true) (br ((v.r == v.r) == true) (∃(l:List Int),ah [.list (v.ps.map u1) .no,.list (v.ps.map u1) .no] [.list (l.map u1) .no,.list (l.map u1) .no]∧l.length≤1000000∧∃(l:List Int),ah [.list (v.old.map i1) .no,.list (v.old.map i1) .no] [.list (l.map i1) .no,.list (l.map i1) .no]∧l.length≤1000000∧∃(l:List Int),ah [.list (v.new.map i1) .no,.list (v.new.map i1) .no] [.list (l.map i1) .no,.list (l.map i1) .no]∧l.length≤1000000∧K (.bool true)) (K (.bool false))) (K (.bool false))) (K (.bool false)))→AcK 12 [.agg (vdC v),.agg (vdC v)] [] (fun x _=>K x):=fun K h=>acW (T:=TSV) (L:=[]) (fun _=>0) Tryz.func12 (LN) (LOk.nil _ _ _ _ _) h
theorem MC (v:Vd):∀(K:PV→Prop),(K (.agg [.U v.m,.U v.i,.I v.r,.list (v.ps.map u1) .no,.list (v.old.map i1) .no,.list (v.new.map i1) .no]))→AcK 13 [.agg (vdC v)] [] (fun x _=>K x):=fun K h=>acW (T:=[]) (L:=[]) (fun _=>0) Tryz.func13 (aX.nil _ _) (LOk.nil _ _ _ _ _) h
theorem L7 (l w:List RwI) (m k:Int) (u:List Mt) (i:Nat):(by refine(?_:_→_→_→Prop) (List.getD (bT l) (Int.toNat (i:Int)) []) [PV.list (w.map csI) .no,.I m] (PV.list (bT l) .no); exact fun b d g=>by refine(?_:_→_→_→_→Prop) [Ob.abs (rkI l m),.abs (rkM (aq u) k),.cells [.ptr 1 0],.cells d] [PV.ptr 0 0,.ptr 3 0,.bool false,g,.I i] (true && aD [.int .u32] 0 b) (PV.U (cI b 0)); exact fun a c f h=>∀(R:Ex→List PV→ae→Prop),(br (decide ((i:Int)<(↑(List.length (bT l)):Int))) (InL (bT l) 1 (i:Int)∧br f (∃(q:Nat) (l_1:List RwI) (most:Int) (t:Int),ah [.ptr 0 0,h] [.ptr q 0,.U t]∧bU a q (rkI l_1 most)∧Ok l_1 most∧InL (bT l) 1 (i:Int)∧br f (∃(w_1:List RwI) (m_1:Int) (t_1:Int),ah [.agg d,h] [.agg [.list (w_1.map csI) .no,.I m_1],.U t_1]∧w_1.length≤1000000∧br (bF l_1 t != ff w_1 t_1) (R .ret c a) (R .normal [.ptr 0 0,.ptr 3 0,.bool false,g,.I (wI ((i:Int)+1))] a)) False) False) (R (.exit 0) c a))→Holds (wpK TLK [] (fun o=>match o.dst with|some 15|some 46=>1|_=>0) (ai [1,1,1,0,1,0] (ag Tryz.f8)) [] (ak [0,6,8,9,10] c) a (fun ex e H=>R ex (List.map e [0,6,8,9,10]) H)):Prop):=fun R h=>hoE h
def fM (w:List RwI) (m:Int) (p:Rp):List RwI:=if p.e=0 then(gG w m p.v).1 else w
theorem MA {l:List RwI} {m:Int} {u:List Mt} {ins id r:Int}:((aI l m u ins id r).e=0→(aI l m u ins id r).ra=(cG l m (aI l m u ins id r).v).1)∧((aI l m u ins id r).e≠0→(aI l m u ins id r).ra=l):=by
 unfold aI
 split
 ·exact⟨fun h=>absurd h (show ¬ (12:Int)=0 by decide),fun _=>rfl⟩
 split
 ·exact⟨fun h=>absurd h (show ¬ (13:Int)=0 by decide),fun _=>rfl⟩
 split
 ·rename_i h0; exact⟨fun h=>absurd h h0,fun _=>rfl⟩
 ·exact⟨fun _=>rfl,fun h=>absurd rfl h⟩
theorem bY.report {l w:List RwI} {m:Int} (h:bY l w m) (u:List Mt) (ins id r:Int):bY (aI l m u ins id r).ra (fM w m (aI l m u ins id r)) m:=by
 obtain⟨h1,h2⟩:=MA (l:=l) (m:=m) (u:=u) (ins:=ins) (id:=id) (r:=r)
 unfold fM
 by_cases c:(aI l m u ins id r).e=0
 ·rw[if_pos c,h1 c]; exact(h.apply _).1
 ·rw[if_neg c,h2 c]; exact h
def xq (w:List RwI) (m:Int) (p:Rp):PV:= .tup [.agg [.list ((fM w m p).map csI) .no,.I m],.list (p.w.map mtc) .no,.agg (vdC p.v),.I p.e]
theorem zW {n:Nat} (w:List RwI) (m:Int) (p:Rp):Low n (xq w m p):= .tup _ (iX (ck _ m).up (bB _) (.agg _ (fB _)) (.int _ _))
def Jx (args:List PV) (K:PV→Prop):Prop:=∃(l w:List RwI) (m:Int) (u:List Mt) (k:Int) (tl:Tail) (ins id r:Int),ah args [.agg [.list (w.map csI) .no,.I m],.list (u.map mtc) tl,.U ins,.U id,.I r]∧bY l w m∧MO u k∧
 (let p:=aI l m u ins id r; K (.tup [.agg [.list ((fM w m p).map csI) .no,.I m],.list (p.w.map mtc) .no,.agg [.U p.v.m,.U p.v.i,.I p.v.r,.list (p.v.ps.map u1) .no,.list (p.v.old.map i1) .no,.list (p.v.new.map i1) .no],.I p.e]))
theorem LP:SpK 11 (.pure Jx):=by
 rintro args K ⟨l,w,m,u,k,tl,ins,id,r,he,hl,ro,hk⟩
 have he:args=_:=he
 subst he
 have hw:=hY hl
 have hu:u.length≤1000000:=by have:=ro.full; have:=ro.big; omega
 refine bu aj (.cons (.refl _) (.cons (.list _ _) (.refl _))) (fZ (ck w m) (bB u) (.int _ _) (.int _ _) (.int _ _)) (zW w m (aI l m u ins id r)) (a9 (La w m u ins id r (fun x=>∃ y,Wk x y∧y=xq w m (aI l m u ins id r)) ?_)) hk
 simp only[au]
 have bad:∀ e:Int,e≠0→aI l m u ins id r=⟨l,u,vd0,mt0,e⟩→∃ y,Wk (.tup [.agg [.list (w.map csI) .no,.I m],.list (u.map mtc) .no,.agg [.U 0,.U 0,.I 0,.E,.E,.E],.I e]) y∧y=xq w m (aI l m u ins id r):=fun e h0 h=>by
  refine⟨_,?_,rfl⟩
  rw[h]
  unfold xq fM
  rw[if_neg h0]
  exact .tup (.cons (.refl _) (.cons (.refl _) (.cons (.agg (xs':=vdC vd0) (.cons (.refl _) (.cons (.refl _) (.cons (.refl _) (.cons (.list _ _) (.cons (.list _ _) (.cons (.list _ _) .nil))))))) (.cons (.refl _) .nil))))
 refine⟨u,.no,id,rfl,hu,?_⟩
 by_cases c1:bz Mt.id u id=true
 ·rw[if_neg (by rw[c1]; decide)]
  have n1:¬ bz Mt.id u id=false:=by rw[c1]; decide
  by_cases c2:(gM u id).ins=ins
  ·rw[if_neg (by simp[c2])]
   have hs:(gM u id).aa.length≤8:=by have h:=ro.cs _ (eP c1).1; rw[kC h]; exact Es h
   refine⟨l,w,m,gM u id,.no,.no,r,rfl,hl,by omega,?_⟩
   by_cases c3:(bi l (gM u id) r).2=0
   ·rw[if_neg (by simp[c3])]
    have hv:=pn (ra:=l) (c:=gM u id) (r:=r)
    have e:aI l m u ins id r=⟨(cG l m (bi l (gM u id) r).1).1,ef Mt.id u id,(bi l (gM u id) r).1,gM u id,0⟩:=by unfold aI; rw[if_neg n1,if_neg (by simp[c2]),if_neg (by simp[c3])]
    refine⟨l,w,m,(bi l (gM u id) r).1,.no,.no,.no,rfl,hl,by omega,u,.no,id,rfl,hu,_,.refl _,?_⟩
    rw[e]; rfl
   ·rw[if_pos (by simpa using c3)]
    exact bad _ c3 (by unfold aI; rw[if_neg n1,if_neg (by simp[c2]),if_pos c3])
  ·rw[if_pos (by simpa using c2)]
   exact bad 13 (by decide) (by unfold aI; rw[if_neg n1,if_pos c2])
 ·rw[if_pos (by rw[eq_false_of_ne_true c1]; rfl)]
  exact bad 12 (by decide) (by unfold aI; rw[if_pos (eq_false_of_ne_true c1)])
structure SmV (v:Vd):Prop where
 ps:v.ps.length≤1000000
 old:v.old.length≤1000000
 new:v.new.length≤1000000
def JS (args:List PV) (K:PV→Prop):Prop:=∃(v:Vd),ah args [.agg (vdC v),.agg (vdC v)]∧SmV v∧K (.bool true)
theorem LD:SpK 12 (.pure JS):=by
 rintro args K ⟨v,he,sm,hk⟩
 have he:args=_:=he
 subst he
 refine cr aj (bn (.agg _ (fB v)) (.agg _ (fB v))) (.bool _) (K1 v (fun x=>x = .bool true) ?_) hk
 simp only[au,beq_self_eq_true,if_true]
 exact⟨_,rfl,sm.ps,_,rfl,sm.old,_,rfl,sm.new,trivial⟩
def JP (args:List PV) (K:PV→Prop):Prop:=∃(v:Vd),ah args [.agg (vdC v)]∧K (.agg [.U v.m,.U v.i,.I v.r,.list (v.ps.map u1) .no,.list (v.old.map i1) .no,.list (v.new.map i1) .no])
theorem Mu:SpK 13 (.pure JP):=by
 rintro args K ⟨v,he,hk⟩
 have he:args=_:=he
 subst he
 exact cr aj (bw (.agg _ (fB v))) (.agg _ (fB v)) (MC v (fun x=>x = .agg (vdC v)) rfl) hk
def Jy:LSp:=fun e H Q=>∃(l w:List RwI) (m k:Int) (u:List Mt),bY l w m∧ah (List.map e [0,6,8,9,10]) [.ptr 0 0,.ptr 3 0,.bool false,.list (bT l) .no,.I 0]∧av H [.abs (rkI l m),.abs (rkM (aq u) k),.cells [.ptr 1 0],.cells [.list (w.map csI) .no,.I m]]∧Q (.exit 0) (ak [0,6,8,9,10] [.ptr 0 0,.ptr 3 0,.bool false,.list (bT l) .no,.I l.length]) [.abs (rkI l m),.abs (rkM (aq u) k),.cells [.ptr 1 0],.cells [.list (w.map csI) .no,.I m]]
theorem Fk:∀ e H Q,Jy e H Q→AwK Tryz.f8.ntmps (.loop (ai [1,1,1,0,1,0] (ag Tryz.f8))) Q e H:=by
 rintro e H Q ⟨l,w,m,k,u,hl,he,hH,hQ⟩
 have hn:=hl.ok.len
 refine aB (hn:=fun o=>match o.dst with|some 15|some 46=>1|_=>0) aj A0 (.nil _ _ _ _ _) (σ:=Nat) [0,6,8,9,10] (fun i=>i≤l.length) (fun i=>[.ptr 0 0,.ptr 3 0,.bool false,.list (bT l) .no,.I i]) (fun _=>[.abs (rkI l m),.abs (rkM (aq u) k),.cells [.ptr 1 0],.cells [.list (w.map csI) .no,.I m]]) (fun i=>l.length-i) 0 (Nat.zero_le _) he hH ?_
 intro i hi
 have hi':i≤l.length:=hi
 refine L7 l w m k u i _ ?_
 simp only[au,dt,an,show(bT l).length=l.length by simp[bT]]
 by_cases h:i<l.length
 ·rw[if_pos (by omega)]
  have inl:InL (bT l) 1 (i:Int):=by unfold bT; rw[dD (sz:=1) (f:=fun r:RwI=>[PV.U r.id]) (fun _=>rfl) (by decide)]; exact h
  have hg:(bT l).getD i []=[.U (l.getD i default).id]:=by unfold bT; rw[getD_map default h]
  have ci:∀ z:Int,cI [.U z] 0=z:=fun _=>rfl
  simp only[hg,ci]
  refine⟨inl,?_⟩
  rw[if_pos (by rfl)]
  refine⟨0,l,m,_,rfl,rfl,hl.ok,inl,?_⟩
  rw[if_pos (by rfl)]
  refine⟨w,m,_,rfl,hY hl,?_⟩
  rw[if_neg (by rw[hl.M2]; simp)]
  exact⟨i+1,(show l.length-(i+1)<l.length-i by omega),h,by rw[ar h (by omega)],[],rfl,Nat.le_refl _,.inl rfl⟩
 ·rw[if_neg (by omega)]
  have:i=l.length:=by omega
  subst this
  exact hQ
theorem LV (l w:List RwI) (m k:Int) (u:List Mt):(by refine(?_:_→_→_→Prop) [PV.list (w.map csI) .no,.I m] (Ob.abs (rkM (aq u) k)) (PV.list (u.map mtc) .no); exact fun c d e=>by refine(?_:_→Prop) [Ob.abs (rkI l m),d,.cells [.ptr 1 0],.cells c]; exact fun b=>∀(K:PV→ae→Prop),(∃(l_1:List RwI) (w_1:List RwI) (m_1:Int) (most:Int),ah [.agg c] [.agg [.list (w_1.map csI) .no,.I m_1]]∧bY l_1 w_1 most∧∃(q:Nat) (l_2:List RwI) (most:Int),ah [.ptr 0 0] [.ptr q 0]∧bU b q (rkI l_2 most)∧Ok l_2 most∧∃(l_3:List Int),ah [.list (bT l_2) .no,.list (bT l_1) .no] [.list (l_3.map u1) .no,.list (l_3.map u1) .no]∧l_3.length≤1000000∧∃(q:Nat) (r:Nat) (w_2:List Mt) (m_2:Int),ah [.ptr 2 0] [.ptr q 0]∧cm b q r (rkM (aq w_2) m_2)∧MO w_2 m_2∧∃(w_3:List Mt) (tl:Tail),ah [e] [.list (w_3.map mtc) tl]∧w_3.length≤1000000∧∃(l_4:List Int),ah [.list (List.map u1 (w_2.map Mt.id)) .no,.list (List.map u1 (w_3.map Mt.id)) .no] [.list (l_4.map u1) .no,.list (l_4.map u1) .no]∧l_4.length≤1000000∧∃(l_5:List RwI) (w_4:List RwI) (m_3:Int) (k_1:Int) (u_1:List Mt),by refine(?_:_→Prop) [Ob.abs (rkI l_5 m_3),.abs (rkM (aq u_1) k_1),.cells [.ptr 1 0],.cells [.list (w_4.map csI) .no,.I m_3]]; exact fun a=>bY l_5 w_4 m_3∧ah [.ptr 0 0,.ptr 3 0,.bool false,.list (bT l_1) .no,.I 0] [.ptr 0 0,.ptr 3 0,.bool false,.list (bT l_5) .no,.I 0]∧av b a∧K (.bool true) a)→AcK 8 [.ptr 0 0,.ptr 2 0,.agg c,e] [.abs (rkI l m),d,.cells [.ptr 1 0]] K:Prop):=fun K h=>acW (T:=TLK) (L:=[([1,1,1,0,1,0],Jy)]) (fun o=>match o.dst with|some 15|some 46=>1|_=>0) Tryz.func8 (A0) (.cons suE Fk (.nil _ _ _ _ _)) h
def rF (args:List PV) (H:ae) (K:PV→Prop):Prop:=match args with
 | .ptr q 0 :: .ptr t 0::rest=>match I7 H t with
  | some a=>∃(l w:List RwI) (m k:Int) (u:List Mt) (tl:Tail),ah rest [.agg [.list (w.map csI) .no,.int .i64 m],.list (u.map mtc) tl]∧bU H q (rkI l m)∧cm H t a (rkM (aq u) k)∧q≠a∧bY l w m∧MO u k∧K (.bool true)
  | none=>False
 | _=>False
theorem An {l w:List RwI} {m k:Int} {u:List Mt} (hl:bY l w m) (ro:MO u k):AcK 8 [.ptr 0 0,.ptr 2 0,.agg [.list (w.map csI) .no,.I m],.list (u.map mtc) .no] [.abs (rkI l m),.abs (rkM (aq u) k),.cells [.ptr 1 0]] (fun x H'=>x = .bool true∧∃ G,H' = .abs (rkI l m) :: .abs (rkM (aq u) k) :: .cells [.ptr 1 0]::G):=by
 have hu:u.length≤1000000:=by have:=ro.full; have:=ro.big; omega
 have hn:=hl.ok.len
 have ids:∀ l:List RwI,bT l=(l.map Rw.id).map u1:=fun l=>by unfold bT; rw[List.map_map]; rfl
 refine LV l w m k u _ ?_
 exact⟨l,w,m,m,rfl,hl,0,l,m,rfl,rfl,hl.ok,l.map Rw.id,(by rw[← ids]; rfl),(by rw[List.length_map]; exact hn),2,1,u,k,rfl,⟨rfl,rfl⟩,ro,u,.no,rfl,hu,u.map Mt.id,rfl,(by rw[List.length_map]; exact hu),l,w,m,k,u,hl,rfl,rfl,rfl,_,rfl⟩
theorem w6:SpK 8 (.read rF):=by
 intro args H K h
 unfold rF at h
 split at h
 ·rename_i q t rest
  split at h
  ·rename_i a ha
   obtain⟨l,w,m,k,u,tl,he,hI,hB,hne,hl,ro,hk⟩:=h
   have he:rest=_:=he
   subst he
   refine⟨_,bj (.cons (.refl _) (.cons (.refl _) (.cons (.refl _) (.cons (.list _ _) .nil)))) (pS aj hI hB hne (bn (ck w m) (bB u)) (.bool _) (a9 ((An hl ro).mono fun x H' ⟨h1,h2⟩=>⟨_,h1 ▸ .refl _,rfl,h2⟩)) ⟨rfl,?_⟩),hk⟩
   rw[qU hI,qU hB.2]
  ·exact h.elim
 ·exact h.elim
structure Td where
 ins:Int
 id:Int
 r:Int
instance:Inhabited Td:=⟨⟨0,0,0⟩⟩
def tdc (x:Td):List PV:=[.U x.ins,.U x.id,.I x.r]
theorem F6 (x:Td):(tdc x).length=3:=rfl
theorem HO {n:Nat} (x:Td):∀ y∈tdc x,Low n y:=dn (.int _ _) (.int _ _) (.int _ _)
theorem yT (d:Wd):bY (dO [] 40 d.ra) (nR d.ra) 40:=bY.Ki (l:=[]) (w:=[]) ⟨Ok.none (by decide) (by decide),.refl _,fun _ h=>nomatch h⟩ d.ra
theorem BB {ra:List RwI} {c:Mt} {r:Int} (hs:c.aa.length≤8):SmV (bi ra c r).1:=by
 have h1:=fS ra c.aa 1
 have h2:=fS ra c.aa 2
 have z:SmV vd0:=⟨Nat.zero_le _,Nat.zero_le _,Nat.zero_le _⟩
 have h3:=tL (bD ra c.aa 1).2.1 (bD ra c.aa 2).2.1 r
 unfold bi
 split
 ·exact z
 split
 ·exact z
 split
 ·exact z
 split
 ·split
  ·exact z
  ·refine⟨?_,?_,?_⟩<;>simp only[List.length_append]<;>omega
 ·refine⟨?_,?_,?_⟩<;>simp only[List.length_append]<;>omega
theorem Ay {u:List Mt} {k:Int} (ro:MO u k) (id:Int):(gM u id).aa.length≤8:=by
 by_cases c:bz Mt.id u id=true
 ·have h:=ro.cs _ (eP c).1
  have h1:=kC h
  have h2:=Es h
  show(nU Mt.id u id).aa.length≤8
  omega
 ·rw[show gM u id=mt0 from gQ (eq_false_of_ne_true c)]; exact Nat.zero_le _
def TLR:Tab:=[(9,.read sR),(10,.heap lZ),(11,.pure Jx),(13,.pure JP),(12,.pure JS),(8,.read rF)]
theorem KT:TbK TLR:= .cons sL (.cons qZ (.cons LP (.cons Mu (.cons LD (.cons w6 (.nil _ _))))))
theorem KB (d:Wd) (ra w:List RwI) (u:List Mt) (told:List Td) (i:Nat):(by refine(?_:_→_→_→_→_→Prop) (List.getD (told.map tdc) (Int.toNat (i:Int)) []) [PV.list (d.ra.map prC) .no,.list (d.rows.map lcs) .no,.list (d.st.map i1) .no] [PV.list (w.map csI) .no,.I 40] (Ob.abs (rkM (aq u) 6)) (PV.list (u.map mtc) .no); exact fun J L O P S=>by refine(?_:_→_→_→Prop) [PV.list (told.map tdc) .no,.bool false,.ptr 1 0,.ptr 3 0,.ptr 4 0,S,.I i] (PV.U (cI J 1)) (PV.I (cI J 2)); exact fun N Q T=>by refine(?_:_→Prop) [PV.U (cI J 0),Q,T]; exact fun M=>∀(R:Ex→List PV→ae→Prop),(br (decide ((i:Int)<(↑(List.length (told.map tdc)):Int))) (InL (told.map tdc) 3 (i:Int)∧br (true && aD [.int .u32,.int .u32,.int .i64] 0 J) (∃(q:Nat) (r:Nat) (w_1:List Mt) (m:Int) (t:Int),by refine(?_:_→Prop) (List.map stc (Mt.aa (gM w_1 t))); exact fun G=>by refine(?_:_→Prop) (Ob.cells [.U (Mt.id (gM w_1 t)),.I (Mt.md (gM w_1 t)),.U (Mt.ins (gM w_1 t)),.list (List.map rrc (Mt.rows (gM w_1 t))) .no,.list G .no]); exact fun F=>by refine(?_:_→Prop) [Ob.cells L,.abs (rkI ra 40),P,.cells [.ptr 2 0],.cells O,.cells M,F]; exact fun E=>ah [.ptr 3 0,Q] [.ptr q 0,.U t]∧cm [.cells L,.abs (rkI ra 40),P,.cells [.ptr 2 0],.cells O,.cells M] q r (rkM (aq w_1) m)∧MO w_1 m∧∃(ra_1:List RwI) (mb:Int) (w_2:List Mt) (m:Int) (ins:Int) (id:Int) (r:Int),by refine(?_:_→Prop) (aI ra_1 mb w_2 ins id r); exact fun y=>by refine(?_:_→_→_→_→Prop) [PV.U (Vd.m (Rp.v y)),.U (Vd.i (Rp.v y)),.I (Vd.r (Rp.v y)),.list (List.map u1 (Vd.ps (Rp.v y))) .no,.list (List.map i1 (Vd.old (Rp.v y))) .no,.list (List.map i1 (Vd.new (Rp.v y))) .no] (List.map stc (Mt.aa (Rp.c y))) (Ob.abs (rkM (aq (Rp.w y)) m)) (Ob.abs (rkI (Rp.ra y) mb)); exact fun z B C D=>by refine(?_:_→Prop) (Ob.cells [.U (Mt.id (Rp.c y)),.I (Mt.md (Rp.c y)),.U (Mt.ins (Rp.c y)),.list (List.map rrc (Mt.rows (Rp.c y))) .no,.list B .no]); exact fun A=>ah M [.U ins,.U id,.I r]∧bU E 1 (rkI ra_1 mb)∧cm E 3 2 (rkM (aq w_2) m)∧1≠2∧Ok ra_1 mb∧MO w_2 m∧∃(l:List RwI) (w_3:List RwI) (m_1:Int) (u_1:List Mt) (k:Int) (tl:Tail) (ins_1:Int) (id_1:Int) (r_1:Int),by refine(?_:_→Prop) (aI l m_1 u_1 ins_1 id_1 r_1); exact fun n=>by refine(?_:_→_→_→Prop) [PV.U (Vd.m (Rp.v n)),.U (Vd.i (Rp.v n)),.I (Vd.r (Rp.v n)),.list (List.map u1 (Vd.ps (Rp.v n))) .no,.list (List.map i1 (Vd.old (Rp.v n))) .no,.list (List.map i1 (Vd.new (Rp.v n))) .no] [PV.list (List.map csI (fM w_3 m_1 n)) .no,.I m_1] (PV.list (List.map mtc (Rp.w n)) .no); exact fun h p x=>by refine(?_:_→_→Prop) [Ob.cells L,D,C,.cells [.ptr 2 0],.cells O,.cells M,F,.cells z,A,.cells p,.cells h] (R .normal [.list (told.map tdc) .no,.bool false,.ptr 1 0,.ptr 3 0,.ptr 4 0,x,.I (wI ((i:Int)+1))] [.cells L,D,C,.cells [.ptr 2 0],.cells p,.cells M,F,.cells z,A,.cells p,.cells h]); exact fun f g=>by refine(?_:_→Prop) (R .ret N f); exact fun j=>by refine(?_:_→Prop) (br ((Rp.e y != 0) == true) (br (Mt.id (Rp.c y) != 0) j g) g); exact fun s=>ah [.agg O,S,.U (cI J 0),Q,T] [.agg [.list (w_3.map csI) .no,.I m_1],.list (u_1.map mtc) tl,.U ins_1,.U id_1,.I r_1]∧bY l w_3 m_1∧MO u_1 k∧br ((Rp.e y != Rp.e n) == false) (∃(v:Vd),by refine(?_:_→Prop) (PV.agg [.U v.m,.U v.i,.I v.r,.list (v.ps.map u1) .no,.list (v.old.map i1) .no,.list (v.new.map i1) .no]); exact fun b=>ah [.agg z] [b]∧∃(v_1:Vd),by refine(?_:_→Prop) (PV.agg [.U v_1.m,.U v_1.i,.I v_1.r,.list (v_1.ps.map u1) .no,.list (v_1.old.map i1) .no,.list (v_1.new.map i1) .no]); exact fun a=>ah [b,.agg h] [a,a]∧SmV v_1∧∃(l_1:List RwI) (w_4:List RwI) (m_2:Int) (k:Int) (u_2:List Mt) (tl:Tail),ah [.agg p,x] [.agg [.list (w_4.map csI) .no,.I m_2],.list (u_2.map mtc) tl]∧bU f 1 (rkI l_1 m_2)∧cm f 3 2 (rkM (aq u_2) k)∧1≠2∧bY l_1 w_4 m_2∧MO u_2 k∧br ((Rp.e y == 0) == true) (br ((Mt.id (Rp.c y) != cI J 1) == false) (br (((↑(List.length B):Int) != (↑(List.length G):Int)) == false) s j) j) s) j) False) (R (.exit 0) N [.cells L,.abs (rkI ra 40),P,.cells [.ptr 2 0],.cells O]))→Holds (wpK TLR [] (fun o=>match o.dst with|some 79|some 96|some 98|some 105|some 139=>1|some 107=>5|_=>0) (ai [1,1,1,1,0,1,0] (ag Tryz.f3)) [] (ak [1,4,5,6,7,8,9] N) [.cells (wdC d),.abs (rkI ra 40),P,.cells [.ptr 2 0],.cells O] (fun ex e H=>R ex (List.map e [1,4,5,6,7,8,9]) H)):Prop):=fun R h=>hoE h
structure Rs where
 i:Nat
 ra:List RwI
 w:List RwI
 u:List Mt
theorem Nd {ra:List RwI} {m:Int} {u:List Mt} {ins id r:Int}:((aI ra m u ins id r).e=0→(aI ra m u ins id r).c=gM u id∧bz Mt.id u id=true)∧((aI ra m u ins id r).e≠0→(aI ra m u ins id r).c.id=0):=by
 unfold aI
 split
 ·exact⟨fun h=>absurd h (show ¬ (12:Int)=0 by decide),fun _=>rfl⟩
 split
 ·exact⟨fun h=>absurd h (show ¬ (13:Int)=0 by decide),fun _=>rfl⟩
 split
 ·rename_i h0; exact⟨fun h=>absurd h h0,fun _=>rfl⟩
 ·rename_i h0 _ _; exact⟨fun _=>⟨rfl,eq_true_of_ne_false h0⟩,fun h=>absurd rfl h⟩
theorem Mr {ra:List RwI} {m:Int} {u:List Mt} {k:Int} (ro:MO u k) (ins id r:Int):SmV (aI ra m u ins id r).v:=by
 have z:SmV vd0:=⟨Nat.zero_le _,Nat.zero_le _,Nat.zero_le _⟩
 unfold aI
 split
 ·exact z
 split
 ·exact z
 split
 ·exact z
 ·exact BB (Ay ro id)
theorem EL {told:List Td} {u:List Mt} {i:Int}:∀ v∈[.list (told.map tdc) .no,.bool false,.ptr 1 0,.ptr 3 0,.ptr 4 0,.list (u.map mtc) .no,.I i],Low 5 v:=by
 intro v hv
 simp only[List.mem_cons,List.not_mem_nil,or_false] at hv
 rcases hv with rfl|rfl|rfl|rfl|rfl|rfl|rfl
 ·exact bq HO _
 ·exact .bool _
 ·exact .ptr _ _ (by decide)
 ·exact .ptr _ _ (by decide)
 ·exact .ptr _ _ (by decide)
 ·exact bB u
 ·exact .int _ _
theorem xN {d:Wd} {ra w:List RwI} {u:List Mt}:∀(o:Nat) cs,([.cells (wdC d),.abs (rkI ra 40),.abs (rkM (aq u) 6),.cells [.ptr 2 0],.cells [.list (w.map csI) .no,.I 40]]:ae)[o]?=some (.cells cs)→∀ x∈cs,Low 5 x:=by
 intro o cs ho
 have k1:=(List.getElem?_eq_some_iff.1 ho).1
 simp at k1
 have:o=0∨o=1∨o=2∨o=3∨o=4:=by omega
 rcases this with rfl|rfl|rfl|rfl|rfl<;>cases ho
 ·exact n5 d
 ·exact bw (.ptr _ _ (by decide))
 ·exact fi w 40
def JI:LSp:=fun e H Q=>∃(d:Wd) (ra w:List RwI) (u:List Mt) (told:List Td),told.length≤1000000∧bY ra w 40∧MO u 6∧ah (List.map e [1,4,5,6,7,8,9]) [.list (told.map tdc) .no,.bool false,.ptr 1 0,.ptr 3 0,.ptr 4 0,.list (u.map mtc) .no,.I 0]∧av H [.cells (wdC d),.abs (rkI ra 40),.abs (rkM (aq u) 6),.cells [.ptr 2 0],.cells [.list (w.map csI) .no,.I 40]]∧(∀(vs:List PV) (H2:ae),Q (.exit 0) (ak [1,4,5,6,7,8,9] vs) H2)
set_option maxRecDepth 10000 in
theorem EZ:∀ e H Q,JI e H Q→AwK Tryz.f3.ntmps (.loop (ai [1,1,1,1,0,1,0] (ag Tryz.f3))) Q e H:=by
 rintro e H Q ⟨d,ra,w,u,told,hn,lk0,ro0,he,hH,hQ⟩
 refine aB (hn:=fun o=>match o.dst with|some 79|some 96|some 98|some 105|some 139=>1|some 107=>5|_=>0) aj KT (.nil _ _ _ _ _) (σ:=Rs) [1,4,5,6,7,8,9] (fun s=>s.i≤told.length∧bY s.ra s.w 40∧MO s.u 6) (fun s=>[.list (told.map tdc) .no,.bool false,.ptr 1 0,.ptr 3 0,.ptr 4 0,.list (s.u.map mtc) .no,.I s.i]) (fun s=>[.cells (wdC d),.abs (rkI s.ra 40),.abs (rkM (aq s.u) 6),.cells [.ptr 2 0],.cells [.list (s.w.map csI) .no,.I 40]]) (fun s=>told.length-s.i) ⟨0,ra,w,u⟩ ⟨Nat.zero_le _,lk0,ro0⟩ he hH ?_
 rintro⟨i,ra,w,u⟩ ⟨hi,lk,ro⟩
 have hi:i≤told.length:=hi
 have lk:bY ra w 40:=lk
 have ro:MO u 6:=ro
 refine KB d ra w u told i _ ?_
 simp only[au,dt,an,List.length_map]
 by_cases h:i<told.length
 ·rw[if_pos (by omega)]
  obtain⟨x,hx⟩:∃ x,x=told.getD i default:=⟨_,rfl⟩
  have inl:InL (told.map tdc) 3 (i:Int):=by rw[dD F6 (by decide)]; exact h
  have t0:∀ x:Td,cI (tdc x) 0=x.ins:=fun _=>rfl
  have t1:∀ x:Td,cI (tdc x) 1=x.id:=fun _=>rfl
  have t2:∀ x:Td,cI (tdc x) 2=x.r:=fun _=>rfl
  simp only[getD_map default h,← hx,t0,t1,t2]
  refine⟨inl,?_⟩
  rw[if_pos (by rfl)]
  have lk2:=lk.report u x.ins x.id x.r
  have ro2:=(kw lk.ok ro x.ins x.id x.r).2
  have sm:=Mr (ra:=ra) (m:=40) ro x.ins x.id x.r
  obtain⟨rc0,rc1⟩:=Nd (ra:=ra) (m:=40) (u:=u) (ins:=x.ins) (id:=x.id) (r:=x.r)
  refine⟨3,2,u,6,x.id,rfl,⟨rfl,rfl⟩,ro,ra,40,u,6,x.ins,x.id,x.r,rfl,rfl,⟨rfl,rfl⟩,by decide,lk.ok,ro,ra,w,40,u,6,.no,x.ins,x.id,x.r,rfl,lk,ro,?_⟩
  generalize aI ra 40 u x.ins x.id x.r=p at lk2 ro2 sm rc0 rc1 ⊢
  rw[if_pos (by simp)]
  refine⟨p.v,rfl,p.v,rfl,sm,p.ra,fM w 40 p,40,6,p.w,.no,rfl,rfl,⟨rfl,rfl⟩,by decide,lk2,ro2,?_⟩
  by_cases c:p.e=0
  ·obtain⟨k1,k2⟩:=rc0 c
   rw[if_pos (by simp[c]),k1,if_pos (by rw[MO.IM k2]; simp),if_pos (by simp),if_neg (by simp[c])]
   exact⟨⟨i+1,p.ra,fM w 40 p,p.w⟩,(show told.length-(i+1)<told.length-i by omega),⟨h,lk2,ro2⟩,by rw[ar h (by omega)],[_,_,_,_,_,_],rfl,Nat.le_refl _,.inr ⟨EL,xN⟩⟩
  ·rw[if_neg (by simp[c]),if_pos (by simp[c]),if_neg (by rw[rc1 c]; decide)]
   exact⟨⟨i+1,p.ra,fM w 40 p,p.w⟩,(show told.length-(i+1)<told.length-i by omega),⟨h,lk2,ro2⟩,by rw[ar h (by omega)],[_,_,_,_,_,_],rfl,Nat.le_refl _,.inr ⟨EL,xN⟩⟩
 ·rw[if_neg (by omega)]
  exact hQ _ _
def TLV:Tab:=[(6,.pure Jb),(7,.heap Jv),(8,.read rF),(14,.pure yp)]
theorem Kx:TbK TLV:= .cons Mb (.cons L3 (.cons w6 (.cons D6 (.nil _ _))))
theorem Mn (d:Wd) (told:List Td):(by refine(?_:_→_→Prop) [PV.list (d.ra.map prC) .no,.list (d.rows.map lcs) .no,.list (d.st.map i1) .no] (PV.list (told.map tdc) .no); exact fun f g=>∀(K:PV→Prop),(∃(w:Wd) (t1:Tail) (t2:Tail) (t3:Tail),ah [.agg f] [.agg [.list (w.ra.map prC) t1,.list (w.rows.map lcs) t2,.list (w.st.map i1) t3]]∧br (fl w == false) (br (decide ((↑(List.length (told.map tdc)):Int)>20)) (K (.bool true)) (∃(d_1:Wd),by refine(?_:_→_→Prop) (Prod.fst (eY d_1 d_1.rows.length)) [PV.list (List.map csI (nR d_1.ra)) .no,.I 40]; exact fun b c=>by refine(?_:_→_→Prop) [Ob.cells f,.abs (rkI (dO [] 40 d_1.ra) 40),.abs (rkM (aq b) 6),.cells [.ptr 2 0],.cells c] (PV.list (List.map mtc b) .no); exact fun a e=>ah [.agg f] [.agg [.list (d_1.ra.map prC) .no,.list (d_1.rows.map lcs) .no,.list (d_1.st.map i1) .no]]∧fl d_1=false∧raP d_1∧∃(l:List RwI) (w:List RwI) (m:Int) (k:Int) (u:List Mt) (tl:Tail),ah [.agg c,e] [.agg [.list (w.map csI) .no,.I m],.list (u.map mtc) tl]∧bU a 1 (rkI l m)∧cm a 3 2 (rkM (aq u) k)∧1≠2∧bY l w m∧MO u k∧∃(d_2:Wd) (ra:List RwI) (w:List RwI) (u:List Mt) (told_1:List Td),told_1.length≤1000000∧bY ra w 40∧MO u 6∧ah [g,.bool false,.ptr 1 0,.ptr 3 0,.ptr 4 0,e,.I 0] [.list (told_1.map tdc) .no,.bool false,.ptr 1 0,.ptr 3 0,.ptr 4 0,.list (u.map mtc) .no,.I 0]∧av a [.cells [.list (d_2.ra.map prC) .no,.list (d_2.rows.map lcs) .no,.list (d_2.st.map i1) .no],.abs (rkI ra 40),.abs (rkM (aq u) 6),.cells [.ptr 2 0],.cells [.list (w.map csI) .no,.I 40]]∧∀(_:List PV),∀(_:ae),ah [] []∧K (.bool true))) (K (.bool true)))→AcK 3 [.agg (wdC d),g] [] (fun x _=>K x):Prop):=fun K h=>acW (T:=TLV) (L:=[([1,1,1,1,0,1,0],JI)]) (fun o=>match o.dst with|some 20|some 28|some 43=>1|_=>0) Tryz.func3 (Kx) (.cons suE EZ (.nil _ _ _ _ _)) h
theorem tP (d:Wd) (told:List Td) (hp:raP d):AcK 3 [.agg (wdC d),.list (told.map tdc) .no] [] (fun x _=>x = .bool true):=by
 refine Mn d told (fun x=>x = .bool true) ⟨d,.no,.no,.no,rfl,?_⟩
 simp only[au,List.length_map]
 by_cases c1:fl d=true
 ·rw[if_neg (by rw[c1]; decide)]; trivial
 have c1:=eq_false_of_ne_true c1
 rw[if_pos (by rw[c1]; rfl)]
 by_cases c2:told.length>20
 ·rw[if_pos (by simp; omega)]; trivial
 rw[if_neg (by simp; omega)]
 refine⟨d,rfl,c1,hp,?_⟩
 obtain⟨ro,_⟩:=lW d d.rows.length
 have lk:=yT d
 exact⟨_,_,40,6,_,.no,rfl,rfl,⟨rfl,rfl⟩,by decide,lk,ro,d,_,_,_,told,by omega,lk,ro,rfl,rfl,fun _ _=>⟨rfl,trivial⟩⟩
end Go.Proofs.YtenaelaapdhbdaaGreatDoor
namespace Go.Proofs.YtenaelaapdhbdaaGreatDoor
open Go Go.AM Go.Proofs
set_option maxRecDepth 10000
theorem u_3:Tryz.prog.underlying 3=some (.int .i64):=by kernel_rfl
theorem GW:Tryz.prog.underlying 38=some (.int .u32):=by kernel_rfl
theorem NV:Tryz.prog.underlying 47=some (.slice 38):=by kernel_rfl
theorem NP:Tryz.prog.underlying 59=some (.slice 75):=by kernel_rfl
theorem NM:Tryz.prog.underlying 22=some (.slice 80):=by kernel_rfl
theorem N1:Tryz.prog.underlying 23=some (.slice 59):=by kernel_rfl
theorem NR:Tryz.prog.underlying 24=some (.slice 3):=by kernel_rfl
theorem NI:Tryz.prog.underlying 27=some (.slice 40):=by kernel_rfl
theorem NQ:∃ fs,Tryz.prog.underlying 75=some (.struct fs)∧fs.toList.map (·.type)=[3,47,3,3]:=⟨_,Tryz.underlying75,rfl⟩
theorem NH:∃ fs,Tryz.prog.underlying 80=some (.struct fs)∧fs.toList.map (·.type)=[38,3]:=⟨_,Tryz.underlying80,rfl⟩
theorem NS:∃ fs,Tryz.prog.underlying 40=some (.struct fs)∧fs.toList.map (·.type)=[38,38,3]:=⟨_,Tryz.underlying40,rfl⟩
theorem N0:∃ fs,Tryz.prog.underlying 26=some (.struct fs)∧fs.toList.map (·.type)=[22,23,24]:=⟨_,Tryz.underlying26,rfl⟩
theorem M1 {k:Nat} {xs:List PV} (h:WTp Tryz.prog (k+1+1) 47 xs):∃ l:List Int,xs=[.list (l.map u1) .no]∧∀ p∈l,0≤p:=by
 obtain⟨es,rfl,_,g⟩:=gU NV h
 obtain⟨l,rfl,hl⟩:=iH (f:=u1) (Q:=fun n=>0≤n) fun r hr=>by
  obtain⟨n,h1,h2,_⟩:=fx GW (g r hr)
  exact⟨n,h1,h2⟩
 exact⟨l,rfl,hl⟩
theorem M0 {k:Nat} {cs:List PV} (h:WTp Tryz.prog (k+1+1+1) 75 cs):∃ r:Rr,cs=rrc r∧∀ p∈r.pl,0≤p:=by
 obtain⟨fs,hs,hf⟩:=NQ
 have g:=ig hs h
 rw[hf] at g
 obtain⟨x1,r1,rfl,h1,g⟩:=dk g
 obtain⟨x2,r2,rfl,h2,g⟩:=dk g
 obtain⟨x3,r3,rfl,h3,g⟩:=dk g
 obtain⟨x4,r4,rfl,h4,g⟩:=dk g
 obtain rfl:=od g
 obtain⟨a,rfl,_⟩:=fx u_3 h1
 obtain⟨l,rfl,h7⟩:=M1 h2
 obtain⟨b,rfl,_⟩:=fx u_3 h3
 obtain⟨c,rfl,_⟩:=fx u_3 h4
 exact⟨⟨a,l,b,c⟩,rfl,h7⟩
theorem NE {k:Nat} {cs:List PV} (h:WTp Tryz.prog (k+1+1+1+1) 59 cs):∃ l:List Rr,cs=lcs l∧wJ l:=by
 obtain⟨es,rfl,_,g⟩:=gU NP h
 obtain⟨l,rfl,hl⟩:=iH (f:=rrc) (Q:=fun r=>∀ p∈r.pl,0≤p) fun r hr=>M0 (g r hr)
 exact⟨l,rfl,hl⟩
theorem MV {k:Nat} {cs:List PV} (h:WTp Tryz.prog (k+1+1) 80 cs):∃ p:Int×Int,cs=prC p∧0≤p.1:=by
 obtain⟨fs,hs,hf⟩:=NH
 have g:=ig hs h
 rw[hf] at g
 obtain⟨x1,r1,rfl,h1,g⟩:=dk g
 obtain⟨x2,r2,rfl,h2,g⟩:=dk g
 obtain rfl:=od g
 obtain⟨a,rfl,ha,_⟩:=fx GW h1
 obtain⟨b,rfl,_⟩:=fx u_3 h2
 exact⟨(a,b),rfl,ha⟩
theorem MN {k:Nat} {cs:List PV} (h:WTp Tryz.prog (k+1+1) 40 cs):∃ x:Td,cs=tdc x∧True:=by
 obtain⟨fs,hs,hf⟩:=NS
 have g:=ig hs h
 rw[hf] at g
 obtain⟨x1,r1,rfl,h1,g⟩:=dk g
 obtain⟨x2,r2,rfl,h2,g⟩:=dk g
 obtain⟨x3,r3,rfl,h3,g⟩:=dk g
 obtain rfl:=od g
 obtain⟨a,rfl,_⟩:=fx GW h1
 obtain⟨b,rfl,_⟩:=fx GW h2
 obtain⟨c,rfl,_⟩:=fx u_3 h3
 exact⟨⟨a,b,c⟩,rfl,trivial⟩
theorem Nk {x:PV} (h:WTa Tryz.prog 6 26 x):∃ d:Wd,x = .agg (wdC d)∧raP d:=by
 obtain⟨fs,hs,hf⟩:=N0
 obtain⟨cs,rfl,g⟩:=vj hs h
 rw[hf] at g
 obtain⟨x1,r1,rfl,h1,g⟩:=dk g
 obtain⟨x2,r2,rfl,h2,g⟩:=dk g
 obtain⟨x3,r3,rfl,h3,g⟩:=dk g
 obtain rfl:=od g
 obtain⟨e1,rfl,_,g1⟩:=gU NM h1
 obtain⟨ra,rfl,ha⟩:=iH (f:=prC) (Q:=fun p=>0≤p.1) fun r hr=>MV (g1 r hr)
 obtain⟨e2,rfl,_,g2⟩:=gU N1 h2
 obtain⟨rw_,rfl,hb⟩:=iH (f:=lcs) (Q:=fun l=>wJ l) fun r hr=>NE (g2 r hr)
 obtain⟨e3,rfl,_,g3⟩:=gU NR h3
 obtain⟨st,rfl,_⟩:=iH (f:=i1) (Q:=fun _=>True) fun r hr=>by
  obtain⟨n,h1,_⟩:=fx u_3 (g3 r hr)
  exact⟨n,h1,trivial⟩
 exact⟨⟨ra,rw_,st⟩,rfl,ha,hb⟩
theorem sF (xs:List PV) (h:sj Tryz.prog 6 Tryz.f3.params.toList xs):AcK 3 xs [] (fun x _=>x = .bool true):=by
 rw[Tryz.params3] at h
 obtain⟨x,r,rfl,h1,y,r2,rfl,h2,h3⟩:=h
 obtain rfl:=vC h3
 obtain⟨d,rfl,hp⟩:=Nk h1
 obtain⟨es,rfl,_,g⟩:=BQ NI h2
 obtain⟨l,rfl,_⟩:=iH (f:=tdc) (Q:=fun _=>True) fun r hr=>MN (g r hr)
 exact tP d l hp
end Go.Proofs.YtenaelaapdhbdaaGreatDoor
