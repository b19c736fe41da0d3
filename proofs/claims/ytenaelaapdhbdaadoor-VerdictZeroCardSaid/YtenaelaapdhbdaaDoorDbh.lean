/-
  Report.
-/
import Derived.Test.YtenaelaapdhbdaaDoorDbg
import Derived.Test.YtenaelaapdhbdaaDoorA4
import Derived.Test.YtenaelaapdhbdaaDoorProg
namespace Go.Proofs.YtenaelaapdhbdaaDoor
open Go Go.AM Go.Proofs
theorem ox {c:Mt} (h:c.Ok):c.aa.length=tot c.rows:=by
 have e:=h.pm.length_eq
 unfold eL pairs at e
 rw[List.length_map,List.length_flatMap] at e
 rw[e]; unfold tot
 congr 1
 exact List.map_congr_left fun r _=>List.length_map _
theorem Hq {c:Mt} (h:c.Ok):tot c.rows≤8:=by rw[lJ h.tm]; have:=h.t1; have:=h.t2; omega
def B7 (args:List PV) (H:ae) (K:PV→ae→Prop):Prop:=∃(w:List Mt) (m id:Int),ak args [.ptr 2 0,.int .u32 id]∧cC H 2 1 (rkM (ar w) m)∧MO w m∧K (.tup [(gM w id).pv,.bool (bu Mt.id w id)]) (H.set 1 (.abs (rkM (ar (eN Mt.id w id)) m)))
theorem EK:aO Tryd.prog gl 23 (.heap B7):=fun args H K ⟨w,m,id,he,hb,ro,hk⟩=>Jj args H K ⟨2,1,w,m,id,he,hb,ro,hk⟩
def TRP:Tab:=[(20,.read uV),(21,.read ww),(22,.heap qV),(23,.heap B7)]
theorem IG:aB Tryd.prog gl TRP:= .cons w7 (.cons yZ (.cons D6 (.cons EK (.nil _ _))))
theorem Jg (ra:List RwI) (mb:Int) (w:List Mt) (m ins id r:Int):(by refine(?_:_→_→_→_→_→Prop) [PV.int .u32 0,.int .u32 0,.int .i64 0,.list [] .exact,.list [] .exact,.list [] .exact] [PV.int .u32 0,.int .i64 0,.int .u32 0,.list [] .exact,.list [] .exact] (Ob.abs (rkM (ar w) m)) [PV.ptr 2 0,.int .u32 id] (Ob.abs (rkI ra mb)); exact fun j k l n o=>∀(K:PV→ae→Prop),(∃(q:Nat) (r_1:Nat) (w_1:List Mt) (m_1:Int) (t:Int),by refine(?_:_→Prop) [PV.int .u32 (Mt.id (gM w_1 t)),.int .i64 (Mt.md (gM w_1 t)),.int .u32 (Mt.ins (gM w_1 t)),.list (List.map rrc (Mt.rows (gM w_1 t))) .no,.list (List.map stc (Mt.aa (gM w_1 t))) .no]; exact fun g=>by refine(?_:_→Prop) [o,l,.cells [.ptr 1 0],.cells j,.cells k,.cells g]; exact fun h=>ak n [.ptr q 0,.int .u32 t]∧cC [.abs (rkI ra mb),l,.cells [.ptr 1 0],.cells j,.cells k] q r_1 (rkM (ar w_1) m_1)∧MO w_1 m_1∧br (!bu Mt.id w_1 t) (K (.tup [.agg j,.agg k,.int .i64 12]) h) (br (Mt.ins (gM w_1 t) != ins) (K (.tup [.agg j,.agg k,.int .i64 13]) h) (∃(q:Nat) (ra_1:List RwI) (most:Int) (c:Mt) (t1:Tail) (t2:Tail) (r_2:Int),by refine(?_:_→Prop) (bE ra_1 c r_2); exact fun f=>by refine(?_:_→Prop) (Prod.fst f); exact fun e=>by refine(?_:_→Prop) [PV.int .u32 (Vd.m e),.int .u32 (Vd.i e),.int .i64 (Vd.r e),.list (List.map u1 (Vd.ps e)) .no,.list (List.map i1 (Vd.old e)) .no,.list (List.map i1 (Vd.new e)) .no]; exact fun b=>by refine(?_:_→Prop) [o,l,.cells [.ptr 1 0],.cells j,.cells k,.cells g,.cells b]; exact fun d=>ak [.ptr 0 0,.agg g,.int .i64 r] [.ptr q 0,.agg [.int .u32 c.id,.int .i64 c.md,.int .u32 c.ins,.list (c.rows.map rrc) t1,.list (c.aa.map stc) t2],.int .i64 r_2]∧bO h q (rkI ra_1 most)∧Ok ra_1 most∧c.aa.length≤100000∧br (Prod.snd f != 0) (K (.tup [.agg j,.agg k,.int .i64 (Prod.snd f)]) d) (∃(ra_2:List RwI) (most:Int) (v:Vd) (t1:Tail) (t2:Tail) (t3:Tail),by refine(?_:_→Prop) (Ob.abs (rkI (Prod.fst (cX ra_2 most v)) most)); exact fun a=>ak [.agg b] [.agg [.int .u32 v.m,.int .u32 v.i,.int .i64 v.r,.list (v.ps.map u1) t1,.list (v.old.map i1) t2,.list (v.new.map i1) t3]]∧bO d 0 (rkI ra_2 most)∧Ok ra_2 most∧v.ps.length≤1000000∧∃(w_2:List Mt) (m_2:Int) (id_1:Int),ak n [.ptr 2 0,.int .u32 id_1]∧cC [a,l,.cells [.ptr 1 0],.cells j,.cells k,.cells g,.cells b] 2 1 (rkM (ar w_2) m_2)∧MO w_2 m_2∧K (.tup [.agg b,.agg g,.int .i64 0]) [a,.abs (rkM (ar (eN Mt.id w_2 id_1)) m_2),.cells [.ptr 1 0],.cells b,.cells g,.cells g,.cells b]))))→aj Tryd.prog gl 7 [.ptr 0 0,.ptr 2 0,.int .u32 ins,.int .u32 id,.int .i64 r] [.abs (rkI ra mb),l,.cells [.ptr 1 0]] K:Prop):=fun K h=>ah (T:=TRP) (L:=[]) (fun o=>match o.dst with|some 37=>1|some 48=>1|some 53=>601006|some 54=>501005|some _=>0|none=>match o.op with| .store _ (.tmp 10) (.tmp 53)=>301006| .store _ (.tmp 11) (.tmp 54)=>401005|_=>0) Tryd.func7 (by kernel_rfl) (by kernel_rfl) (by kernel_rfl) (IG) (LOk.nil _ _ _ _ _) (ag (by kernel_rfl) h)
structure Rp where
 ra:List RwI
 w:List Mt
 v:Vd
 c:Mt
 e:Int
def bi (ra:List RwI) (mb:Int) (w:List Mt) (ins id r:Int):Rp:=
 if bu Mt.id w id=false then⟨ra,w,vd0,mt0,12⟩ else if(gM w id).ins≠ins then⟨ra,w,vd0,mt0,13⟩ else if(bE ra (gM w id) r).2≠0 then⟨ra,w,vd0,mt0,(bE ra (gM w id) r).2⟩
 else⟨(cX ra mb (bE ra (gM w id) r).1).1,eN Mt.id w id,(bE ra (gM w id) r).1,gM w id,0⟩
def KJ (p:Rp):PV:= .tup [.agg (vdC p.v),p.c.pv,.int .i64 p.e]
theorem zE {n:Nat} (p:Rp):Low n (KJ p):= .tup _ (dK (.agg _ (qe _)) (p.c.low) (.int _ _))
theorem oV {ra:List RwI} {c:Mt} {r:Int}:(bE ra c r).1.ps.length≤2*c.aa.length:=by
 have l1:=(iH ra c.aa 1).1
 have l2:=(iH ra c.aa 2).1
 have z:vd0.ps.length≤2*c.aa.length:=Nat.zero_le _
 unfold bE
 split
 ·exact z
 split
 ·exact z
 split
 ·exact z
 split
 ·split
  ·exact z
  ·show(_++_:List Int).length≤_; rw[List.length_append]; omega
 ·show(_++_:List Int).length≤_; rw[List.length_append]; omega
theorem qs {e:Int}:Wk (.tup [.agg [.int .u32 0,.int .u32 0,.int .i64 0,.list [] .exact,.list [] .exact,.list [] .exact],.agg [.int .u32 0,.int .i64 0,.int .u32 0,.list [] .exact,.list [] .exact],.int .i64 e]) (.tup [.agg (vdC vd0),mt0.pv,.int .i64 e]):=
 .tup (.cons (.agg (xs':=vdC vd0) (.cons (.refl _) (.cons (.refl _) (.cons (.refl _) (.cons (.list _ _) (.cons (.list _ _) (.cons (.list _ _) .nil))))))) (.cons (.agg (xs':=mtc mt0) (.cons (.refl _) (.cons (.refl _) (.cons (.refl _) (.cons (.list _ _) (.cons (.list _ _) .nil)))))) (.cons (.refl _) .nil)))
theorem rC {ra:List RwI} {mb:Int} {w:List Mt} {m:Int} (ok:Ok ra mb) (ro:MO w m) (ins id r:Int):aj Tryd.prog gl 7 [.ptr 0 0,.ptr 2 0,.int .u32 ins,.int .u32 id,.int .i64 r] [.abs (rkI ra mb),.abs (rkM (ar w) m),.cells [.ptr 1 0]] (fun x H'=>Wk x (KJ (bi ra mb w ins id r))∧∃ G,H' = .abs (rkI (bi ra mb w ins id r).ra mb) :: .abs (rkM (ar (bi ra mb w ins id r).w) m) :: .cells [.ptr 1 0]::G):=by
 refine Jg ra mb w m ins id r _ ?_
 simp only[ay]
 refine⟨2,1,w,m,id,rfl,⟨rfl,rfl⟩,ro,?_⟩
 by_cases c1:bu Mt.id w id=true
 ·rw[if_neg (by rw[c1]; decide)]
  by_cases c2:(gM w id).ins=ins
  ·rw[if_neg (by simp[c2])]
   have hs:(gM w id).aa.length≤8:=by have h:=ro.cs _ (fj c1).1; rw[ox h]; exact Hq h
   refine⟨0,ra,mb,gM w id,.no,.no,r,rfl,rfl,ok,by omega,?_⟩
   by_cases c3:(bE ra (gM w id) r).2=0
   ·rw[if_neg (by simp[c3])]
    have hl:=oV (ra:=ra) (c:=gM w id) (r:=r)
    have e:bi ra mb w ins id r=⟨(cX ra mb (bE ra (gM w id) r).1).1,eN Mt.id w id,(bE ra (gM w id) r).1,gM w id,0⟩:=by unfold bi; rw[if_neg (by rw[c1]; decide),if_neg (by simp[c2]),if_neg (by simp[c3])]
    refine⟨ra,mb,(bE ra (gM w id) r).1,.no,.no,.no,rfl,rfl,ok,by omega,w,m,id,rfl,⟨rfl,rfl⟩,ro,?_⟩
    rw[e]
    exact⟨.refl _,_,rfl⟩
   ·rw[if_pos (by simpa using c3)]
    have e:bi ra mb w ins id r=⟨ra,w,vd0,mt0,(bE ra (gM w id) r).2⟩:=by unfold bi; rw[if_neg (by rw[c1]; decide),if_neg (by simp[c2]),if_pos c3]
    rw[e]; exact⟨qs,_,rfl⟩
  ·rw[if_pos (by simpa using c2)]
   have e:bi ra mb w ins id r=⟨ra,w,vd0,mt0,13⟩:=by unfold bi; rw[if_neg (by rw[c1]; decide),if_pos c2]
   rw[e]; exact⟨qs,_,rfl⟩
 ·rw[if_pos (by rw[eq_false_of_ne_true c1]; rfl)]
  have e:bi ra mb w ins id r=⟨ra,w,vd0,mt0,12⟩:=by unfold bi; rw[if_pos (eq_false_of_ne_true c1)]
  rw[e]; exact⟨qs,_,rfl⟩
theorem jM {ra:List RwI} {mb:Int} {w:List Mt} {m:Int} (ok:Ok ra mb) (ro:MO w m) (ins id r:Int):Ok (bi ra mb w ins id r).ra mb∧MO (bi ra mb w ins id r).w m:=by
 unfold bi
 split
 ·exact⟨ok,ro⟩
 split
 ·exact⟨ok,ro⟩
 split
 ·exact⟨ok,ro⟩
 ·exact⟨xK ok _,ro.drop _⟩
def g9 (args:List PV) (H:ae) (K:PV→ae→Prop):Prop:=match args with
 | .ptr q 0 :: .ptr t 0::rest=>match K5 H t with
  | some a=>∃(ra:List RwI) (mb:Int) (w:List Mt) (m ins id r:Int),ak rest [.int .u32 ins,.int .u32 id,.int .i64 r]∧bO H q (rkI ra mb)∧cC H t a (rkM (ar w) m)∧q≠a∧Ok ra mb∧MO w m∧
   (let p:=bi ra mb w ins id r; K (.tup [.agg [.int .u32 p.v.m,.int .u32 p.v.i,.int .i64 p.v.r,.list (p.v.ps.map u1) .no,.list (p.v.old.map i1) .no,.list (p.v.new.map i1) .no],.agg [.int .u32 p.c.id,.int .i64 p.c.md,.int .u32 p.c.ins,.list (p.c.rows.map rrc) .no,.list (p.c.aa.map stc) .no],.int .i64 p.e]) ((H.set q (.abs (rkI p.ra mb))).set a (.abs (rkM (ar p.w) m))))
  | none=>False
 | _=>False
theorem mg:aO Tryd.prog gl 7 (.heap g9):=by
 intro args H K h
 unfold g9 at h
 split at h
 ·rename_i q t rest
  split at h
  ·rename_i a ha
   obtain⟨ra,mb,w,m,ins,id,r,he,hI,hB,hne,ok,ro,hk⟩:=h
   have he:rest=_:=he
   subst he
   exact uk aq hI hB hne (dK (.int _ _) (.int _ _) (.int _ _)) (zE (bi ra mb w ins id r)) (bA ((rC ok ro ins id r).mono fun x H' ⟨h1,h2⟩=>⟨_,h1,rfl,h2⟩)) hk
  ·exact h.elim
 ·exact h.elim
end Go.Proofs.YtenaelaapdhbdaaDoor
