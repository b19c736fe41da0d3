/-
  Report.
-/
import Derived.Test.YtenaelaapdhbdaaDoorDbg
import Derived.Test.YtenaelaapdhbdaaDoorA4
import Derived.Test.YtenaelaapdhbdaaDoorProg
namespace Go.Proofs.YtenaelaapdhbdaaDoor
open Go Go.AM Go.Proofs
theorem u9 {c:Mt} (h:c.Ok):c.aa.length=tot c.rows:=by
 have e:=h.pm.length_eq
 unfold ff pairs at e
 rw[List.length_map,List.length_flatMap] at e
 rw[e]; unfold tot
 congr 1
 exact List.map_congr_left fun r _=>List.length_map _
theorem LU {c:Mt} (h:c.Ok):tot c.rows≤8:=by rw[mB h.tm]; have:=h.t1; have:=h.t2; omega
def Be (args:List PV) (H:ag) (K:PV→ag→Prop):Prop:=∃(w:List Mt) (m id:Int),ak args [.ptr 2 0,.int .u32 id]∧bM H 2 1 (rkM (aq w) m)∧MO w m∧K (.tup [(gM w id).pv,.bool (aX Mt.id w id)]) (H.set 1 (.abs (rkM (aq (dN Mt.id w id)) m)))
theorem GI:aQ Tryd.prog gl 23 (.heap Be):=fun args H K ⟨w,m,id,he,hb,ro,hk⟩=>Lx args H K ⟨2,1,w,m,id,he,hb,ro,hk⟩
def TRP:Tab:=[(20,.read uL),(21,.read x6),(22,.heap r5),(23,.heap Be)]
theorem KN:aE Tryd.prog gl TRP:= .cons xm (.cons Ah (.cons D3 (.cons GI (.nil _ _))))
theorem Ll (ra:List RwI) (mb:Int) (w:List Mt) (m ins id r:Int):(by refine(?_:_→_→_→_→_→Prop) [PV.int .u32 0,.int .u32 0,.int .i64 0,.list [] .exact,.list [] .exact,.list [] .exact] [PV.int .u32 0,.int .i64 0,.int .u32 0,.list [] .exact,.list [] .exact] (Ob.abs (rkM (aq w) m)) [PV.ptr 2 0,.int .u32 id] (Ob.abs (rkI ra mb)); exact fun j k l n o=>∀(K:PV→ag→Prop),(∃(q:Nat) (r_1:Nat) (w_1:List Mt) (m_1:Int) (t:Int),by refine(?_:_→Prop) [PV.int .u32 (Mt.id (gM w_1 t)),.int .i64 (Mt.md (gM w_1 t)),.int .u32 (Mt.ins (gM w_1 t)),.list (List.map rrc (Mt.rows (gM w_1 t))) .no,.list (List.map stc (Mt.aa (gM w_1 t))) .no]; exact fun g=>by refine(?_:_→Prop) [o,l,.cells [.ptr 1 0],.cells j,.cells k,.cells g]; exact fun h=>ak n [.ptr q 0,.int .u32 t]∧bM [.abs (rkI ra mb),l,.cells [.ptr 1 0],.cells j,.cells k] q r_1 (rkM (aq w_1) m_1)∧MO w_1 m_1∧br (!aX Mt.id w_1 t) (K (.tup [.agg j,.agg k,.int .i64 12]) h) (br (Mt.ins (gM w_1 t) != ins) (K (.tup [.agg j,.agg k,.int .i64 13]) h) (∃(q:Nat) (ra_1:List RwI) (most:Int) (c:Mt) (t1:Tail) (t2:Tail) (r_2:Int),by refine(?_:_→Prop) (bL ra_1 c r_2); exact fun f=>by refine(?_:_→Prop) (Prod.fst f); exact fun e=>by refine(?_:_→Prop) [PV.int .u32 (Vd.m e),.int .u32 (Vd.i e),.int .i64 (Vd.r e),.list (List.map u1 (Vd.ps e)) .no,.list (List.map i1 (Vd.old e)) .no,.list (List.map i1 (Vd.new e)) .no]; exact fun b=>by refine(?_:_→Prop) [o,l,.cells [.ptr 1 0],.cells j,.cells k,.cells g,.cells b]; exact fun d=>ak [.ptr 0 0,.agg g,.int .i64 r] [.ptr q 0,.agg [.int .u32 c.id,.int .i64 c.md,.int .u32 c.ins,.list (c.rows.map rrc) t1,.list (c.aa.map stc) t2],.int .i64 r_2]∧bH h q (rkI ra_1 most)∧Ok ra_1 most∧c.aa.length≤100000∧br (Prod.snd f != 0) (K (.tup [.agg j,.agg k,.int .i64 (Prod.snd f)]) d) (∃(ra_2:List RwI) (most:Int) (v:Vd) (t1:Tail) (t2:Tail) (t3:Tail),by refine(?_:_→Prop) (Ob.abs (rkI (Prod.fst (ee ra_2 most v)) most)); exact fun a=>ak [.agg b] [.agg [.int .u32 v.m,.int .u32 v.i,.int .i64 v.r,.list (v.ps.map u1) t1,.list (v.old.map i1) t2,.list (v.new.map i1) t3]]∧bH d 0 (rkI ra_2 most)∧Ok ra_2 most∧v.ps.length≤1000000∧∃(w_2:List Mt) (m_2:Int) (id_1:Int),ak n [.ptr 2 0,.int .u32 id_1]∧bM [a,l,.cells [.ptr 1 0],.cells j,.cells k,.cells g,.cells b] 2 1 (rkM (aq w_2) m_2)∧MO w_2 m_2∧K (.tup [.agg b,.agg g,.int .i64 0]) [a,.abs (rkM (aq (dN Mt.id w_2 id_1)) m_2),.cells [.ptr 1 0],.cells b,.cells g,.cells g,.cells b]))))→an Tryd.prog gl 7 [.ptr 0 0,.ptr 2 0,.int .u32 ins,.int .u32 id,.int .i64 r] [.abs (rkI ra mb),l,.cells [.ptr 1 0]] K:Prop):=fun K h=>ai (T:=TRP) (L:=[]) (fun o=>match o.dst with|some 37=>1|some 48=>1|some 53=>601006|some 54=>501005|some _=>0|none=>match o.op with| .store _ (.tmp 10) (.tmp 53)=>301006| .store _ (.tmp 11) (.tmp 54)=>401005|_=>0) Tryd.func7 (by kernel_rfl) (by kernel_rfl) (by kernel_rfl) (KN) (LOk.nil _ _ _ _ _) (ah (by kernel_rfl) h)
structure Rp where
 ra:List RwI
 w:List Mt
 v:Vd
 c:Mt
 e:Int
def bn (ra:List RwI) (mb:Int) (w:List Mt) (ins id r:Int):Rp:=
 if aX Mt.id w id=false then⟨ra,w,vd0,mt0,12⟩ else if(gM w id).ins≠ins then⟨ra,w,vd0,mt0,13⟩ else if(bL ra (gM w id) r).2≠0 then⟨ra,w,vd0,mt0,(bL ra (gM w id) r).2⟩
 else⟨(ee ra mb (bL ra (gM w id) r).1).1,dN Mt.id w id,(bL ra (gM w id) r).1,gM w id,0⟩
def L6 (p:Rp):PV:= .tup [.agg (vdC p.v),p.c.pv,.int .i64 p.e]
theorem sS {n:Nat} (p:Rp):Low n (L6 p):= .tup _ (dy (.agg _ (rJ _)) (p.c.low) (.int _ _))
theorem uz {ra:List RwI} {c:Mt} {r:Int}:(bL ra c r).1.ps.length≤2*c.aa.length:=by
 have l1:=(jv ra c.aa 1).1
 have l2:=(jv ra c.aa 2).1
 have z:vd0.ps.length≤2*c.aa.length:=Nat.zero_le _
 unfold bL
 split
 ·exact z
 split
 ·exact z
 split
 ·exact z
 split
 ·split
  ·exact z
  ·show(_++_:List Int).length≤_; rw[List.length_append]; omega
 ·show(_++_:List Int).length≤_; rw[List.length_append]; omega
theorem q9 {e:Int}:Wk (.tup [.agg [.int .u32 0,.int .u32 0,.int .i64 0,.list [] .exact,.list [] .exact,.list [] .exact],.agg [.int .u32 0,.int .i64 0,.int .u32 0,.list [] .exact,.list [] .exact],.int .i64 e]) (.tup [.agg (vdC vd0),mt0.pv,.int .i64 e]):=
 .tup (.cons (.agg (xs':=vdC vd0) (.cons (.refl _) (.cons (.refl _) (.cons (.refl _) (.cons (.list _ _) (.cons (.list _ _) (.cons (.list _ _) .nil))))))) (.cons (.agg (xs':=mtc mt0) (.cons (.refl _) (.cons (.refl _) (.cons (.refl _) (.cons (.list _ _) (.cons (.list _ _) .nil)))))) (.cons (.refl _) .nil)))
theorem mW {ra:List RwI} {mb:Int} {w:List Mt} {m:Int} (ok:Ok ra mb) (ro:MO w m) (ins id r:Int):an Tryd.prog gl 7 [.ptr 0 0,.ptr 2 0,.int .u32 ins,.int .u32 id,.int .i64 r] [.abs (rkI ra mb),.abs (rkM (aq w) m),.cells [.ptr 1 0]] (fun x H'=>Wk x (L6 (bn ra mb w ins id r))∧∃ G,H' = .abs (rkI (bn ra mb w ins id r).ra mb) :: .abs (rkM (aq (bn ra mb w ins id r).w) m) :: .cells [.ptr 1 0]::G):=by
 refine Ll ra mb w m ins id r _ ?_
 simp only[az]
 refine⟨2,1,w,m,id,rfl,⟨rfl,rfl⟩,ro,?_⟩
 by_cases c1:aX Mt.id w id=true
 ·rw[if_neg (by rw[c1]; decide)]
  by_cases c2:(gM w id).ins=ins
  ·rw[if_neg (by simp[c2])]
   have hs:(gM w id).aa.length≤8:=by have h:=ro.cs _ (eg c1).1; rw[u9 h]; exact LU h
   refine⟨0,ra,mb,gM w id,.no,.no,r,rfl,rfl,ok,by omega,?_⟩
   by_cases c3:(bL ra (gM w id) r).2=0
   ·rw[if_neg (by simp[c3])]
    have hl:=uz (ra:=ra) (c:=gM w id) (r:=r)
    have e:bn ra mb w ins id r=⟨(ee ra mb (bL ra (gM w id) r).1).1,dN Mt.id w id,(bL ra (gM w id) r).1,gM w id,0⟩:=by unfold bn; rw[if_neg (by rw[c1]; decide),if_neg (by simp[c2]),if_neg (by simp[c3])]
    refine⟨ra,mb,(bL ra (gM w id) r).1,.no,.no,.no,rfl,rfl,ok,by omega,w,m,id,rfl,⟨rfl,rfl⟩,ro,?_⟩
    rw[e]
    exact⟨.refl _,_,rfl⟩
   ·rw[if_pos (by simpa using c3)]
    have e:bn ra mb w ins id r=⟨ra,w,vd0,mt0,(bL ra (gM w id) r).2⟩:=by unfold bn; rw[if_neg (by rw[c1]; decide),if_neg (by simp[c2]),if_pos c3]
    rw[e]; exact⟨q9,_,rfl⟩
  ·rw[if_pos (by simpa using c2)]
   have e:bn ra mb w ins id r=⟨ra,w,vd0,mt0,13⟩:=by unfold bn; rw[if_neg (by rw[c1]; decide),if_pos c2]
   rw[e]; exact⟨q9,_,rfl⟩
 ·rw[if_pos (by rw[eq_false_of_ne_true c1]; rfl)]
  have e:bn ra mb w ins id r=⟨ra,w,vd0,mt0,12⟩:=by unfold bn; rw[if_pos (eq_false_of_ne_true c1)]
  rw[e]; exact⟨q9,_,rfl⟩
theorem iq {ra:List RwI} {mb:Int} {w:List Mt} {m:Int} (ok:Ok ra mb) (ro:MO w m) (ins id r:Int):Ok (bn ra mb w ins id r).ra mb∧MO (bn ra mb w ins id r).w m:=by
 unfold bn
 split
 ·exact⟨ok,ro⟩
 split
 ·exact⟨ok,ro⟩
 split
 ·exact⟨ok,ro⟩
 ·exact⟨zi ok _,ro.drop _⟩
def kQ (args:List PV) (H:ag) (K:PV→ag→Prop):Prop:=match args with
 | .ptr q 0 :: .ptr t 0::rest=>match LF H t with
  | some a=>∃(ra:List RwI) (mb:Int) (w:List Mt) (m ins id r:Int),ak rest [.int .u32 ins,.int .u32 id,.int .i64 r]∧bH H q (rkI ra mb)∧bM H t a (rkM (aq w) m)∧q≠a∧Ok ra mb∧MO w m∧
   (let p:=bn ra mb w ins id r; K (.tup [.agg [.int .u32 p.v.m,.int .u32 p.v.i,.int .i64 p.v.r,.list (p.v.ps.map u1) .no,.list (p.v.old.map i1) .no,.list (p.v.new.map i1) .no],.agg [.int .u32 p.c.id,.int .i64 p.c.md,.int .u32 p.c.ins,.list (p.c.rows.map rrc) .no,.list (p.c.aa.map stc) .no],.int .i64 p.e]) ((H.set q (.abs (rkI p.ra mb))).set a (.abs (rkM (aq p.w) m))))
  | none=>False
 | _=>False
theorem qp:aQ Tryd.prog gl 7 (.heap kQ):=by
 intro args H K h
 unfold kQ at h
 split at h
 ·rename_i q t rest
  split at h
  ·rename_i a ha
   obtain⟨ra,mb,w,m,ins,id,r,he,hI,hB,hne,ok,ro,hk⟩:=h
   have he:rest=_:=he
   subst he
   exact oE ay hI hB hne (dy (.int _ _) (.int _ _) (.int _ _)) (sS (bn ra mb w ins id r)) (bC ((mW ok ro ins id r).mono fun x H' ⟨h1,h2⟩=>⟨_,h1,rfl,h2⟩)) hk
  ·exact h.elim
 ·exact h.elim
end Go.Proofs.YtenaelaapdhbdaaDoor
