/-
  VerdictZero's law.
-/
import Derived.Test.YtenaelaapdhbdaaDoorDbw
import Derived.Test.YtenaelaapdhbdaaDoorDbx
import Derived.Test.YtenaelaapdhbdaaDoorProg
namespace Go.Proofs.YtenaelaapdhbdaaDoor
open Go Go.AM Go.Proofs
theorem xT {ra:List RwI} {mb:Int} {w:List Mt} {m:Int} (ro:MO w m) (ins id r:Int):(bi ra mb w ins id r).v.ps.length≤1000000:=by
 unfold bi
 split
 ·exact Nat.zero_le _
 split
 ·exact Nat.zero_le _
 split
 ·exact Nat.zero_le _
 ·rename_i c1 _ _
  have h:=ro.cs _ (fj (eq_true_of_ne_false c1)).1
  have h1:=oV (ra:=ra) (c:=gM w id) (r:=r)
  have h2:=ox h
  have h3:=Hq h
  show(bE ra (gM w id) r).1.ps.length≤_
  have:(gM w id).aa=(mZ Mt.id w id).aa:=rfl
  rw[this] at h1; omega
theorem y6 (d:Wd) (x:Td) (hp:raP d):aj Tryd.prog gl 4 [.agg (wdC d),.agg (tdc x)] [] (fun y _=>y = .bool true):=by
 refine Ij d x (fun y=>y = .bool true) ?_
 refine⟨d,.no,.no,.no,rfl,?_⟩
 simp only[ay]
 by_cases c1:eR d=true
 ·rw[if_pos c1]; trivial
 ·have c1:=eq_false_of_ne_true c1
  rw[if_neg (by rw[c1]; decide)]
  obtain⟨ro,_⟩:=kA d d.rows.length
  have ok:Ok (b8 [] 40 d.ra) 40:=kS (Ok.none (by decide) (by decide)) _
  have ri:RiA (b8 [] 40 d.ra):=RiA.Lo (m:=40) (show RiA [] from fun _ h=>nomatch h) (Ok.none (by decide) (by decide)) _
  have hlen:(b8 [] 40 d.ra).length≤40:=by have:=ok.full; omega
  obtain⟨ra,hra⟩:∃ ra,ra=b8 [] 40 d.ra:=⟨_,rfl⟩
  obtain⟨w,hw⟩:∃ w,w=(eg d d.rows.length).1:=⟨_,rfl⟩
  have hrk:∀ z∈[PV.list ((mV d.ra).map csI) .no,.int .i64 40],Low 0 z:=bF (bD iM _) (.int _ _)
  obtain⟨ok2,ro2⟩:=jM (ra:=ra) (w:=w) (by rw[hra]; exact ok) (by rw[hw]; exact ro) x.ins x.id x.r
  have zd:=Ko (ra:=ra) (w:=w) (by rw[hra]; exact ok) (by rw[hra]; exact ri) (by rw[hw]; exact ro) x.ins x.id x.r
  have ps:=xT (ra:=ra) (mb:=40) (w:=w) (by rw[hw]; exact ro) x.ins x.id x.r
  refine⟨d,rfl,c1,hp,?_⟩
  rw[← hra] at ok ri hlen ⊢
  rw[← hw] at ro ⊢
  have sz:=wx (ra:=(bi ra 40 w x.ins x.id x.r).ra) (r0:=ra) ra 0 (fun s hs hne=>(zd.ch s hs hne).2.2) (by omega)
  rw[Int.zero_add] at sz
  refine⟨2,ra,40,rfl,rfl,ok,d,x,ra,w,_,ok,by omega,hrk,rfl,rfl,ra,40,w,6,x.ins,x.id,x.r,rfl,rfl,⟨rfl,rfl⟩,by decide,ok,ro,?_⟩
  generalize bi ra 40 w x.ins x.id x.r=p at ok2 ro2 zd ps sz ⊢
  refine⟨_,_,_,_,p.ra,p.w,p.v,_,_,_,_,ok2,ps,rfl,rfl,_,_,_,_,p.ra,ra,p.w,p.v,_,_,ok2,ps,by omega,fun s hs hne=>?_,rfl,rfl,?_⟩
  ·obtain⟨h1,h2,h3,_⟩:=zd.ch s hs hne
   exact⟨h1,h2,h3.1,h3.2⟩
  ·have le:((bl p.ra).length:Int)=(bl ra).length:=by unfold bl; rw[List.length_map,List.length_map,zd.len]
   by_cases c2:p.v.ps.any (kN p.ra)=true
   ·rw[if_neg (by rw[c2]; decide)]
    refine⟨2,p.ra,40,rfl,rfl,ok2,?_⟩
    rw[if_pos (by rw[le]; simp)]; exact⟨rfl,trivial⟩
   ·rw[if_pos (by rw[eq_false_of_ne_true c2]; rfl),if_pos (by rw[sz,zd.sum.resolve_left c2]; rfl)]
    refine⟨2,p.ra,40,rfl,rfl,ok2,?_⟩
    rw[if_pos (by rw[le]; simp)]; exact⟨rfl,trivial⟩
end Go.Proofs.YtenaelaapdhbdaaDoor
