/-
  VerdictOnce at whatever arguments.
-/
import Derived.Test.YtenaelaapdhbdaaDoorDbq
import Derived.Test.YtenaelaapdhbdaaDoorA3
import Derived.Test.YtenaelaapdhbdaaDoorProg
namespace Go.Proofs.YtenaelaapdhbdaaDoor
open Go Go.AM Go.Proofs
set_option maxRecDepth 10000
theorem u3:Tryd.prog.underlying 3=some (.int .i64):=by kernel_rfl
theorem u38:Tryd.prog.underlying 38=some (.int .u32):=by kernel_rfl
theorem u37:Tryd.prog.underlying 37=some (.slice 38):=by kernel_rfl
theorem u56:Tryd.prog.underlying 56=some (.slice 58):=by kernel_rfl
theorem u22:Tryd.prog.underlying 22=some (.slice 63):=by kernel_rfl
theorem u23:Tryd.prog.underlying 23=some (.slice 56):=by kernel_rfl
theorem u24:Tryd.prog.underlying 24=some (.slice 3):=by kernel_rfl
theorem u27:Tryd.prog.underlying 27=some (.slice 40):=by kernel_rfl
theorem s58:∃ fs,Tryd.prog.underlying 58=some (.struct fs)∧fs.toList.map (·.type)=[3,37,3,3]:=⟨_,Tryd.underlying58,rfl⟩
theorem s63:∃ fs,Tryd.prog.underlying 63=some (.struct fs)∧fs.toList.map (·.type)=[38,3]:=⟨_,Tryd.underlying63,rfl⟩
theorem s40:∃ fs,Tryd.prog.underlying 40=some (.struct fs)∧fs.toList.map (·.type)=[38,38,3]:=⟨_,Tryd.underlying40,rfl⟩
theorem s26:∃ fs,Tryd.prog.underlying 26=some (.struct fs)∧fs.toList.map (·.type)=[22,23,24]:=⟨_,Tryd.underlying26,rfl⟩
theorem LY {k:Nat} {xs:List PV} (h:WTp Tryd.prog (k+1+1) 37 xs):∃ l:List Int,xs=[.list (l.map u1) .no]∧∀ p∈l,0≤p:=by
 obtain⟨es,rfl,_,g⟩:=gv u37 h
 obtain⟨l,rfl,hl⟩:=ig (f:=u1) (Q:=fun n=>0≤n) fun r hr=>by
  obtain⟨n,h1,h2,_⟩:=fy u38 (g r hr)
  exact⟨n,h1,h2⟩
 exact⟨l,rfl,hl⟩
theorem L3 {k:Nat} {cs:List PV} (h:WTp Tryd.prog (k+1+1+1) 58 cs):∃ r:Rr,cs=rrc r∧∀ p∈r.pl,0≤p:=by
 obtain⟨fs,hs,hf⟩:=s58
 have g:=ir hs h
 rw[hf] at g
 obtain⟨x1,r1,rfl,h1,g⟩:=dj g
 obtain⟨x2,r2,rfl,h2,g⟩:=dj g
 obtain⟨x3,r3,rfl,h3,g⟩:=dj g
 obtain⟨x4,r4,rfl,h4,g⟩:=dj g
 obtain rfl:=nO g
 obtain⟨a,rfl,_⟩:=fy u3 h1
 obtain⟨l,rfl,h7⟩:=LY h2
 obtain⟨b,rfl,_⟩:=fy u3 h3
 obtain⟨c,rfl,_⟩:=fy u3 h4
 exact⟨⟨a,l,b,c⟩,rfl,h7⟩
theorem LL {k:Nat} {cs:List PV} (h:WTp Tryd.prog (k+1+1+1+1) 56 cs):∃ l:List Rr,cs=lcs l∧vE l:=by
 obtain⟨es,rfl,_,g⟩:=gv u56 h
 obtain⟨l,rfl,hl⟩:=ig (f:=rrc) (Q:=fun r=>∀ p∈r.pl,0≤p) fun r hr=>L3 (g r hr)
 exact⟨l,rfl,hl⟩
theorem LJ {k:Nat} {cs:List PV} (h:WTp Tryd.prog (k+1+1) 63 cs):∃ p:Int×Int,cs=prC p∧0≤p.1:=by
 obtain⟨fs,hs,hf⟩:=s63
 have g:=ir hs h
 rw[hf] at g
 obtain⟨x1,r1,rfl,h1,g⟩:=dj g
 obtain⟨x2,r2,rfl,h2,g⟩:=dj g
 obtain rfl:=nO g
 obtain⟨a,rfl,ha,_⟩:=fy u38 h1
 obtain⟨b,rfl,_⟩:=fy u3 h2
 exact⟨(a,b),rfl,ha⟩
theorem Mq {k:Nat} {cs:List PV} (h:WTp Tryd.prog (k+1+1) 40 cs):∃ x:Td,cs=tdc x∧True:=by
 obtain⟨fs,hs,hf⟩:=s40
 have g:=ir hs h
 rw[hf] at g
 obtain⟨x1,r1,rfl,h1,g⟩:=dj g
 obtain⟨x2,r2,rfl,h2,g⟩:=dj g
 obtain⟨x3,r3,rfl,h3,g⟩:=dj g
 obtain rfl:=nO g
 obtain⟨a,rfl,_⟩:=fy u38 h1
 obtain⟨b,rfl,_⟩:=fy u38 h2
 obtain⟨c,rfl,_⟩:=fy u3 h3
 exact⟨⟨a,b,c⟩,rfl,trivial⟩
theorem L1 {x:PV} (h:WTa Tryd.prog 6 26 x):∃ d:Wd,x = .agg (wdC d)∧raP d:=by
 obtain⟨fs,hs,hf⟩:=s26
 obtain⟨cs,rfl,g⟩:=wh hs h
 rw[hf] at g
 obtain⟨x1,r1,rfl,h1,g⟩:=dj g
 obtain⟨x2,r2,rfl,h2,g⟩:=dj g
 obtain⟨x3,r3,rfl,h3,g⟩:=dj g
 obtain rfl:=nO g
 obtain⟨e1,rfl,_,g1⟩:=gv u22 h1
 obtain⟨ra,rfl,ha⟩:=ig (f:=prC) (Q:=fun p=>0≤p.1) fun r hr=>LJ (g1 r hr)
 obtain⟨e2,rfl,_,g2⟩:=gv u23 h2
 obtain⟨rw_,rfl,hb⟩:=ig (f:=lcs) (Q:=fun l=>vE l) fun r hr=>LL (g2 r hr)
 obtain⟨e3,rfl,_,g3⟩:=gv u24 h3
 obtain⟨st,rfl,_⟩:=ig (f:=i1) (Q:=fun _=>True) fun r hr=>by
  obtain⟨n,h1,_⟩:=fy u3 (g3 r hr)
  exact⟨n,h1,trivial⟩
 exact⟨⟨ra,rw_,st⟩,rfl,ha,hb⟩
theorem zp (xs:List PV) (h:rZ Tryd.prog 6 Tryd.f3.params.toList xs):an Tryd.prog gl 3 xs [] (fun x _=>x = .bool true):=by
 rw[Tryd.params3] at h
 obtain⟨x,r,rfl,h1,y,r2,rfl,h2,h3⟩:=h
 obtain rfl:=v8 h3
 obtain⟨d,rfl,hp⟩:=L1 h1
 obtain⟨es,rfl,_,g⟩:=CE u27 h2
 obtain⟨l,rfl,_⟩:=ig (f:=tdc) (Q:=fun _=>True) fun r hr=>Mq (g r hr)
 exact BB d l hp
end Go.Proofs.YtenaelaapdhbdaaDoor
