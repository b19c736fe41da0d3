/-
  VerdictZero at whatever arguments.
-/
import Derived.Test.YtenaelaapdhbdaaDoorDby
import Derived.Test.YtenaelaapdhbdaaDoorA3
import Derived.Test.YtenaelaapdhbdaaDoorProg
namespace Go.Proofs.YtenaelaapdhbdaaDoor
open Go Go.AM Go.Proofs
set_option maxRecDepth 10000
theorem u3:Tryd.prog.underlying 3=some (.int .i64):=by kernel_rfl
theorem u38:Tryd.prog.underlying 38=some (.int .u32):=by kernel_rfl
theorem u37:Tryd.prog.underlying 37=some (.slice 38):=by kernel_rfl
theorem u56:Tryd.prog.underlying 56=some (.slice 58):=by kernel_rfl
theorem u22:Tryd.prog.underlying 22=some (.slice 63):=by kernel_rfl
theorem u23:Tryd.prog.underlying 23=some (.slice 56):=by kernel_rfl
theorem u24:Tryd.prog.underlying 24=some (.slice 3):=by kernel_rfl
theorem s58:∃ fs,Tryd.prog.underlying 58=some (.struct fs)∧fs.toList.map (·.type)=[3,37,3,3]:=⟨_,Tryd.underlying58,rfl⟩
theorem s63:∃ fs,Tryd.prog.underlying 63=some (.struct fs)∧fs.toList.map (·.type)=[38,3]:=⟨_,Tryd.underlying63,rfl⟩
theorem s40:∃ fs,Tryd.prog.underlying 40=some (.struct fs)∧fs.toList.map (·.type)=[38,38,3]:=⟨_,Tryd.underlying40,rfl⟩
theorem s26:∃ fs,Tryd.prog.underlying 26=some (.struct fs)∧fs.toList.map (·.type)=[22,23,24]:=⟨_,Tryd.underlying26,rfl⟩
theorem Ku {k:Nat} {xs:List PV} (h:WTp Tryd.prog (k+1+1) 37 xs):∃ l:List Int,xs=[.list (l.map u1) .no]∧∀ p∈l,0≤p:=by
 obtain⟨es,rfl,_,g⟩:=ig u37 h
 obtain⟨l,rfl,hl⟩:=iL (f:=u1) (Q:=fun n=>0≤n) fun r hr=>by
  obtain⟨n,h1,h2,_⟩:=eY u38 (g r hr)
  exact⟨n,h1,h2⟩
 exact⟨l,rfl,hl⟩
theorem Kz {k:Nat} {cs:List PV} (h:WTp Tryd.prog (k+1+1+1) 58 cs):∃ r:Rr,cs=rrc r∧∀ p∈r.pl,0≤p:=by
 obtain⟨fs,hs,hf⟩:=s58
 have g:=jE hs h
 rw[hf] at g
 obtain⟨x1,r1,rfl,h1,g⟩:=dc g
 obtain⟨x2,r2,rfl,h2,g⟩:=dc g
 obtain⟨x3,r3,rfl,h3,g⟩:=dc g
 obtain⟨x4,r4,rfl,h4,g⟩:=dc g
 obtain rfl:=nv g
 obtain⟨a,rfl,_⟩:=eY u3 h1
 obtain⟨l,rfl,h7⟩:=Ku h2
 obtain⟨b,rfl,_⟩:=eY u3 h3
 obtain⟨c,rfl,_⟩:=eY u3 h4
 exact⟨⟨a,l,b,c⟩,rfl,h7⟩
theorem K1 {k:Nat} {cs:List PV} (h:WTp Tryd.prog (k+1+1+1+1) 56 cs):∃ l:List Rr,cs=lcs l∧tR l:=by
 obtain⟨es,rfl,_,g⟩:=ig u56 h
 obtain⟨l,rfl,hl⟩:=iL (f:=rrc) (Q:=fun r=>∀ p∈r.pl,0≤p) fun r hr=>Kz (g r hr)
 exact⟨l,rfl,hl⟩
theorem K6 {k:Nat} {cs:List PV} (h:WTp Tryd.prog (k+1+1) 63 cs):∃ p:Int×Int,cs=prC p∧0≤p.1:=by
 obtain⟨fs,hs,hf⟩:=s63
 have g:=jE hs h
 rw[hf] at g
 obtain⟨x1,r1,rfl,h1,g⟩:=dc g
 obtain⟨x2,r2,rfl,h2,g⟩:=dc g
 obtain rfl:=nv g
 obtain⟨a,rfl,ha,_⟩:=eY u38 h1
 obtain⟨b,rfl,_⟩:=eY u3 h2
 exact⟨(a,b),rfl,ha⟩
theorem Kp {x:PV} (h:WTa Tryd.prog 6 26 x):∃ d:Wd,x = .agg (wdC d)∧raP d:=by
 obtain⟨fs,hs,hf⟩:=s26
 obtain⟨cs,rfl,g⟩:=oK hs h
 rw[hf] at g
 obtain⟨x1,r1,rfl,h1,g⟩:=dc g
 obtain⟨x2,r2,rfl,h2,g⟩:=dc g
 obtain⟨x3,r3,rfl,h3,g⟩:=dc g
 obtain rfl:=nv g
 obtain⟨e1,rfl,_,g1⟩:=ig u22 h1
 obtain⟨ra,rfl,ha⟩:=iL (f:=prC) (Q:=fun p=>0≤p.1) fun r hr=>K6 (g1 r hr)
 obtain⟨e2,rfl,_,g2⟩:=ig u23 h2
 obtain⟨rw_,rfl,hb⟩:=iL (f:=lcs) (Q:=fun l=>tR l) fun r hr=>K1 (g2 r hr)
 obtain⟨e3,rfl,_,g3⟩:=ig u24 h3
 obtain⟨st,rfl,_⟩:=iL (f:=i1) (Q:=fun _=>True) fun r hr=>by
  obtain⟨n,h1,_⟩:=eY u3 (g3 r hr)
  exact⟨n,h1,trivial⟩
 exact⟨⟨ra,rw_,st⟩,rfl,ha,hb⟩
theorem yQ (xs:List PV) (h:qg Tryd.prog 6 Tryd.f4.params.toList xs):aj Tryd.prog gl 4 xs [] (fun x _=>x = .bool true):=by
 rw[Tryd.params4] at h
 obtain⟨x,r,rfl,h1,y,r2,rfl,h2,h3⟩:=h
 obtain rfl:=uR h3
 obtain⟨d,rfl,hp⟩:=Kp h1
 obtain⟨fs,hs,hf⟩:=s40
 obtain⟨cs,rfl,g⟩:=oK hs h2
 rw[hf] at g
 obtain⟨x1,r1,rfl,k1,g⟩:=dc g
 obtain⟨x2,r2,rfl,k2,g⟩:=dc g
 obtain⟨x3,r3,rfl,k3,g⟩:=dc g
 obtain rfl:=nv g
 obtain⟨a,rfl,_⟩:=eY u38 k1
 obtain⟨b,rfl,_⟩:=eY u38 k2
 obtain⟨c,rfl,_⟩:=eY u3 k3
 exact y6 d ⟨a,b,c⟩ hp
end Go.Proofs.YtenaelaapdhbdaaDoor
