/-
  SeatOne's arguments.
-/
import Derived.Test.YtenaelaapdhbdaaSak
import Derived.Test.YtenaelaapdhbdaaA3
import Derived.Test.YtenaelaapdhbdaaProg
namespace Go.Proofs.Ytenaelaapdhbdaa
open Go Go.AM Go.Proofs
set_option maxRecDepth 10000
theorem u3:Try.prog.underlying 3=some (.int .i64):=by kernel_rfl
theorem u5:Try.prog.underlying 5=some (.int .u8):=by kernel_rfl
theorem u27:Try.prog.underlying 27=some (.int .u32):=by kernel_rfl
theorem u34:Try.prog.underlying 34=some (.slice 27):=by kernel_rfl
theorem u28:Try.prog.underlying 28=some (.slice 77):=by kernel_rfl
theorem u22:Try.prog.underlying 22=some (.slice 30):=by kernel_rfl
theorem s77:∃ fs,Try.prog.underlying 77=some (.struct fs)∧fs.toList.map (·.type)=[3,34,3,3]:=⟨_,Try.underlying77,rfl⟩
theorem s30:∃ fs,Try.prog.underlying 30=some (.struct fs)∧fs.toList.map (·.type)=[5,27,27,3,3,28]:=⟨_,Try.underlying30,rfl⟩
theorem pl_of {k:Nat} {xs:List PV} (h:WTp Try.prog (k+1+1) 34 xs):∃ l:List Int,xs=[.list (l.map u1) .no]∧∀ p∈l,0≤p:=by
 obtain⟨es,rfl,_,g⟩:=wtp_list u34 h
 obtain⟨l,rfl,hl⟩:=list_of (f:=u1) (Q:=fun n=>0≤n) fun r hr=>by
  obtain⟨n,h1,h2,_⟩:=wtp_int u27 (g r hr)
  exact⟨n,h1,h2⟩
 exact⟨l,rfl,hl⟩
theorem rr_of {k:Nat} {cs:List PV} (h:WTp Try.prog (k+1+1+1) 77 cs):∃ r:Rr,cs=rrc r∧∀ p∈r.pl,0≤p:=by
 obtain⟨fs,hs,hf⟩:=s77
 have g:=wtp_struct hs h
 rw[hf] at g
 obtain⟨x1,r1,rfl,h1,g⟩:=wfs_cons g
 obtain⟨x2,r2,rfl,h2,g⟩:=wfs_cons g
 obtain⟨x3,r3,rfl,h3,g⟩:=wfs_cons g
 obtain⟨x4,r4,rfl,h4,g⟩:=wfs_cons g
 obtain rfl:=wfs_nil g
 obtain⟨a,rfl,_⟩:=wtp_int u3 h1
 obtain⟨l,rfl,h7⟩:=pl_of h2
 obtain⟨b,rfl,_⟩:=wtp_int u3 h3
 obtain⟨c,rfl,_⟩:=wtp_int u3 h4
 exact⟨⟨a,l,b,c⟩,rfl,h7⟩
theorem rs_of {k:Nat} {xs:List PV} (h:WTp Try.prog (k+1+1+1+1) 28 xs):∃ l:List Rr,xs=[.list (l.map rrc) .no]∧posR l:=by
 obtain⟨es,rfl,_,g⟩:=wtp_list u28 h
 obtain⟨l,rfl,hl⟩:=list_of (f:=rrc) (Q:=fun r=>∀ p∈r.pl,0≤p) fun r hr=>rr_of (g r hr)
 exact⟨l,rfl,hl⟩
theorem ac_of {k:Nat} {cs:List PV} (h:WTp Try.prog (k+1+1+1+1+1) 30 cs):∃ a:Ac,cs=acC a∧a.Nn:=by
 obtain⟨fs,hs,hf⟩:=s30
 have g:=wtp_struct hs h
 rw[hf] at g
 obtain⟨x1,r1,rfl,h1,g⟩:=wfs_cons g
 obtain⟨x2,r2,rfl,h2,g⟩:=wfs_cons g
 obtain⟨x3,r3,rfl,h3,g⟩:=wfs_cons g
 obtain⟨x4,r4,rfl,h4,g⟩:=wfs_cons g
 obtain⟨x5,r5,rfl,h5,g⟩:=wfs_cons g
 obtain⟨x6,r6,rfl,h6,g⟩:=wfs_cons g
 obtain rfl:=wfs_nil g
 obtain⟨a,rfl,_⟩:=wtp_int u5 h1
 obtain⟨b,rfl,hb,_⟩:=wtp_int u27 h2
 obtain⟨c,rfl,_⟩:=wtp_int u27 h3
 obtain⟨e,rfl,_⟩:=wtp_int u3 h4
 obtain⟨f,rfl,_⟩:=wtp_int u3 h5
 obtain⟨l,rfl,hl⟩:=rs_of h6
 exact⟨⟨a,b,c,e,f,l⟩,rfl,⟨hb,hl⟩⟩
theorem one_args (xs:List PV) (h:WTargs Try.prog 6 Try.f4.params.toList xs):ACalls Try.prog gl 4 xs [] (fun x _=>x = .bool true):=by
 rw[Try.params4] at h
 obtain⟨x,r,rfl,h1,h3⟩:=h
 obtain rfl:=wtargs_nil h3
 obtain⟨es,rfl,_,g⟩:=wta_list u22 h1
 obtain⟨l,rfl,hl⟩:=list_of (f:=acC) (Q:=fun a=>a.Nn) fun r hr=>ac_of (g r hr)
 exact one_law l hl
end Go.Proofs.Ytenaelaapdhbdaa
