/-
  The program's functions under a rack.
-/
import Derived.Test.YtenaelaapdhbdaaA3
import Derived.Test.YtenaelaapdhbdaaProg
namespace Go.Proofs.Ytenaelaapdhbdaa
open Go Go.AM Go.Proofs
def gl:Glob:=fun _=>none
theorem gl_low:GlobLow gl:=gnone_low
abbrev wI (n:Int):Int:=IntKind.wrap .i64 n
theorem w_small {n:Int} (h0: -9223372036854775808≤n) (h1:n≤9223372036854775807):wI n=n:=wrap_i64 h0 h1
theorem wI_succ {i n:Nat} (h:i<n) (hn:(n:Int)≤4611686018427387904):wI ((i:Int)+1)=((i+1:Nat):Int):=by
 rw[w_small (by omega) (by omega)]; rfl
theorem getD_mem {α:Type} {l:List α} {i:Nat} {d:α} (h:i<l.length):l.getD i d∈l:=by
 rw[List.getD_eq_getElem?_getD,List.getElem?_eq_getElem h]; exact List.getElem_mem h
theorem isnan_vc (a:Int)  (K:PV→Prop) (h:K (.bool (a != a))):ACalls Try.prog gl 80 [.int .u32 a] [] (fun x _=>K x):=
 acalls_of_wpc2 (T:=[]) (L:=[]) (fun _=>0) Try.func80 (by kernel_rfl) (by kernel_rfl) (by kernel_rfl) (TabOk.nil _ _) (LOk.nil _ _ _ _ _) (holds_of_eq (by kernel_rfl) h)
theorem right_vc (a:Int)  (K:PV→Prop) (h:br (decide (a≥1) == true) (K (.bool (decide (a≤2147483647)))) (K (.bool false))):ACalls Try.prog gl 41 [.int .u32 a] [] (fun x _=>K x):=
 acalls_of_wpc2 (T:=[]) (L:=[]) (fun _=>0) Try.func41 (by kernel_rfl) (by kernel_rfl) (by kernel_rfl) (TabOk.nil _ _) (LOk.nil _ _ _ _ _) (holds_of_eq (by kernel_rfl) h)
def isnan_s (args:List PV) (K:PV→Prop):Prop:=match args with
 | [.int .u32 _]=>K (.bool false)
 | _=>False
theorem isnan_ok:SpOk Try.prog gl 80 (.pure isnan_s):=by
 intro args K h
 unfold isnan_s at h
 split at h
 ·rename_i a
  refine spure gl_low (by simp[low_int]) (.bool _) (isnan_vc a (fun x=>x = .bool false) ?_) h
  simp
 ·exact h.elim
def rightS (a:Int):Bool:=decide (1≤a∧a≤2147483647)
def right_s (args:List PV) (K:PV→Prop):Prop:=match args with
 | [.int .u32 a]=>K (.bool (rightS a))
 | _=>False
theorem right_ok:SpOk Try.prog gl 41 (.pure right_s):=by
 intro args K h
 unfold right_s at h
 split at h
 ·rename_i a
  refine spure gl_low (by simp[low_int]) (.bool _) (right_vc a (fun x=>x = .bool (rightS a)) ?_) h
  simp only[br_if,bt,dt]
  unfold rightS
  by_cases c:a≥1
  ·rw[if_pos c]; congr 1; apply decide_eq_decide.2; omega
  ·rw[if_neg c]; congr 1; symm; apply decide_eq_false; omega
 ·exact h.elim
def TK0:Tab:=[(80,.pure isnan_s),(41,.pure right_s)]
theorem TK0_ok:TabOk Try.prog gl TK0:= .cons isnan_ok (.cons right_ok (.nil _ _))
theorem cmpu_vc (a b:Int)  (K:PV→Prop) (h:br (decide (a<b)) (K (.int .i64 (-1))) (br (decide (a>b)) (K (.int .i64 1)) (K (.int .i64 0)))):ACalls Try.prog gl 74 [.int .u32 a,.int .u32 b] [] (fun x _=>K x):=
 acalls_of_wpc2 (T:=TK0) (L:=[]) (fun _=>0) Try.func74 (by kernel_rfl) (by kernel_rfl) (by kernel_rfl) (TK0_ok) (LOk.nil _ _ _ _ _) (holds_of_eq (by kernel_rfl) h)
def cmpS (a b:Int):Int:=if a<b then -1 else if a>b then 1 else 0
def cmpu_s (args:List PV) (K:PV→Prop):Prop:=match args with
 | [.int .u32 a,.int .u32 b]=>K (.int .i64 (cmpS a b))
 | _=>False
theorem cmpu_ok:SpOk Try.prog gl 74 (.pure cmpu_s):=by
 intro args K h
 unfold cmpu_s at h
 split at h
 ·rename_i a b
  refine spure gl_low (by simp[low_int]) (.int _ _) (cmpu_vc a b (fun x=>x = .int .i64 (cmpS a b)) ?_) h
  simp only[br_if,dt]
  unfold cmpS
  by_cases c:a<b
  ·rw[if_pos c,if_pos c]
  rw[if_neg c,if_neg c]
  by_cases d:a>b
  ·rw[if_pos d,if_pos d]
  ·rw[if_neg d,if_neg d]
 ·exact h.elim
def TK:Tab:=(74,.pure cmpu_s)::TK0
theorem TK_ok:TabOk Try.prog gl TK:= .cons cmpu_ok TK0_ok
structure Rw (G:Type) where
 id:Int
 v:G
instance rwInh {G:Type} [Inhabited G]:Inhabited (Rw G):=⟨⟨0,default⟩⟩
section
variable {G:Type}
structure Ok (l:List (Rw G)) (most:Int):Prop where
 rise:l.Pairwise fun a b=>a.id<b.id
 full:(l.length:Int)≤most
 big:most≤1000000
theorem Ok.len {l:List (Rw G)} {most:Int} (h:Ok l most):l.length≤1000000:=by have:=h.full; have:=h.big; omega
end
section
variable {G:Type} [Inhabited G]
structure Lb (l:List (Rw G)) (t:Int) (p:Nat):Prop where
 le:p≤l.length
 lo:∀ k,k<p→(l.getD k default).id<t
 hi:∀ k,p≤k→k<l.length→t≤(l.getD k default).id
def hitP (l:List (Rw G)) (t:Int) (p:Nat):Bool:=decide (p<l.length∧(l.getD p default).id=t)
def lbp (l:List (Rw G)) (t:Int):Nat:=l.findIdx fun r=>decide (t≤r.id)
def has (l:List (Rw G)) (t:Int):Bool:=hitP l t (lbp l t)
theorem Ok.lb {l:List (Rw G)} {most:Int} (h:Ok l most) (t:Int):Lb l t (lbp l t):=by
 refine⟨List.findIdx_le_length,fun k hk=>?_,fun k hk hl=>?_⟩
 ·have hkl:k<l.length:=Nat.lt_of_lt_of_le hk List.findIdx_le_length
  have:=List.not_of_lt_findIdx hk
  rw[List.getD_eq_getElem?_getD,List.getElem?_eq_getElem hkl,Option.getD_some]
  simp only[decide_eq_false_iff_not] at this
  omega
 ·have hpl:lbp l t<l.length:=Nat.lt_of_le_of_lt hk hl
  have h1:t≤(l[lbp l t]'hpl).id:=by
   have:=List.findIdx_getElem (p:=fun r:Rw G=>decide (t≤r.id)) (w:=hpl)
   exact of_decide_eq_true this
  rw[List.getD_eq_getElem?_getD,List.getElem?_eq_getElem hl,Option.getD_some]
  rcases Nat.eq_or_lt_of_le hk with e|e
  ·subst e; exact h1
  ·have:=List.pairwise_iff_getElem.1 h.rise (lbp l t) k hpl hl e
   omega
theorem Ok.get {l:List (Rw G)} {most:Int} (h:Ok l most) {i j:Nat} (hij:i<j) (hj:j<l.length):(l.getD i default).id<(l.getD j default).id:=by
 rw[List.getD_eq_getElem?_getD,List.getElem?_eq_getElem (by omega),List.getD_eq_getElem?_getD,List.getElem?_eq_getElem hj]
 exact List.pairwise_iff_getElem.1 h.rise i j (by omega) hj hij
def getR (l:List (Rw G)) (t:Int):G:=if has l t=true then(l.getD (lbp l t) default).v else default
def putL (l:List (Rw G)) (most t:Int) (v:G):List (Rw G)×Int:=
 if rightS t=true then
  if has l t=true then(l.set (lbp l t) ⟨t,v⟩,0)
  else if(l.length:Int)≥most then(l,10) else(insAt l (lbp l t) ⟨t,v⟩,0)
 else(l,14)
def addL (l:List (Rw G)) (most t:Int) (v:G):List (Rw G)×Int:=if has l t=true then(l,11) else putL l most t v
def dropL (l:List (Rw G)) (t:Int):List (Rw G):=if has l t=true then l.eraseIdx (lbp l t) else l
theorem has_nil (t:Int):has ([]:List (Rw G)) t=false:=rfl
theorem has_lt {l:List (Rw G)} {t:Int} (h:has l t=true):lbp l t<l.length∧(l.getD (lbp l t) default).id=t:=by
 unfold has hitP at h; simpa using h
theorem getD_eq' {α:Type} {d:α} {l:List α} {k:Nat} (h:k<l.length):l.getD k d=l[k]:=by
 rw[List.getD_eq_getElem?_getD,List.getElem?_eq_getElem h]; rfl
theorem has_false {l:List (Rw G)} {most t:Int} (ok:Ok l most) (h:has l t=false):∀ k,lbp l t≤k→k<l.length→t<(l.getD k default).id:=by
 intro k h1 h2
 have h3:=(ok.lb t).hi k h1 h2
 unfold has hitP at h
 have h4:¬(lbp l t<l.length∧(l.getD (lbp l t) default).id=t):=of_decide_eq_false h
 rcases Nat.eq_or_lt_of_le h1 with e|e
 ·subst e
  have:(l.getD (lbp l t) default).id≠t:=fun k=>h4 ⟨h2,k⟩
  omega
 ·have:=ok.get e h2
  have:=(ok.lb t).hi (lbp l t) (Nat.le_refl _) (by omega)
  omega
theorem Ok.put {l:List (Rw G)} {most:Int} (ok:Ok l most) (t:Int) (v:G):Ok (putL l most t v).1 most:=by
 unfold putL
 split
 ·split
  ·rename_i h
   obtain⟨h1,h2⟩:=has_lt h
   refine⟨?_,by simpa using ok.full,ok.big⟩
   rw[List.pairwise_iff_getElem]
   intro i j hi hj hij
   simp only[List.length_set] at hi hj
   have h3:=ok.get hij hj
   rw[getD_eq' hi,getD_eq' hj] at h3
   rw[getD_eq' h1] at h2
   simp only[List.getElem_set]
   split<;>split
   ·omega
   ·rename_i e _; subst e; simp only; omega
   ·rename_i _ e; subst e; simp only; omega
   ·exact h3
  ·split
   ·exact ok
   ·rename_i h h1
    refine⟨?_,by show((insAt l (lbp l t) _).length:Int)≤most; rw[insAt_length (show lbp l t≤l.length from List.findIdx_le_length)]; omega,ok.big⟩
    have hb:has l t=false:=by simpa using h
    have lb:=ok.lb t
    unfold insAt
    rw[List.pairwise_append]
    refine⟨ok.rise.sublist (List.take_sublist _ _),List.pairwise_cons.2 ⟨fun a ha=>?_,ok.rise.sublist (List.drop_sublist _ _)⟩,fun a ha b hb'=>?_⟩
    ·obtain⟨k,hk,rfl⟩:=List.mem_iff_getElem.1 ha
     rw[List.length_drop] at hk
     rw[List.getElem_drop]
     have:=has_false ok hb (lbp l t+k) (by omega) (by omega)
     rw[getD_eq' (by omega)] at this
     exact this
    ·obtain⟨k,hk,rfl⟩:=List.mem_iff_getElem.1 ha
     rw[List.length_take] at hk
     have h5:=lb.lo k (by omega)
     rw[getD_eq' (by omega)] at h5
     rw[List.getElem_take]
     rcases List.mem_cons.1 hb' with rfl|hb'
     ·exact h5
     ·obtain⟨m,hm,rfl⟩:=List.mem_iff_getElem.1 hb'
      rw[List.length_drop] at hm
      rw[List.getElem_drop]
      have:=has_false ok hb (lbp l t+m) (by omega) (by omega)
      rw[getD_eq' (by omega)] at this
      omega
 ·exact ok
def idsL (l:List (Rw G)):List (List PV):=l.map fun r=>[.int .u32 r.id]
end
theorem low0_nil:∀ x∈([]:List PV),Low 0 x:=fun _ h=>nomatch h
theorem low0_int {k:IntKind} {n:Int}:∀ x∈[PV.int k n],Low 0 x:=fun _ h=>by rcases List.mem_singleton.1 h with rfl; exact .int _ _
theorem low2 {J:List PV} {n:Nat} (h:Room J n):∀ y∈J,Low 2 y:=fun y hy=>(h.low y hy).up
theorem lbp_le {G:Type} (l:List (Rw G)) (t:Int):lbp l t≤l.length:=List.findIdx_le_length
structure Rr where
 tm:Int
 pl:List Int
 rt:Int
 wd:Int
 deriving DecidableEq
structure Se where
 pl:Int
 tm:Int
 nu:Int
 st:Int
 un:Int
 no:Int
 deriving DecidableEq
structure Mt where
 id:Int
 md:Int
 ins:Int
 rows:List Rr
 seats:List Se
 deriving DecidableEq
def rrc (r:Rr):List PV:=[.int .i64 r.tm,.list (r.pl.map u1) .no,.int .i64 r.rt,.int .i64 r.wd]
def stc (s:Se):List PV:=[.int .u32 s.pl,.int .i64 s.tm,.int .i64 s.nu,.int .i64 s.st,.int .i64 s.un,.int .u64 s.no]
theorem rrc_len (r:Rr):(rrc r).length=4:=rfl
theorem stc_len (s:Se):(stc s).length=6:=rfl
theorem low_pl {n:Nat} (l:List Int):Low n (.list (l.map u1) .no):=low_rows low_u1 l
theorem low_rrc {n:Nat} (r:Rr):∀ y∈rrc r,Low n y:=by
 intro y hy
 simp only[rrc,List.mem_cons,List.not_mem_nil,or_false] at hy
 rcases hy with rfl|rfl|rfl|rfl<;>first|exact .int _ _|exact low_pl _
theorem low_stc {n:Nat} (s:Se):∀ y∈stc s,Low n y:=by
 intro y hy
 simp only[stc,List.mem_cons,List.not_mem_nil,or_false] at hy
 rcases hy with rfl|rfl|rfl|rfl|rfl|rfl<;>exact .int _ _
theorem one_rrc (r:Rr):∀ y∈rrc r,y.one=true:=by
 intro y hy
 simp only[rrc,List.mem_cons,List.not_mem_nil,or_false] at hy
 rcases hy with rfl|rfl|rfl|rfl<;>rfl
theorem one_stc (s:Se):∀ y∈stc s,y.one=true:=by
 intro y hy
 simp only[stc,List.mem_cons,List.not_mem_nil,or_false] at hy
 rcases hy with rfl|rfl|rfl|rfl|rfl|rfl<;>rfl
theorem low_rrs {n:Nat} (l:List Rr):Low n (.list (l.map rrc) .no):=low_rows low_rrc l
theorem low_sts {n:Nat} (l:List Se):Low n (.list (l.map stc) .no):=low_rows low_stc l
def Mt.cells (c:Mt):List PV:=[.int .u32 c.id,.int .i64 c.md,.int .u32 c.ins,.list (c.rows.map rrc) .no,.list (c.seats.map stc) .no]
def Mt.pv (c:Mt):PV:= .agg [.int .u32 c.id,.int .i64 c.md,.int .u32 c.ins,.list (c.rows.map rrc) .no,.list (c.seats.map stc) .no]
instance rrInh:Inhabited Rr:=⟨⟨0,[],0,0⟩⟩
instance seInh:Inhabited Se:=⟨⟨0,0,0,0,0,0⟩⟩
instance mtInh:Inhabited Mt:=⟨⟨0,0,0,[],[]⟩⟩
end Go.Proofs.Ytenaelaapdhbdaa
