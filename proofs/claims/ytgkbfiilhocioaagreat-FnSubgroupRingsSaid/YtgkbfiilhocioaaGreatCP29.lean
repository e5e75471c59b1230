/- Commutators by the reference. -/
import Derived.Test.YtgkbfiilhocioaaGreatCP28
open Int renaming reduceNatCast'→iQ0
set_option maxRecDepth 100000
namespace Go.Grp
end Go.Grp
set_option linter.unusedSimpArgs false
set_option linter.unusedVariables false
namespace Go.Proofs
open Go.Ab Go.Lie Go.Grp
variable {σ:PHeap} {K:PV→PHeap→Prop} {O:List Int} {P:List (List Int)} {C:List (List (List Int))} {vO vP vC vx vf va vb:PV} {x y f a b:List Int} {rP rC:List PV} {d j sp:Nat}
theorem zEN {v:PV} {sp:Nat} (hf:f=[]) (hvf:FI vf f) (hk:K (.tup []) σ):zA Tryz.prog 215 [.ptr sp 0,v,vf] σ K:=by
 obtain⟨wf,af,rfl⟩:=hvf;subst hf;refine zD mix Tryz.func215 ?_
 conv=>arg 2;cbv
 refine zF rfl ?_;simp only [pwA,seval,-iQ0];refine zG (fun m vs h'=>m=0∧vs=[.ptr sp 0,v,.fz wf af ([]:List Int).length (pis []),.int .i64 (([]:List Int).length:Nat),.int .i64 (0:Nat)]∧σ=h') 0 ⟨rfl,rfl,rfl⟩ ?_
 rintro m vs h' ⟨rfl,rfl,rfl⟩
 simp only [pwA,seval,-iQ0];exact hk
theorem zDe (s:Shp O P C) (F:Full O P C d) (hs:PtrG σ sp vO vP vC) (hR:IsPr vO vP vC O P C) (ha:TT O (O.length-d) a) (hb:TT O (O.length-d) b) (hva:FI va a) (hvb:FI vb b) (hk:ResI σ K (mu O P C d a b)):
  zA Tryz.prog 127 [.ptr sp 0,va,vb] σ K:=by
 have hn6:=s.le;have hal:=ha.len;have hml:=(F.gp.cl ha hb).len;have hne:sp≠σ.next:=Nat.ne_of_lt hs.lt;obtain⟨wa,aa,rfl⟩:=hva;refine zA.gh ?_;refine zD mix Tryz.func127 ?_
 conv=>arg 2;cbv
 refine zF rfl ?_;simp only [pwA,seval,-iQ0];refine Zf rfl (by omega) ⟨fun h0=>?_,fun cap hc=>?_⟩
 ·have hb0:b=[]:=List.eq_nil_of_length_eq_zero (by rw [hb.len,←hal,h0];rfl)
  simp only [pwA,seval,-iQ0];refine zEN hb0 hvb ?_;simp only [pwA,seval,-iQ0];exact Gh.fin0 (Keep.refl σ) trivial (hk.1 (List.eq_nil_of_length_eq_zero (by show(mu O P C d a b).length=0;rw [hml,←hal,h0];rfl)))
 ·rw [hal]at hc
  rw [hal];simp only [pwA,seval,-iQ0];refine QJ s F (hs.new _) hR (x:=a) (by simp only [pwA,seval,-iQ0]) (by simp only [pwA,seval,-iQ0]) hne hc ha hb hvb ?_
  simp only [pwA,seval,-iQ0];rw [show O.length=(mu O P C d a b).length from hml.symm]at hc ⊢
  exact Gh.finS (zC σ _) (by simp only [pwA,seval,-iQ0]) (Nat.le_refl _) (zN _ _) (hk.2 cap hc)
theorem zBV (s:Shp O P C) (F:Full O P C d) (hs:PtrG σ sp vO vP vC) (hR:IsPr vO vP vC O P C) (ha:TT O (O.length-d) a) (hb:TT O (O.length-d) b) (hva:FI va a) (hvb:FI vb b) (hk:∀v,FI v (mu O P C d a b)→K v σ):
  zA Tryz.prog 127 [.ptr sp 0,va,vb] σ K:=zA.fzI (fun K'=>zDe s F hs hR ha hb hva hvb) fun a=>hk _ ⟨_,_,rfl⟩
theorem zGs (s:Shp O P C) (F:Full O P C d) (hs:PtrG σ sp vO vP vC) (hR:IsPr vO vP vC O P C) (ha:TT O (O.length-d) a) (hva:FI va a) {k:Int} (hk0:0≤k∧k≤1000000) (hk:ResI σ K (pw (mu O P C d) (zv O) a k.toNat)):
  zA Tryz.prog 158 [.ptr sp 0,va,.int .i64 k] σ K:=by
 have hn6:=s.le;have hal:=ha.len;have M:=F.gp.toMon;have hne:sp≠σ.next:=Nat.ne_of_lt hs.lt;have hva0:=hva;obtain⟨wa,aa,rfl⟩:=hva;rw [hal]at hva0 ⊢
 refine zA.gh ?_;refine zD mix Tryz.func158 ?_
 conv=>arg 2;cbv
 refine zF rfl ?_;simp only [pwA,seval,-iQ0,List.length_replicate,qH,mk8 (n:=O.length) (by omega),mkL (n:=O.length) (by omega)]
 refine zG (fun m vs h'=>∃q:Nat,q≤k.toNat∧m=k.toNat-q∧vs=[.ptr sp 0,.fz wa aa O.length (pis a),.sl σ.next 0 O.length (.known O.length),.int .i64 k,.int .i64 q]∧h'=σ.new (pis (pw (mu O P C d) (zv O) a q))) k.toNat ?_ ?_
 ·exact⟨0,by omega,by omega,rfl,rfl⟩
 rintro m vs h' ⟨q,hq,rfl,rfl,rfl⟩
 simp only [pwA,seval,-iQ0];refine iteI (fun hlt=>?_) fun hge=>?_
 ·have hlt3:q<k.toNat:=by omega
  have hp:=M.pw ha q;refine QJ s F (hs.new _) hR (x:=pw (mu O P C d) (zv O) a q) (by simp only [pwA,seval,-iQ0]) (by simp only [pwA,seval,-iQ0]) hne (.inr rfl) hp ha hva0 ?_
  simp only [pwA,seval,-iQ0,wrapS hlt3 (by omega:k.toNat≤4611686018427387904)]
  exact⟨_,by omega,q+1,by omega,rfl,rfl,rfl⟩
 ·have hqe:q=k.toNat:=by omega
  subst hqe;have hml:=(M.pw ha k.toNat).len;have hc:full 1 (.known O.length) (pw (mu O P C d) (zv O) a k.toNat).length:=.inr (by rw [hml])
  refine Gh.finS (zC σ _) (by simp only [pwA,seval,-iQ0];rfl) (Nat.le_refl _) (zN _ _) ?_
  have:=hk.2 _ hc
  rwa [hml]at this
theorem zDv (s:Shp O P C) (F:Full O P C d) (hs:PtrG σ sp vO vP vC) (hR:IsPr vO vP vC O P C) (ha:TT O (O.length-d) a) (hva:FI va a) {k:Int} (hk0:0≤k∧k≤1000000) (hk:∀v,FI v (pw (mu O P C d) (zv O) a k.toNat)→K v σ):
  zA Tryz.prog 158 [.ptr sp 0,va,.int .i64 k] σ K:=zA.fzI (fun K'=>zGs s F hs hR ha hva hk0) fun a=>hk _ ⟨_,_,rfl⟩
theorem mu_step (s:Shp O P C) {i:Nat} (hd:O.length-d≤i) (hle:d≤O.length) (hi:i<O.length) (hx:TT O i x):TT O i (mu O P C d x (Grp.unit O i))∧at_ (mu O P C d x (Grp.unit O i)) i=if at_ x i+1=at_ O i then 0 else at_ x i+1:=by
 have hu:TT O i (Grp.unit O i):=s.unit hi (Nat.le_refl _);obtain⟨e,he⟩:∃e,O.length-i=e+1:=⟨O.length-i-1,by omega⟩
 have hie:O.length-(e+1)=i:=by omega
 have e1:mu O P C d x (Grp.unit O i)=mu O P C (e+1) x (Grp.unit O i):=by
  have:=zLv s (d:=e+1) (k:=d-(e+1)) (u:=x) (v:=Grp.unit O i) (by omega) (by rw [hie];exact hx) (by rw [hie];exact hu)
  rwa [show e+1+(d-(e+1))=d by omega]at this
 have h1:=mu_tt s (d:=e+1) (a:=x) (b:=Grp.unit O i) (by omega) (by rw [hie];exact hx) (by rw [hie];exact hu)
 rw [hie]at h1
 rw [e1];refine⟨h1,?_⟩;have bx:=hx.bd i hi;have bO:=s.pr i hi;have hat:at_ (Grp.unit O i) i=1:=by rw [at_set (by simp;exact hi),if_pos rfl]
 have hpos:=s.pos hi;have hm:∀a b,TT O (i+1) a→TT O (i+1) b→TT O (i+1) (mu O P C e a b):=fun a b ha hb=>by
  have:=mu_tt s (d:=e) (a:=a) (b:=b) (by omega) (by rwa [show O.length-e=i+1 by omega]) (by rwa [show O.length-e=i+1 by omega])
  rwa [show O.length-e=i+1 by omega]at this
 have ir:=hm _ _ (zAj (fun x _=>zA3 s hm x) (nx (Grp.unit O i) i) (hx.set0 hi hpos)) (hu.set0 hi hpos)
 simp only [mu,hie];rw [hat]
 split
 ·have ir2:=hm _ _ (s.pw i hi) ir
  rw [at_set (by rw [ir2.len];exact hi),if_pos rfl]
  split<;>omega
 ·rw [at_set (by rw [ir.len];exact hi),if_pos rfl,if_neg (by omega)]
end Go.Proofs
namespace Go.Grp
end Go.Grp
namespace Go.Proofs
open Go.Ab Go.Lie Go.Grp
variable {σ:PHeap} {K:PV→PHeap→Prop} {O:List Int} {P:List (List Int)} {C:List (List (List Int))} {vO vP vC vx vf va vb:PV} {x y f a b:List Int} {rP rC:List PV} {d j sp:Nat}
theorem zMF (s:Shp O P C) (F:Full O P C d) (hs:PtrG σ sp vO vP vC) (hR:IsPr vO vP vC O P C) (ha:TT O (O.length-d) a) (hva:FI va a) (hk:∀z,TT O (O.length-d) z→mu O P C d a z=zv O→ResI σ K z):
  zA Tryz.prog 246 [.ptr sp 0,va] σ K:=by
 have hn6:=s.le;have hle:=F.le;have hal:=ha.len;have M:=F.gp.toMon;have hne:sp≠σ.next:=Nat.ne_of_lt hs.lt;have hne2:sp≠σ.next+1:=by have:=hs.lt;omega
 obtain⟨wa,aa,rfl⟩:=hva;refine zA.gh ?_;refine zD mix Tryz.func246 ?_
 conv=>arg 2;cbv
 refine zF rfl ?_;simp only [pwA,seval,-iQ0];refine Zf rfl (by omega) ⟨fun h0=>?_,fun cap hc=>?_⟩
 ·have hO0:O=[]:=List.eq_nil_of_length_eq_zero (by rw [←hal,h0];rfl)
  subst hO0;subst h0;simp only [pwA,seval,-iQ0,mk8 (n:=0) (by omega),mkL (n:=0) (by omega)]
  refine zG (fun m vs h'=>m=0∧vs=[.ptr sp 0,.fz true .nils 0 [],.sl σ.next 0 0 (.known 0),.int .i64 (0:Nat),.int .i64 (0:Nat)]∧h'=σ.new []) 0 ⟨rfl,rfl,rfl⟩ ?_
  rintro m vs h' ⟨rfl,rfl,rfl⟩
  simp only [pwA,seval,-iQ0];have hd0:d=0:=by simpa using hle
  exact Gh.finS (cs:=pis []) (zC σ _) (by simp only [pwA,seval,-iQ0];rfl) (Nat.le_refl _) (zN _ _) ((hk [] (s.zv _) (by subst hd0;rfl)).2 _ (.inr rfl))
 rw [hal]at hc
 rw [hal];simp only [pwA,seval,-iQ0,List.length_replicate,qH,mk8 (n:=O.length) (by omega),mkL (n:=O.length) (by omega)]
 refine zG (fun m vs h'=>∃(i:Nat) (r z:List Int),i≤O.length∧m=O.length-i∧vs=[.ptr sp 0,.sl σ.next 0 O.length cap,.sl (σ.next+1) 0 O.length (.known O.length),.int .i64 O.length,.int .i64 i]∧h'=(σ.new (pis r)).new (pis z)∧TT O (O.length-d) r∧TT O i r∧TT O (O.length-d) z∧mu O P C d a z=r) O.length ?_ ?_
 ·exact⟨0,a,zv O,by omega,by omega,rfl,rfl,ha,ha.mono (Nat.zero_le _),s.zv _,M.r1 ha⟩
 rintro m vs h' ⟨i,r,z,hi,rfl,rfl,rfl,hr,hri,hz,hinv⟩
 simp only [pwA,seval,-iQ0];refine iteI (fun hlt=>?_) fun hge=>?_
 rotate_left
 ·have hie:i=O.length:=by omega
  subst hie;have hr0:r=zv O:=hri.ext (s.zv _) fun j h1 h2=>by omega
  rw [hr0]at hinv
  have hzl:=hz.len
  have:=(hk z hz hinv).2 (.known O.length) (.inr (by rw [hzl]))
  rw [hzl]at this
  exact Gh.finS (s:=σ.next+1) ((zC σ _).new _) (by simp only [pwA,seval,-iQ0]) (by omega) (zN _ _) this
 simp only [pwA,seval,-iQ0];have bO:=s.pr i hlt;refine zG (fun m vs h'=>∃(r z:List Int),m=((at_ O i-at_ r i) % at_ O i).toNat∧vs=[.ptr sp 0,.sl σ.next 0 O.length cap,.sl (σ.next+1) 0 O.length (.known O.length),.int .i64 i,.int .i64 O.length,.int .i64 i]∧h'=(σ.new (pis r)).new (pis z)∧TT O (O.length-d) r∧TT O i r∧TT O (O.length-d) z∧mu O P C d a z=r) _ ⟨r,z,rfl,rfl,rfl,hr,hri,hz,hinv⟩ ?_
 rintro m vs h' ⟨r,z,rfl,rfl,rfl,hr,hri,hz,hinv⟩
 have hrl:i<r.length:=by rw [hr.len];exact hlt
 have br:=hr.bd i hlt;simp only [pwA,seval,-iQ0,hlt,pisAt hrl];refine iteI (fun heq=>?_) fun hneq=>?_
 ·simp only [pwA,seval,-iQ0,wrapS hlt (by omega:O.length≤4611686018427387904)]
  refine⟨_,by omega,i+1,r,z,by omega,rfl,rfl,rfl,hr,?_,hz,hinv⟩
  refine⟨hri.len,hri.bd,fun t ht=>?_⟩
  by_cases e:t=i
  ·subst e;exact heq
  ·exact hri.zero t (by omega)
 ·have hdi:O.length-d≤i:=by
   rcases Nat.lt_or_ge i (O.length-d)with h|h
   ·exact absurd (hr.zero i h) hneq
   ·exact h
  have hu:TT O (O.length-d) (Grp.unit O i):=s.unit hlt hdi;obtain⟨m1,m2⟩:=mu_step s hdi hle hlt hri;refine Zg s F O.length hdi hlt (by omega) _ _ sp σ.next cap r vO vP vC ((hs.new _).new _) hR (by simp only [pwA,seval,-iQ0]) (by simp only [pwA,seval,-iQ0];omega) hne hc hr ?_
  simp only [pwA,seval,-iQ0];refine Zg s F O.length hdi hlt (by omega) _ _ sp (σ.next+1) (.known O.length) z vO vP vC ((hs.new _).new _) hR (by simp only [pwA,seval,-iQ0]) (by simp only [pwA,seval,-iQ0]) hne2 (.inr rfl) hz ?_
  simp only [pwA,seval,-iQ0];refine⟨_,?_,_,_,rfl,rfl,M.cl hr hu,m1,M.cl hz hu,by rw [←M.as ha hz hu,hinv]⟩
  rw [m2]
  split
  ·rename_i e
   rw [Int.sub_zero,Int.emod_self]
   have:(at_ O i-at_ r i) % at_ O i=at_ O i-at_ r i:=Int.emod_eq_of_lt (by omega) (by omega)
   omega
  ·rename_i e
   have h1:(at_ O i-at_ r i) % at_ O i=at_ O i-at_ r i:=Int.emod_eq_of_lt (by omega) (by omega)
   have h2:(at_ O i-(at_ r i+1)) % at_ O i=at_ O i-(at_ r i+1):=Int.emod_eq_of_lt (by omega) (by omega)
   omega
theorem zF2 (s:Shp O P C) (F:Full O P C d) (hs:PtrG σ sp vO vP vC) (hR:IsPr vO vP vC O P C) (ha:TT O (O.length-d) a) (hva:FI va a) (hk:∀v z,TT O (O.length-d) z→mu O P C d a z=zv O→FI v z→K v σ):
  zA Tryz.prog 246 [.ptr sp 0,va] σ K:=
 zA.gh (zMF s F hs hR ha hva fun z h1 h2=>⟨fun h0=>Gh.fin0 (Keep.refl σ) trivial (hk _ z h1 h2 ⟨true,.nils,by rw [h0];rfl⟩),fun cap hc=>Gh.finF (zC σ _) (by simp only [pwA,seval,-iQ0]) (Nat.le_refl _) (zN _ _) hc.ok fun o=>hk _ z h1 h2 ⟨true,.sl o 0 z.length cap,rfl⟩⟩)
theorem zHh (s:Shp O P C) (F:Full O P C d) (hs:PtrG σ sp vO vP vC) (hR:IsPr vO vP vC O P C) (ha:TT O (O.length-d) a) (hb:TT O (O.length-d) b) (hva:FI va a) (hvb:FI vb b) (hk:∀z,TT O (O.length-d) z→mu O P C d b z=mu O P C d a b→ResI σ K z):
  zA Tryz.prog 228 [.ptr sp 0,va,vb] σ K:=by
 have M:=F.gp.toMon;refine zA.gh ?_;refine zD mix Tryz.func228 ?_
 conv=>arg 2;cbv
 refine zF rfl ?_;simp only [pwA,seval,-iQ0];refine zF2 s F hs hR hb hvb fun v1 z1 h1 h2 f1=>?_
 simp only [pwA,seval,-iQ0];refine zBV s F hs hR ha hb hva hvb fun v2 f2=>?_
 simp only [pwA,seval,-iQ0];have hab:=M.cl ha hb;have hz:=M.cl h1 hab;have hr:=hk _ hz (by rw [←M.as hb h1 hab,h2,M.l1 hab])
 refine zDe s F hs hR h1 hab f1 f2 ⟨fun h0=>?_,fun cap hc=>?_⟩
 ·simp only [pwA,seval,-iQ0]
  exact Gh.ret (hr.1 h0)
 ·simp only [pwA,seval,-iQ0]
  exact Gh.ret (hr.2 cap hc)
theorem zA4 (s:Shp O P C) (F:Full O P C d) (hs:PtrG σ sp vO vP vC) (hR:IsPr vO vP vC O P C) (ha:TT O (O.length-d) a) (hb:TT O (O.length-d) b) (hva:FI va a) (hvb:FI vb b) (hk:∀v z,TT O (O.length-d) z→mu O P C d b z=mu O P C d a b→FI v z→K v σ):
  zA Tryz.prog 228 [.ptr sp 0,va,vb] σ K:=
 zA.gh (zHh s F hs hR ha hb hva hvb fun z h1 h2=>⟨fun h0=>Gh.fin0 (Keep.refl σ) trivial (hk _ z h1 h2 ⟨true,.nils,by rw [h0];rfl⟩),fun cap hc=>Gh.finF (zC σ _) (by simp only [pwA,seval,-iQ0]) (Nat.le_refl _) (zN _ _) hc.ok fun o=>hk _ z h1 h2 ⟨true,.sl o 0 z.length cap,rfl⟩⟩)
theorem zAb (s:Shp O P C) (F:Full O P C d) {i:Nat} (hi:O.length=d+(i+1)) (hs:PtrG σ sp vO vP vC) (hR:IsPr vO vP vC O P C) (hx:TT O 0 x) (hvx:FI vx x) (hk:∀v,FI v (Grp.img O C (mu O P C d) i x)→K v σ):
  zA Tryz.prog 285 [.ptr sp 0,.int .i64 i,vx] σ K:=by
 have hn6:=s.le;have hxl:=hx.len;have hil:i<O.length:=by omega
 have M:=F.gp.toMon;have hne:sp≠σ.next:=Nat.ne_of_lt hs.lt;have hR0:=hR;have hs0:=hs;have edi:O.length-d=i+1:=by omega
 obtain⟨⟨w0,a0,rfl⟩,⟨w1,a1,rP,rfl,hP⟩,⟨w3,a3,rC,rfl,hC⟩⟩:=hR;obtain⟨w5,a5,rs,hrb,hrs⟩:=cvRow s hC hil;have hiC:i<C.length:=by rw [s.cl];exact hil
 have e2:σ.rd1 sp 2=some (.fz w3 a3 C.length rC):=by rw [zI hs.obj];rfl
 have wi1:IntKind.i64.wrap ((i:Int)+1)=((i+1:Nat):Int):=wrapS hil (by omega)
 obtain⟨wx,ax,rfl⟩:=hvx;rw [hxl];have hlr:O.length-1-i=d:=by omega
 rw [hlr]at hrb hrs
 refine zA.gh ?_;refine zD mix Tryz.func285 ?_
 conv=>arg 2;cbv
 refine zF rfl ?_;simp only [pwA,seval,-iQ0,List.length_replicate,qH,mk8 (n:=O.length) (by omega),mkL (n:=O.length) (by omega),e2,hne,hiC,hrb]
 refine zG (fun m vs h'=>∃(k:Nat) (y:List Int),k≤d∧m=d-k∧vs=[.ptr sp 0,.int .i64 i,.fz wx ax O.length (pis x),.sl σ.next 0 O.length (.known O.length),.fz w5 a5 d rs,.int .i64 d,.int .i64 k]∧h'=σ.new (pis y)∧TT O (i+1) y∧fo (mu O P C d) (cvec C i) (nx x) (i+(1+k)) (d-k) y=Grp.img O C (mu O P C d) i x) d ?_ ?_
 ·exact⟨0,zv O,by omega,by omega,rfl,rfl,s.zv _,by rw [Grp.img,hlr];rfl⟩
 rintro m vs h' ⟨k,y,hkd,rfl,rfl,rfl,hy,hfo⟩
 simp only [pwA,seval,-iQ0];refine iteI (fun hlt=>?_) fun hge=>?_
 rotate_left
 ·have hke:d-k=0:=by omega
  rw [hke]at hfo
  rw [←hfo]at hk
  exact Gh.finF (zC σ _) (by simp only [pwA,seval,-iQ0];rfl) (Nat.le_refl _) (zN _ _) (by simp [capOK]) fun o=>hk _ (FI.mk hy.len)
 have hjl:i+(1+k)<O.length:=by omega
 have hjx:i+(1+k)<x.length:=by omega
 have bk:=hx.bd (i+(1+k)) hjl;have bOk:=s.pr _ hjl;have hnx:((nx x (i+(1+k)):Nat):Int)=at_ x (i+(1+k)):=Int.toNat_of_nonneg bk.1;obtain⟨w7,a7,hrk⟩:=hrs k hlt;have hcv:=s.cj i (i+(1+k)) (by omega) hjl
 have e3:IntKind.i64.wrap (((i+1:Nat):Int)+(k:Int))=((i+(1+k):Nat):Int):=by rw [wrap64 (by omega) (by omega)];omega
 rw [show d-k=(d-k-1)+1 by omega]at hfo
 simp only [pwA,seval,-iQ0,hlt,hrk,wi1,e3,hjl,pisAt hjx];refine zG (fun m vs h'=>∃(q:Nat) (y:List Int),q≤nx x (i+(1+k))∧m=nx x (i+(1+k))-q∧vs=[.ptr sp 0,.int .i64 i,.fz wx ax O.length (pis x),.sl σ.next 0 O.length (.known O.length),.fz w7 a7 O.length (pis (cvec C i (i+(1+k)))),.fz w5 a5 d rs,.int .i64 d,.int .i64 k,.int .i64 (at_ x (i+(1+k))),.int .i64 q]∧h'=σ.new (pis y)∧TT O (i+1) y∧fo (mu O P C d) (cvec C i) (nx x) (i+(1+k)+1) (d-k-1) (rep (mu O P C d) (cvec C i (i+(1+k))) (nx x (i+(1+k))-q) y)=Grp.img O C (mu O P C d) i x) (nx x (i+(1+k))) ?_ ?_
 ·exact⟨0,y,by omega,by omega,rfl,rfl,hy,hfo⟩
 rintro m vs h' ⟨q,y,hqn,rfl,rfl,rfl,hy,hfo⟩
 simp only [pwA,seval,-iQ0];refine iteI (fun hlt2=>?_) fun hge2=>?_
 ·have hlt3:q<nx x (i+(1+k)):=by omega
  refine QJ s F (hs0.new _) hR0 (x:=y) (by simp only [pwA,seval,-iQ0]) (by simp only [pwA,seval,-iQ0]) hne (.inr rfl) (by rw [edi];exact hy) (by rw [edi];exact hcv) (FI.mk hcv.len) ?_
  simp only [pwA,seval,-iQ0,wrapS hlt3 (by omega:nx x (i+(1+k))≤4611686018427387904)]
  have hmy:=M.cl (a:=y) (b:=cvec C i (i+(1+k))) (by rw [edi];exact hy) (by rw [edi];exact hcv)
  rw [edi]at hmy
  refine⟨_,by omega,q+1,_,by omega,rfl,rfl,rfl,hmy,?_⟩
  rw [show nx x (i+(1+k))-q=(nx x (i+(1+k))-(q+1))+1 by omega]at hfo
  exact hfo
 ·have hqe:q=nx x (i+(1+k)):=by omega
  subst hqe;rw [Nat.sub_self]at hfo
  simp only [pwA,seval,-iQ0,wrapS hlt (by omega:d≤4611686018427387904)]
  refine⟨_,by omega,k+1,y,by omega,rfl,rfl,rfl,hy,?_⟩
  rw [show d-(k+1)=d-k-1 by omega]
  exact hfo
end Go.Proofs
namespace Go.Grp
end Go.Grp
namespace Go.Proofs
open Go.Ab Go.Lie Go.Grp
variable {σ:PHeap} {K:PV→PHeap→Prop} {O:List Int} {P:List (List Int)} {C:List (List (List Int))} {vO vP vC vx vf va vb:PV} {x y f a b:List Int} {rP rC:List PV} {d j sp:Nat}
theorem zGL (s:Shp O P C) (F:Full O P C d) {i:Nat} (hi:O.length=d+(i+1)) (hs:PtrG σ sp vO vP vC) (hR:IsPr vO vP vC O P C)
  (hk:∀f0 f1 f2 f3:Int,((f0=0∧f1=0∧f2=0∧f3=0∧Lv O P C i)∨(f0≠0∧¬Lv O P C i))→K (.agg [.int .i64 f0,.int .i64 f1,.int .i64 f2,.int .i64 f3]) σ):zA Tryz.prog 213 [.ptr sp 0,.int .i64 i] σ K:=by
 have hn6:=s.le;have hR0:=hR;have hil:i<O.length:=by omega
 have M:=F.gp.toMon;have G:=F.gp;have edi:O.length-d=i+1:=by omega
 have ed:O.length-1-i=d:=by omega
 have hne:¬sp=σ.next:=Nat.ne_of_lt hs.lt;have hs1:∀cs,PtrG (σ.new cs) sp vO vP vC:=fun cs=>hs.new cs
 have yes:((∀q,q<d→pw (mu O P C d) (zv O) (cvec C i (i+(1+q))) (nx O (i+(1+q)))=Grp.img O C (mu O P C d) i (pvec P (i+(1+q))))→
   (∀q r,q+(1+r)<d→mu O P C d (cvec C i (i+(1+(q+(1+r))))) (cvec C i (i+(1+q)))=mu O P C d (cvec C i (i+(1+q))) (Grp.img O C (mu O P C d) i (cvec C (i+(1+q)) (i+(1+(q+(1+r)))))))→
   Grp.img O C (mu O P C d) i (pvec P i)=pvec P i→
   (∀q,q<d→mu O P C d (pvec P i) (iter (Grp.img O C (mu O P C d) i) (nx O i) (unitL O.length (i+(1+q))))=mu O P C d (unitL O.length (i+(1+q))) (pvec P i))→Lv O P C i):=fun h1 h2 h3 h4=>by
  refine⟨fun j g1 g2=>?_,fun j k g1 g2 g3=>?_,?_,fun j g1 g2=>?_⟩
  ·have:=h1 (j-i-1) (by omega);rw [show i+(1+(j-i-1))=j by omega]at this;rw [ed];exact this
  ·have:=h2 (j-i-1) (k-j-1) (by omega);rw [show i+(1+(j-i-1))=j by omega,show i+(1+(j-i-1+(1+(k-j-1))))=k by omega]at this;rw [ed];exact this
  ·rw [ed];exact h3
  ·have:=h4 (j-i-1) (by omega);rw [show i+(1+(j-i-1))=j by omega]at this;rw [ed];exact this
 have imgt:∀x,TT O (O.length-d) (Grp.img O C (mu O P C d) i x):=fun x=>by
  rw [edi];exact zA3 s (fun a b ha hb=>by have:=M.cl (a:=a) (b:=b) (by rw [edi];exact ha) (by rw [edi];exact hb);rwa [edi]at this) x
 obtain⟨⟨w0,a0,rfl⟩,⟨w1,a1,rP,rfl,hP⟩,⟨w3,a3,rC,rfl,hC⟩⟩:=hR;obtain⟨w5,a5,rs,hrb,hrs⟩:=cvRow s hC hil;have hiC:i<C.length:=by rw [s.cl];exact hil
 have hiP:i<P.length:=by rw [s.pl];exact hil
 have e0:σ.rd1 sp 0=some (.fz w0 a0 O.length (pis O)):=by rw [zI hs.obj];rfl
 have e1:σ.rd1 sp 1=some (.fz w1 a1 P.length rP):=by rw [zI hs.obj];rfl
 have e2:σ.rd1 sp 2=some (.fz w3 a3 C.length rC):=by rw [zI hs.obj];rfl
 refine zA.gh ?_;have fin:∀{f0 f1 f2 f3:Int} {σ':PHeap},((f0=0∧f1=0∧f2=0∧f3=0∧Lv O P C i)∨(f0≠0∧¬Lv O P C i))→Keep σ σ'→Gh σ K (.agg [.int .i64 f0,.int .i64 f1,.int .i64 f2,.int .i64 f3]) σ':=fun h k=>Gh.fin0 k ⟨trivial,trivial,trivial,trivial,trivial⟩ (hk _ _ _ _ h)
 have no:∀{f0 f1 f2 f3:Int},f0≠0→¬Lv O P C i→((f0=0∧f1=0∧f2=0∧f3=0∧Lv O P C i)∨(f0≠0∧¬Lv O P C i)):=fun h g=>.inr ⟨h,g⟩
 have hkp:∀cs:List PV,Keep σ (σ.new cs):=fun cs=>zC σ _
 have wi1:IntKind.i64.wrap ((i:Int)+1)=((i+1:Nat):Int):=wrapS hil (by omega)
 refine zL mix Tryz.func213 cf213 rfl ?_;dsimp only [if213,qI,eI,nI,qD,eD,mI0,kI0,lI0,fI0,xI0,bI0,cI0,nI0,sI0,pI0,C2,C3,mD0,lD0,fD0,xD0,pD0,R0,S0];simp only [pwA,seval,-iQ0,e0,hne]
 -- first condition
 simp only [pwA,seval,-iQ0,wi1];refine zG (fun m vs h'=>∃q:Nat,q≤d∧m=d-q∧vs=[.ptr sp 0,.int .i64 i,.ptr σ.next 0,.int .i64 O.length,.int .i64 i,.int .i64 ((i+(1+q):Nat):Int)]∧
  h'=σ.new [.int .i64 0,.int .i64 0,.int .i64 0,.int .i64 0]∧∀q',q'<q→pw (mu O P C d) (zv O) (cvec C i (i+(1+q'))) (nx O (i+(1+q')))=Grp.img O C (mu O P C d) i (pvec P (i+(1+q')))) d ?_ ?_
 ·exact⟨0,by omega,by omega,rfl,rfl,fun q h=>by omega⟩
 rintro m vs h' ⟨q,hq,rfl,rfl,rfl,hall⟩
 simp only [pwA,seval,-iQ0];refine iteI (fun hlt=>?_) fun hge=>?_
 ·have hjO:i+(1+q)<O.length:=by omega
  have hjP:i+(1+q)<P.length:=by rw [s.pl];exact hjO
  obtain⟨w6,a6,hrk⟩:=hrs q (by omega)
  obtain⟨w7,a7,hpr⟩:=pvRow s hP hjO;have hjr:q<O.length-1-i:=by omega
  have hcv:=s.cj i (i+(1+q)) (by omega) (by omega)
  have hcv':TT O (O.length-d) (cvec C i (i+(1+q))):=by rw [edi];exact hcv
  have hpv:=s.pw (i+(1+q)) hjO;have hO:=s.pr _ hjO;have e3:IntKind.i64.wrap (((i+(1+q):Nat):Int)-(i:Int))=((1+q:Nat):Int):=by rw [wrap64 (by omega) (by omega)];omega
  have e4:IntKind.i64.wrap (((1+q:Nat):Int)-1)=(q:Int):=by rw [wrap64 (by omega) (by omega)];omega
  have e5:IntKind.i64.wrap (((i+(1+q):Nat):Int)+1)=((i+(1+(q+1)):Nat):Int):=by rw [wrap64 (by omega) (by omega)];omega
  simp only [pwA,seval,-iQ0,e0,e1,e2,hne,wi1,hiC,hrb,e3,e4,hjr,hrk,hjO,pisAt hjO,hjP,hpr];refine zDv s F (hs1 _) hR0 hcv' (FI.mk hcv.len) (by omega) fun v hv=>?_
  simp only [pwA,seval,-iQ0,e0,e1,e2,hne,wi1,hiC,hrb,e3,e4,hjr,hrk,hjO,pisAt hjO,hjP,hpr];refine zAb s F hi (hs1 _) hR0 (hpv.mono (Nat.zero_le _)) (FI.mk hpv.len) fun v2 hv2=>?_
  obtain⟨w8,a8,rfl⟩:=hv;obtain⟨w9,a9,rfl⟩:=hv2;simp only [pwA,seval,-iQ0];refine zAA rfl rfl (by have:=(M.pw hcv' (at_ O (i+(1+q))).toNat).len;omega) ?_
  by_cases he:pw (mu O P C d) (zv O) (cvec C i (i+(1+q))) (nx O (i+(1+q)))=Grp.img O C (mu O P C d) i (pvec P (i+(1+q)))
  ·simp only [pwA,seval,-iQ0,eq_true he,e5]
   refine⟨_,by omega,q+1,by omega,rfl,rfl,fun q' h=>?_⟩
   by_cases e:q'=q
   ·subst e;exact he
   ·exact hall q' (by omega)
  ·simp only [pwA,seval,-iQ0,he]
   exact fin (no (by decide) fun L=>he (by have:=L.pow (i+(1+q)) (by omega) hjO;rwa [ed]at this)) (hkp _)
 have hqd:q=d:=by omega
 subst hqd
 -- second condition
 simp only [pwA,seval,-iQ0,wi1];refine zG (fun m vs h'=>∃q':Nat,q'≤q∧m=q-q'∧vs=[.ptr sp 0,.int .i64 i,.ptr σ.next 0,.int .i64 O.length,.int .i64 i,.int .i64 ((i+(1+q'):Nat):Int)]∧
  h'=σ.new [.int .i64 0,.int .i64 0,.int .i64 0,.int .i64 0]∧
  ∀t r,t<q'→t+(1+r)<q→mu O P C q (cvec C i (i+(1+(t+(1+r))))) (cvec C i (i+(1+t)))=mu O P C q (cvec C i (i+(1+t))) (Grp.img O C (mu O P C q) i (cvec C (i+(1+t)) (i+(1+(t+(1+r))))))) q ?_ ?_
 ·exact⟨0,by omega,by omega,rfl,rfl,fun t r h=>by omega⟩
 rintro m vs h' ⟨t,ht,rfl,rfl,rfl,hall2⟩
 simp only [pwA,seval,-iQ0];refine iteI (fun hlt=>?_) fun hge=>?_
 ·have hjO:i+(1+t)<O.length:=by omega
  have hjC:i+(1+t)<C.length:=by rw [s.cl];exact hjO
  obtain⟨w6,a6,hrk⟩:=hrs t (by omega)
  obtain⟨w7,a7,rs2,hrb2,hrs2⟩:=cvRow s hC hjO;have hjr:t<O.length-1-i:=by omega
  have hcv:=s.cj i (i+(1+t)) (by omega) (by omega)
  have hcv':TT O (O.length-q) (cvec C i (i+(1+t))):=by rw [edi];exact hcv
  have e3:IntKind.i64.wrap (((i+(1+t):Nat):Int)-(i:Int))=((1+t:Nat):Int):=by rw [wrap64 (by omega) (by omega)];omega
  have e4:IntKind.i64.wrap (((1+t:Nat):Int)-1)=(t:Int):=by rw [wrap64 (by omega) (by omega)];omega
  have e5:IntKind.i64.wrap (((i+(1+t):Nat):Int)+1)=((i+(1+(t+1)):Nat):Int):=by rw [wrap64 (by omega) (by omega)];omega
  simp only [pwA,seval,-iQ0,e5];refine zG (fun m vs h'=>∃r:Nat,t+(1+r)≤q∧m=q-(t+(1+r))∧vs=[.ptr sp 0,.int .i64 i,.ptr σ.next 0,.int .i64 O.length,.int .i64 i,.int .i64 ((i+(1+t):Nat):Int),.int .i64 ((i+(1+(t+(1+r))):Nat):Int)]∧
   h'=σ.new [.int .i64 0,.int .i64 0,.int .i64 0,.int .i64 0]∧
   ∀r',r'<r→t+(1+r')<q→mu O P C q (cvec C i (i+(1+(t+(1+r'))))) (cvec C i (i+(1+t)))=mu O P C q (cvec C i (i+(1+t))) (Grp.img O C (mu O P C q) i (cvec C (i+(1+t)) (i+(1+(t+(1+r'))))))) (q-(t+1)) ?_ ?_
  ·exact⟨0,by omega,by omega,rfl,rfl,fun r' h=>by omega⟩
  rintro m vs h' ⟨r,hr,rfl,rfl,rfl,hall3⟩
  simp only [pwA,seval,-iQ0];refine iteI (fun hlt2=>?_) fun hge2=>?_
  ·have hkO:i+(1+(t+(1+r)))<O.length:=by omega
   obtain⟨w8,a8,hrk2⟩:=hrs (t+(1+r)) (by omega)
   obtain⟨w9,a9,hrk3⟩:=hrs2 r (by omega)
   rw [show i+(1+t)+(1+r)=i+(1+(t+(1+r))) by omega]at hrk3
   have hcv2:=s.cj i (i+(1+(t+(1+r)))) (by omega) hkO
   have hcv2':TT O (O.length-q) (cvec C i (i+(1+(t+(1+r))))):=by rw [edi];exact hcv2
   have hcv3:=s.cj (i+(1+t)) (i+(1+(t+(1+r)))) (by omega) hkO
   have hkr:t+(1+r)<O.length-1-i:=by omega
   have hkr2:r<O.length-1-(i+(1+t)):=by omega
   have f3:IntKind.i64.wrap (((i+(1+(t+(1+r))):Nat):Int)-(i:Int))=((1+(t+(1+r)):Nat):Int):=by rw [wrap64 (by omega) (by omega)];omega
   have f4:IntKind.i64.wrap (((1+(t+(1+r)):Nat):Int)-1)=((t+(1+r):Nat):Int):=by rw [wrap64 (by omega) (by omega)];omega
   have f5:IntKind.i64.wrap (((i+(1+(t+(1+r))):Nat):Int)+1)=((i+(1+(t+(1+(r+1)))):Nat):Int):=by rw [wrap64 (by omega) (by omega)];omega
   have f6:IntKind.i64.wrap (((i+(1+(t+(1+r))):Nat):Int)-((i+(1+t):Nat):Int))=((1+r:Nat):Int):=by rw [wrap64 (by omega) (by omega)];omega
   have f7:IntKind.i64.wrap (((1+r:Nat):Int)-1)=(r:Int):=by rw [wrap64 (by omega) (by omega)];omega
   simp only [pwA,seval,-iQ0,e0,e1,e2,hne,wi1,hiC,hrb,e3,e4,f3,f4,f6,f7,hjr,hrk,hkr,hrk2,hjC,hrb2,hkr2,hrk3];refine zA4 s F (hs1 _) hR0 hcv2' hcv' (FI.mk hcv2.len) (FI.mk hcv.len) fun v z hz1 hz2 hv=>?_
   simp only [pwA,seval,-iQ0,e0,e1,e2,hne,wi1,hiC,hrb,e3,e4,f3,f4,f6,f7,hjr,hrk,hkr,hrk2,hjC,hrb2,hkr2,hrk3];refine zAb s F hi (hs1 _) hR0 (hcv3.mono (Nat.zero_le _)) (FI.mk hcv3.len) fun v2 hv2=>?_
   have hz:=imgt (cvec C (i+(1+t)) (i+(1+(t+(1+r)))));obtain⟨w10,a10,rfl⟩:=hv;obtain⟨w11,a11,rfl⟩:=hv2;simp only [pwA,seval,-iQ0];refine zAA rfl rfl (by have:=hz1.len;omega) ?_
   by_cases he:z=Grp.img O C (mu O P C q) i (cvec C (i+(1+t)) (i+(1+(t+(1+r)))))
   ·simp only [pwA,seval,-iQ0,eq_true he,f5]
    refine⟨_,by omega,r+1,by omega,rfl,rfl,fun r' h1 h2=>?_⟩
    by_cases e:r'=r
    ·subst e;rw [←he];exact hz2.symm
    ·exact hall3 r' (by omega) h2
   ·simp only [pwA,seval,-iQ0,he]
    exact fin (no (by decide) fun L=>he (by
     have:=L.cj (i+(1+t)) (i+(1+(t+(1+r)))) (by omega) (by omega) hkO
     rw [ed]at this
     exact G.cancel hcv' hz1 hz (hz2.trans this))) (hkp _)
  ·simp only [pwA,seval,-iQ0,e5]
   refine⟨_,by omega,t+1,by omega,rfl,rfl,fun t' r' h1 h2=>?_⟩
   by_cases e:t'=t
   ·subst e;exact hall3 r' (by omega) h2
   ·exact hall2 t' r' (by omega) h2
 -- third condition
 obtain⟨w6,a6,hpr⟩:=pvRow s hP hil;have hpv:=s.pw i hil;have hpv':TT O (O.length-q) (pvec P i):=by rw [edi];exact hpv
 simp only [pwA,seval,-iQ0,e1,hne,hiP,hpr];refine zAb s F hi (hs1 _) hR0 (hpv.mono (Nat.zero_le _)) (FI.mk hpv.len) fun v hv=>?_
 obtain⟨w7,a7,rfl⟩:=hv;simp only [pwA,seval,-iQ0];refine zAA rfl hpv.len.symm (by have:=(imgt (pvec P i)).len;omega) ?_
 by_cases he3:Grp.img O C (mu O P C q) i (pvec P i)=pvec P i
 rotate_left
 ·simp only [pwA,seval,-iQ0,he3]
  exact fin (no (by decide) fun L=>he3 (by have:=L.fix;rwa [ed]at this)) (hkp _)
 simp only [pwA,seval,-iQ0,eq_true he3,wi1]
 -- fourth condition
 refine zG (fun m vs h'=>∃q':Nat,q'≤q∧m=q-q'∧vs=[.ptr sp 0,.int .i64 i,.ptr σ.next 0,.int .i64 O.length,.int .i64 i,.fz w6 a6 O.length (pis (pvec P i)),.int .i64 ((i+(1+q'):Nat):Int)]∧
  h'=σ.new [.int .i64 0,.int .i64 0,.int .i64 0,.int .i64 0]∧
  ∀t,t<q'→mu O P C q (pvec P i) (iter (Grp.img O C (mu O P C q) i) (nx O i) (unitL O.length (i+(1+t))))=mu O P C q (unitL O.length (i+(1+t))) (pvec P i)) q ?_ ?_
 ·exact⟨0,by omega,by omega,rfl,rfl,fun t h=>by omega⟩
 rintro m vs h' ⟨t,ht,rfl,rfl,rfl,hall4⟩
 simp only [pwA,seval,-iQ0];refine iteI (fun hlt=>?_) fun hge=>?_
 rotate_left
 ·exact fin (.inl ⟨rfl,rfl,rfl,rfl,yes hall (fun t' r' h=>hall2 t' r' (by omega) h) he3 (fun t' h=>hall4 t' (by omega))⟩) (hkp _)
 have hjO:i+(1+t)<O.length:=by omega
 have hO:=s.pr i hil;have e5:IntKind.i64.wrap (((i+(1+t):Nat):Int)+1)=((i+(1+(t+1)):Nat):Int):=by rw [wrap64 (by omega) (by omega)];omega
 have hun:TT O (i+1) (unitL O.length (i+(1+t))):=s.unit hjO (by omega)
 have hun':TT O (O.length-q) (unitL O.length (i+(1+t))):=by rw [edi];exact hun
 simp only [pwA,seval,-iQ0];refine z8 (by omega) hjO fun av=>?_
 simp only [pwA,seval,-iQ0,e0,hne,hil,pisAt hil];refine zG (fun m vs h'=>∃(k:Nat) (v2:PV) (A:List Int),k≤nx O i∧m=nx O i-k∧vs=[.ptr sp 0,.int .i64 i,.ptr σ.next 0,.int .i64 O.length,.int .i64 i,.fz w6 a6 O.length (pis (pvec P i)),.int .i64 ((i+(1+t):Nat):Int),v2,.int .i64 (at_ O i),.int .i64 k]∧
  h'=σ.new [.int .i64 0,.int .i64 0,.int .i64 0,.int .i64 0]∧FI v2 A∧TT O (O.length-q) A∧iter (Grp.img O C (mu O P C q) i) (nx O i-k) A=iter (Grp.img O C (mu O P C q) i) (nx O i) (unitL O.length (i+(1+t)))) (nx O i) ?_ ?_
 ·exact⟨0,.fz true av O.length (pis (unitL O.length (i+(1+t)))),_,by omega,by omega,rfl,rfl,FI.mk (qF _ _),hun',rfl⟩
 rintro m vs h' ⟨k,v2,A,hkn,rfl,rfl,rfl,hv2,hA,hit⟩
 have hnx:((nx O i:Nat):Int)=at_ O i:=Int.toNat_of_nonneg (by omega)
 simp only [pwA,seval,-iQ0];refine iteI (fun hlt2=>?_) fun hge2=>?_
 ·have hlt3:k<nx O i:=by omega
  refine zAb s F hi (hs1 _) hR0 (hA.mono (Nat.zero_le _)) hv2 fun v3 hv3=>?_
  simp only [pwA,seval,-iQ0,wrapS hlt3 (by omega:nx O i≤4611686018427387904)]
  refine⟨_,by omega,k+1,v3,_,by omega,rfl,rfl,hv3,imgt _,?_⟩
  rw [show nx O i-k=(nx O i-(k+1))+1 by omega]at hit
  exact hit
 have hke:k=nx O i:=by omega
 subst hke;rw [Nat.sub_self]at hit
 have hA':A=iter (Grp.img O C (mu O P C q) i) (nx O i) (unitL O.length (i+(1+t))):=hit;subst hA';simp only [pwA,seval,-iQ0];refine z8 (by omega) hjO fun av2=>?_
 simp only [pwA,seval,-iQ0];refine zA4 s F (hs1 _) hR0 hun' hpv' (FI.mk (qF _ _)) (FI.mk hpv.len) fun v z hz1 hz2 hv=>?_
 obtain⟨w8,a8,rfl⟩:=hv2;obtain⟨w9,a9,rfl⟩:=hv;simp only [pwA,seval,-iQ0];refine zAA rfl rfl (by have:=hA.len;omega) ?_
 by_cases he:iter (Grp.img O C (mu O P C q) i) (nx O i) (unitL O.length (i+(1+t)))=z
 ·simp only [pwA,seval,-iQ0,eq_true he,e5]
  refine⟨_,by omega,t+1,by omega,rfl,rfl,fun t' h=>?_⟩
  by_cases e:t'=t
  ·subst e;rw [he];exact hz2
  ·exact hall4 t' (by omega)
 ·simp only [pwA,seval,-iQ0,he]
  exact fin (no (by decide) fun L=>he (by
   have:=L.inn (i+(1+t)) (by omega) hjO
   rw [ed]at this
   exact G.cancel hpv' hA hz1 (this.trans hz2.symm))) (hkp _)
end Go.Proofs
namespace Go.Grp
end Go.Grp
namespace Go.Proofs
open Go.Ab Go.Lie Go.Grp
variable {σ:PHeap} {K:PV→PHeap→Prop} {O:List Int} {P:List (List Int)} {C:List (List (List Int))} {vO vP vC vx vf va vb:PV} {x y f a b:List Int} {rP rC:List PV} {d j sp:Nat}
theorem zDX (s:Shp O P C) (hs:PtrG σ sp vO vP vC) (hR:IsPr vO vP vC O P C) (hk:∀r:Int,(r=0↔Cons O P C)→K (.int .i64 r) σ):zA Tryz.prog 124 [.ptr sp 0] σ K:=by
 have hn6:=s.le;have hR0:=hR;have hs0:=hs;obtain⟨⟨w0,a0,rfl⟩,⟨w1,a1,rP,rfl,hP⟩,⟨w3,a3,rC,rfl,hC⟩⟩:=hR;have e0:σ.rd1 sp 0=some (.fz w0 a0 O.length (pis O)):=by rw [zI hs.obj];rfl
 refine zD mix Tryz.func124 ?_
 conv=>arg 2;cbv
 refine zF rfl ?_;simp only [pwA,seval,-iQ0,e0];refine zG (fun m vs h'=>∃k:Nat,k≤O.length∧m=k∧vs=[.ptr sp 0,.int .i64 k]∧σ=h'∧∀j,k≤j→j<O.length→Lv O P C j) O.length ?_ ?_
 ·exact⟨O.length,Nat.le_refl _,rfl,rfl,rfl,fun j h1 h2=>by omega⟩
 rintro m vs h' ⟨k,hkO,rfl,rfl,rfl,hall⟩
 rcases Nat.eq_zero_or_pos m with rfl|hmp
 ·have h00:¬((0:Int)<((0:Nat):Int)):=by omega
  simp only [pwA,seval,-iQ0,h00];exact hk _ ⟨fun _ j hj=>hall j (Nat.zero_le _) hj,fun _=>rfl⟩
 obtain⟨i,rfl⟩:∃i,m=i+1:=⟨m-1,by omega⟩
 have hpos:(0:Int)<((i+1:Nat):Int):=by omega
 have hw:IntKind.i64.wrap (((i+1:Nat):Int)-1)=(i:Int):=by rw [wrap64 (by omega) (by omega)];omega
 have F:Full O P C (O.length-(i+1)):=full_of s (by omega) fun j h1 h2=>hall j (by omega) h2
 simp only [pwA,seval,-iQ0,hpos,hw];refine zGL s F (i:=i) (by omega) hs0 hR0 fun f0 f1 f2 f3 hf=>?_
 rcases hf with ⟨rfl,rfl,rfl,rfl,L⟩|⟨h0,hn⟩
 ·simp only [pwA,seval,-iQ0,hpos,hw]
  refine⟨i,by omega,i,by omega,rfl,rfl,fun j h1 h2=>?_⟩
  by_cases e:j=i
  ·subst e;exact L
  ·exact hall j (by omega) h2
 ·simp only [pwA,seval,-iQ0,hpos,hw,h0,Bool.false_and]
  exact hk _ ⟨fun h=>absurd h (by omega),fun h=>absurd (h i (by omega)) hn⟩
theorem zFD (hR:IsPr vO vP vC O P C) (sz:SzP O P C) (hk:∀t:Bool,(t=true↔ZI O P C∧Cons O P C)→K (.bool t) σ):zA Tryz.prog 40 [.agg [vO,vP,vC]] σ K:=by
 have h0:=hR.O.one;have h1:=hR.P.one;have h2:=hR.C.one;have fl:∀{A:Prop},¬A→((false=true)↔A):=fun h=>⟨fun x=>(by cases x),fun x=>absurd x h⟩
 have hpt:PtrG (σ.new [vO,vP,vC]) σ.next vO vP vC:=⟨by simp only [pwA,seval,-iQ0],by simp only [pwA,seval,-iQ0]⟩
 refine zA.gh ?_;refine zD mix Tryz.func40 ?_
 conv=>arg 2;cbv
 refine zF rfl ?_;simp only [pwA,seval,-iQ0,h0,h1,h2];refine zDY hR sz fun t ht=>?_
 cases t with
 | false=>
  simp only [pwA,seval,-iQ0];exact Gh.fin0 (zC σ _) trivial (hk _ (fl fun h=>by cases ht.2 h.1))
 | true=>
  have hp:=ht.1 rfl;simp only [pwA,seval,-iQ0];refine zDX hp.shp hpt hR fun r hr=>?_
  simp only [pwA,seval,-iQ0];exact Gh.fin0 (zC σ _) trivial (hk _ (by rw [decide_eq_true_iff];exact⟨fun h=>⟨hp,hr.1 h⟩,fun h=>hr.2 h.2⟩))
def cenE (C:List (List (List Int))) (i q:Nat):Prop:=at_ (cvec C i (i+(1+q))) (i+(1+q))=1∧isZ ((cvec C i (i+(1+q))).take (i+(1+q)))
def isCen (O:List Int) (C:List (List (List Int))):Prop:=∀i,i<O.length→at_ O i=at_ O 0∧∀q,i+(1+q)<O.length→cenE C i q
end Go.Proofs
set_option linter.unusedSectionVars false
namespace Go.Grp
open Go.Ab Go.Lie
variable {α:Type} {S:α→Prop} {m:α→α→α} {e:α} {a b c x y z g:α}
noncomputable def ginv [Inhabited α] (S:α→Prop) (m:α→α→α) (e a:α):α:=Classical.epsilon fun b=>S b∧m a b=e
section
variable [Inhabited α]
theorem Gp.inv_in (G:Gp S m e) (ha:S a):S (ginv S m e a)∧m a (ginv S m e a)=e:=by
 obtain⟨b,h1,h2,h3⟩:=G.inv ha;exact Classical.epsilon_spec (p:=fun b=>S b∧m a b=e) ⟨b,h1,h2⟩
theorem Gp.inv_eq (G:Gp S m e) (ha:S a) (hb:S b) (h:m a b=e):b=ginv S m e a:=G.cancel ha hb (G.inv_in ha).1 (h.trans (G.inv_in ha).2.symm)
theorem Gp.inv_l (G:Gp S m e) (ha:S a):m (ginv S m e a) a=e:=by
 obtain⟨b,h1,h2,h3⟩:=G.inv ha;rw [←G.inv_eq ha h1 h2];exact h3
theorem Gp.inv_r (G:Gp S m e) (ha:S a):m a (ginv S m e a)=e:=(G.inv_in ha).2
noncomputable def com (S:α→Prop) (m:α→α→α) (e x y:α):α:=m (ginv S m e x) (m (ginv S m e y) (m x y))
noncomputable def cnj (S:α→Prop) (m:α→α→α) (e x g:α):α:=m (ginv S m e g) (m x g)
theorem Gp.com_in (G:Gp S m e) (hx:S x) (hy:S y):S (com S m e x y):=G.cl (G.inv_in hx).1 (G.cl (G.inv_in hy).1 (G.cl hx hy))
theorem Gp.cnj_in (G:Gp S m e) (hx:S x) (hg:S g):S (cnj S m e x g):=G.cl (G.inv_in hg).1 (G.cl hx hg)
theorem Gp.com_spec (G:Gp S m e) (hx:S x) (hy:S y):m (m y x) (com S m e x y)=m x y:=by
 have ix:=(G.inv_in hx).1;have iy:=(G.inv_in hy).1;have xy:=G.cl hx hy;unfold com;rw [G.as hy hx (G.cl ix (G.cl iy xy)),←G.as hx ix (G.cl iy xy),G.inv_r hx,G.l1 (G.cl iy xy),←G.as hy iy xy,G.inv_r hy,G.l1 xy]
theorem Gp.com_eq (G:Gp S m e) (hx:S x) (hy:S y) (hz:S z) (h:m (m y x) z=m x y):z=com S m e x y:=
 G.cancel (G.cl hy hx) hz (G.com_in hx hy) (h.trans (G.com_spec hx hy).symm)
theorem Gp.cnj_spec (G:Gp S m e) (hx:S x) (hg:S g):m g (cnj S m e x g)=m x g:=by
 unfold cnj;rw [←G.as hg (G.inv_in hg).1 (G.cl hx hg),G.inv_r hg,G.l1 (G.cl hx hg)]
theorem Gp.cnj_eq (G:Gp S m e) (hx:S x) (hg:S g) (hz:S z) (h:m g z=m x g):z=cnj S m e x g:=
 G.cancel hg hz (G.cnj_in hx hg) (h.trans (G.cnj_spec hx hg).symm)
structure NSub (S:α→Prop) (m:α→α→α) (e:α) (N:α→Prop):Prop where
 inS:∀{x},N x→S x
 one:N e
 cl:∀{x y},N x→N y→N (m x y)
 inv:∀{x},N x→N (ginv S m e x)
 nor:∀{x g},N x→S g→N (cnj S m e x g)
theorem Gp.cnj_one (G:Gp S m e) (hg:S g):cnj S m e e g=e:=(G.cnj_eq G.one hg G.one (by rw [G.r1 hg,G.l1 hg])).symm
theorem Gp.cnj_com (G:Gp S m e) (hx:S x) (hy:S y):m x (com S m e x y)=cnj S m e x y:=by
 have c1:=G.com_in hx hy;exact G.cnj_eq hx hy (G.cl hx c1) (by rw [←G.as hy hx c1];exact G.com_spec hx hy)
theorem NSub.com_in (G:Gp S m e) {N:α→Prop} (hN:NSub S m e N) (hx:N x) (hy:S y):N (com S m e x y):=by
 have sx:=hN.inS hx;have h1:=G.cnj_com sx hy;have ix:=(G.inv_in sx).1
 have:com S m e x y=m (ginv S m e x) (cnj S m e x y):=by
  rw [←h1,←G.as ix sx (G.com_in sx hy),G.inv_l sx,G.l1 (G.com_in sx hy)]
 rw [this];exact hN.cl (hN.inv hx) (hN.nor hx hy)
end
end Go.Grp
namespace Go.Grp
open Go.Ab Go.Lie
variable {O:List Int} {P:List (List Int)} {C:List (List (List Int))} {x y z:List Int} {A B:List Int→Prop}
abbrev gS (O:List Int):List Int→Prop:=TT O 0
abbrev gm (O:List Int) (P:List (List Int)) (C:List (List (List Int))):List Int→List Int→List Int:=mu O P C O.length
theorem Full.g (F:Full O P C O.length):Gp (gS O) (gm O P C) (zv O):=by
 have:=F.gp
 rwa [Nat.sub_self]at this
noncomputable abbrev gcom (O:List Int) (P:List (List Int)) (C:List (List (List Int))) (x y:List Int):List Int:=com (gS O) (gm O P C) (zv O) x y
abbrev gN (O:List Int) (P:List (List Int)) (C:List (List (List Int))) (N:List Int→Prop):Prop:=NSub (gS O) (gm O P C) (zv O) N
end Go.Grp
namespace Go.Grp
open Go.Ab Go.Lie
variable {O:List Int} {P:List (List Int)} {C:List (List (List Int))} {x y z a b c:List Int} {A B:List Int→Prop} {d t i:Nat}
def Cent (O:List Int) (C:List (List (List Int))):Prop:=∀i j,i<j→j<O.length→TT O j (cvec C i j)∧at_ (cvec C i j) j=1
def addm (o a b:Int):Int:=if a+b ≥ o then a+b-o else a+b
theorem zMV (o a b:Int):addm o a b=addm o b a:=by unfold addm;rw [Int.add_comm]
theorem zEF {o a b:Int} (ha:0≤a∧a<o) (hb:0≤b∧b<o) (h:addm o a b=a):b=0:=by
 unfold addm at h;split at h<;>omega
def Upto (O:List Int) (t:Nat) (x y:List Int):Prop:=∀j,j<t→at_ x j=at_ y j
theorem zOa (s:Shp O P C) (hd:d+1≤O.length) (hi:i=O.length-(d+1)) (h0:at_ b i=0) (ha:TT O i a) (hb:TT O i b):mu O P C (d+1) a b=(mu O P C d (a.set i 0) (b.set i 0)).set i (at_ a i):=by
 have ba:=ha.bd i (by omega)
 subst hi;simp only [mu];rw [h0,if_neg (by omega),show nx b (O.length-(d+1))=0 by show(at_ b _).toNat=0;rw [h0];rfl,Int.add_zero]
 rfl
theorem ZR (s:Shp O P C):∀{d:Nat} {b:List Int},d≤O.length→O.length-d≤t→t<O.length→TT O (O.length-d) b→TT O t a→Upto O t (mu O P C d b a) b∧at_ (mu O P C d b a) t=addm (at_ O t) (at_ b t) (at_ a t)
 | 0,b,hd,h1,h2,hb,ha=>by omega
 | d+1,b,hd,h1,h2,hb,ha=>by
  have hi:O.length-(d+1)<O.length:=by omega
  have e:O.length-d=O.length-(d+1)+1:=by omega
  have hpos:=s.pos hi;have bl:O.length-(d+1)<b.length:=by rw [hb.len];exact hi
  have hbs:=hb.set0 hi hpos;rw [←e]at hbs
  by_cases ht:O.length-(d+1)=t
  ·have hr:=mu_tt s hd hb (ha.mono (by omega):TT O (O.length-(d+1)) a)
   refine⟨fun j hj=>by rw [hr.zero j (by omega),hb.zero j (by omega)],?_⟩
   have hm:∀a b,TT O (O.length-d) a→TT O (O.length-d) b→TT O (O.length-d) (mu O P C d a b):=fun a b h1 h2=>mu_tt s (by omega) h1 h2
   have has:=(ha.mono (by omega):TT O (O.length-(d+1)) a).set0 hi hpos
   rw [←e]at has
   have ir:=hm _ _ (zAj (fun x _=>by rw [e];exact zA3 s (by rw [←e];exact hm) x) (nx a (O.length-(d+1))) hbs) has
   have hw:TT O (O.length-d) (pvec P (O.length-(d+1))):=by rw [e];exact s.pw _ hi
   have ir2:=hm _ _ hw ir;rw [←ht];simp only [mu,addm]
   split
   ·rw [at_set (by rw [ir2.len];exact hi),if_pos rfl]
   ·rw [at_set (by rw [ir.len];exact hi),if_pos rfl]
  ·have ha0:at_ a (O.length-(d+1))=0:=ha.zero _ (by omega)
   rw [zOa s hd rfl ha0 hb (ha.mono (by omega)),qJ ha0 (by rw [ha.len];exact hi)]
   obtain⟨i1,i2⟩:=ZR s (d:=d) (by omega) (by omega) h2 hbs ha
   have hml:=(mu_tt s (by omega:d≤O.length) hbs (ha.mono (by omega):TT O (O.length-d) a)).len
   refine⟨fun j hj=>?_,?_⟩
   ·rw [at_set (by rw [hml];exact hi)]
    split
    ·rename_i h;rw [h]
    ·rename_i h;rw [i1 j hj,at_set bl,if_neg h]
   ·rw [at_set (by rw [hml];exact hi),if_neg (by omega),i2,at_set bl,if_neg (by omega)]
theorem zNW (s:Shp O P C) (hC:Cent O C) (hi:O.length-d=i+1) (hd:d≤O.length) (hit:i<t) (ht:t<O.length) (hx:TT O t x):TT O t (Grp.img O C (mu O P C d) i x)∧at_ (Grp.img O C (mu O P C d) i x) t=at_ x t:=by
 have bx:=hx.bd t ht;have hm:∀a b,TT O (i+1) a→TT O (i+1) b→TT O (i+1) (mu O P C d a b):=fun a b h1 h2=>by
  have:=mu_tt s hd (a:=a) (b:=b) (by rw [hi];exact h1) (by rw [hi];exact h2)
  rwa [hi]at this
 have sk:Grp.img O C (mu O P C d) i x=fo (mu O P C d) (cvec C i) (nx x) t (O.length-t) (zv O):=by
  unfold img;have h:=Nat.add_sub_of_le (show i+1≤t by omega)
  have:∀(k u:Nat) (a:List Int),u+k=t→(fo (mu O P C d) (cvec C i) (nx x) u (k+(O.length-t)) a=fo (mu O P C d) (cvec C i) (nx x) t (O.length-t) a):=by
   intro k
   induction k with
   | zero=>intro u a h;rw [Nat.zero_add,show u=t by omega]
   | succ k ih=>
    intro u a h;rw [show k+1+(O.length-t)=(k+(O.length-t))+1 by omega,fo,show nx x u=0 by show(at_ x u).toNat=0;rw [hx.zero u (by omega)];rfl]
    exact ih (u+1) a (by omega)
  have:=this (t-(i+1)) (i+1) (zv O) (by omega)
  rwa [show t-(i+1)+(O.length-t)=O.length-1-i by omega]at this
 rw [sk,show O.length-t=(O.length-(t+1))+1 by omega,fo]
 obtain⟨c1,c2⟩:=hC i t hit ht;have st:∀k:Nat,(k:Int)≤at_ x t→∀{a:List Int} {q:Int},TT O t a→at_ a t=q→0≤q→q+k≤at_ x t→TT O t (rep (mu O P C d) (cvec C i t) k a)∧at_ (rep (mu O P C d) (cvec C i t) k a) t=q+k:=by
  intro k
  induction k with
  | zero=>intro _ a q ha hq _ _;exact⟨ha,by rw [rep,hq];omega⟩
  | succ k ih=>
   intro hk a q ha hq hq0 hqk;obtain⟨r1,r2⟩:=ZR s (d:=d) (t:=t) (a:=cvec C i t) (b:=a) hd (by omega) ht (ha.mono (by omega)) c1
   have hta:TT O t (mu O P C d a (cvec C i t)):=by
    have h0:=hm a (cvec C i t) (ha.mono (by omega)) (c1.mono (by omega))
    exact⟨h0.len,h0.bd,fun j hj=>by rw [r1 j hj];exact ha.zero j hj⟩
   rw [c2,hq,addm,if_neg (by omega)]at r2
   have:=ih (by omega) hta r2 (by omega) (by omega)
   rw [rep];exact⟨this.1,by rw [this.2];omega⟩
 have hnx:((nx x t:Nat):Int)=at_ x t:=Int.toNat_of_nonneg bx.1;obtain⟨q1,q2⟩:=st (nx x t) (by omega) (a:=zv O) (q:=0) (s.zv _) (zo _ t) (Int.le_refl _) (by omega)
 -- the later factors leave it
 have lat:=fo_in (S:=fun a=>TT O t a∧at_ a t=at_ x t) (m:=mu O P C d) (h:=cvec C i) (x:=nx x) (d:=O.length-(t+1)) (t:=t+1) (a:=rep (mu O P C d) (cvec C i t) (nx x t) (zv O)) ?_ ⟨q1,by rw [q2];omega⟩
 ·exact lat
 ·rintro j h1 h2 a ⟨ha,hat⟩
  obtain⟨d1,d2⟩:=hC i j (by omega) (by omega)
  obtain⟨r1,r2⟩:=ZR s (d:=d) (t:=j) (a:=cvec C i j) (b:=a) hd (by omega) (by omega) (ha.mono (by omega)) d1
  have h0:=hm a (cvec C i j) (ha.mono (by omega)) (d1.mono (by omega))
  exact⟨⟨h0.len,h0.bd,fun k hk=>by rw [r1 k (by omega)];exact ha.zero k hk⟩,by rw [r1 t (by omega)];exact hat⟩
end Go.Grp
namespace Go.Grp
open Go.Ab Go.Lie
variable {O:List Int} {P:List (List Int)} {C:List (List (List Int))} {x y z a b c g:List Int} {A B:List Int→Prop} {t i:Nat}
theorem zJQ (s:Shp O P C) (hC:Cent O C):∀{d:Nat} {a b:List Int},d≤O.length→O.length-d≤t→t<O.length→TT O t a→TT O (O.length-d) b→Upto O t (mu O P C d a b) b∧at_ (mu O P C d a b) t=addm (at_ O t) (at_ a t) (at_ b t)
 | 0,a,b,hd,h1,h2,ha,hb=>by omega
 | d+1,a,b,hd,h1,h2,ha,hb=>by
  have hi:O.length-(d+1)<O.length:=by omega
  have e:O.length-d=O.length-(d+1)+1:=by omega
  have hpos:=s.pos hi;have bl:O.length-(d+1)<b.length:=by rw [hb.len];exact hi
  have hbs:=hb.set0 hi hpos;rw [←e]at hbs
  have ha':TT O (O.length-(d+1)) a:=ha.mono (by omega)
  have has:=ha'.set0 hi hpos;rw [←e]at has
  have hm:∀a b,TT O (O.length-d) a→TT O (O.length-d) b→TT O (O.length-d) (mu O P C d a b):=fun a b h1 h2=>mu_tt s (by omega) h1 h2
  by_cases ht:O.length-(d+1)=t
  ·have hr:=mu_tt s hd ha' hb
   refine⟨fun j hj=>by rw [hr.zero j (by omega),hb.zero j (by omega)],?_⟩
   have ir:=hm _ _ (zAj (fun x _=>by rw [e];exact zA3 s (by rw [←e];exact hm) x) (nx b (O.length-(d+1))) has) hbs
   have hw:TT O (O.length-d) (pvec P (O.length-(d+1))):=by rw [e];exact s.pw _ hi
   have ir2:=hm _ _ hw ir;rw [←ht];simp only [mu,addm]
   split
   ·rw [at_set (by rw [ir2.len];exact hi),if_pos rfl]
   ·rw [at_set (by rw [ir.len];exact hi),if_pos rfl]
  ·have ha0:at_ a (O.length-(d+1))=0:=ha.zero _ (by omega)
   have haa:a.set (O.length-(d+1)) 0=a:=qJ ha0 (by rw [ha.len];exact hi)
   have bb:=hb.bd _ hi
   -- images of a
   have it:∀(k:Nat) {u:List Int},TT O t u→at_ u t=at_ a t→TT O t (iter (Grp.img O C (mu O P C d) (O.length-(d+1))) k u)∧at_ (iter (Grp.img O C (mu O P C d) (O.length-(d+1))) k u) t=at_ a t:=by
    intro k
    induction k with
    | zero=>intro u h1 h2;exact⟨h1,h2⟩
    | succ k ih=>
     intro u h3 h4;obtain⟨k1,k2⟩:=zNW (P:=P) (t:=t) (d:=d) s hC (i:=O.length-(d+1)) e (by omega) (by omega) h2 h3
     exact ih k1 (by rw [k2];exact h4)
   obtain⟨l1,l2⟩:=it (nx b (O.length-(d+1))) ha rfl;obtain⟨i1,i2⟩:=zJQ s hC (d:=d) (by omega) (by omega) h2 l1 hbs
   have hml:=(hm _ _ (l1.mono (by omega)) hbs).len
   simp only [mu];rw [ha0,if_neg (by omega),haa,Int.zero_add]
   refine⟨fun j hj=>?_,?_⟩
   ·show at_ ((mu O P C d _ _).set _ _) j=_
    rw [at_set (by rw [hml];exact hi)]
    split
    ·rename_i h;rw [h]
    ·rename_i h;rw [i1 j hj,at_set bl,if_neg h]
   ·show at_ ((mu O P C d _ _).set _ _) t=_
    rw [at_set (by rw [hml];exact hi),if_neg (by omega),i2,l2,at_set bl,if_neg (by omega)]
section
variable (s:Shp O P C) (F:Full O P C O.length) (hC:Cent O C)
include s F hC
theorem behind (hz:gS O z) (hc:gS O c) (h:Upto O t (gm O P C z c) z) (ht:t≤O.length):TT O t c:=by
 have:∀k,k≤t→TT O k c:=by
  intro k
  induction k with
  | zero=>intro _;exact hc
  | succ k ih=>
   intro hk;have hck:=ih (by omega)
   obtain⟨r1,r2⟩:=ZR s (d:=O.length) (t:=k) (a:=c) (b:=z) (Nat.le_refl _) (by omega) (by omega) (by rw [Nat.sub_self];exact hz) hck
   have e:=h k (by omega)
   show TT O (k+1) c;have e2:addm (at_ O k) (at_ z k) (at_ c k)=at_ z k:=by rw [←r2];exact e
   have:=zEF (hz.bd k (by omega)) (hc.bd k (by omega)) e2
   refine⟨hc.len,hc.bd,fun j hj=>?_⟩
   by_cases g:j=k
   ·subst g;exact this
   ·exact hck.zero j (by omega)
 exact this t (Nat.le_refl _)
theorem zFG (ht:t≤O.length) (hx:TT O t x) (hy:gS O y):Upto O t (gm O P C x y) y:=by
 rcases Nat.lt_or_ge t O.length with h|h
 ·exact(zJQ s hC (d:=O.length) (t:=t) (a:=x) (b:=y) (Nat.le_refl _) (by omega) h hx (by rw [Nat.sub_self];exact hy)).1
 ·have hx0:x=zv O:=hx.ext (s.zv _) fun j h1 h2=>by omega
  rw [hx0,F.g.l1 hy];exact fun j _=>rfl
theorem zDF (ht:t≤O.length):gN O P C (TT O t):=by
 have G:=F.g;have up0:∀{x:List Int},TT O t x→gS O x:=fun h=>h.mono (Nat.zero_le _)
 refine⟨up0,s.zv _,fun {x y} hx hy=>?_,fun {x} hx=>?_,fun {x g} hx hg=>?_⟩
 ·have h0:=G.cl (up0 hx) (up0 hy)
  exact⟨h0.len,h0.bd,fun j hj=>by rw [zFG s F hC ht hx (up0 hy) j hj];exact hy.zero j hj⟩
 ·obtain⟨i1,i2⟩:=G.inv_in (up0 hx)
  have:=zFG s F hC ht hx i1
  rw [show gm O P C x (ginv (gS O) (gm O P C) (zv O) x)=zv O from i2]at this
  exact⟨i1.len,i1.bd,fun j hj=>by rw [←this j hj];exact zo _ j⟩
 ·refine behind s F hC hg (G.cnj_in (up0 hx) hg) (fun j hj=>?_) ht
  have e:gm O P C g (cnj (gS O) (gm O P C) (zv O) x g)=gm O P C x g:=G.cnj_spec (up0 hx) hg;rw [e];exact zFG s F hC ht hx hg j hj
end
end Go.Grp
namespace Go.Grp
open Go.Ab Go.Lie
variable {O:List Int} {P:List (List Int)} {C:List (List (List Int))} {x y z a b c g:List Int} {u v L:List (List Int)} {t i k:Nat}
section
variable (s:Shp O P C) (F:Full O P C O.length)
include s F
theorem triv:gN O P C (fun x=>x=zv O):=by
 have G:=F.g;refine⟨fun h=>by rw [h];exact G.one,rfl,fun h1 h2=>by rw [h1,h2];exact G.l1 G.one,fun h=>?_,fun h hg=>by rw [h];exact G.cnj_one hg⟩
 rw [h];exact(G.inv_eq G.one G.one (G.l1 G.one)).symm
end
end Go.Grp
namespace Go.Grp
end Go.Grp
namespace Go.Proofs
open Go.Ab Go.Lie Go.Grp
variable {σ:PHeap} {K:PV→PHeap→Prop} {O:List Int} {P:List (List Int)} {C:List (List (List Int))} {vO vP vC vx vf va vb:PV} {x y f a b:List Int} {rP rC:List PV} {d j sp:Nat}
theorem zN4 {i:Nat} (xl:i<x.length):(x.set i 0).set i (at_ x i)=x:=zK4 xl
theorem zHQ (s:Shp O P C) {d i:Nat} (hi:O.length=(d+1)+i) (F:Full O P C d) (F1:Full O P C (d+1)) {y1 y2:List Int} (hx:TT O i x) (h1:TT O (i+1) y1) (h2:TT O (i+1) y2) (e1:mu O P C d (x.set i 0) y1=zv O) (e2:mu O P C d (pvec P i) y2=zv O):
  (at_ x i=0→mu O P C (d+1) x y1=zv O)∧(at_ x i≠0→mu O P C (d+1) x (mu O P C (d+1) (mu O P C (d+1) y1 ((zv O).set i (at_ O i-at_ x i))) y2)=zv O):=by
 have hil:i<O.length:=by omega
 have hn:O.length-d=i+1:=by omega
 have hn1:O.length-(d+1)=i:=by omega
 have hpos:=s.pos hil;have bx:=hx.bd i hil;have xl:i<x.length:=by rw [hx.len];exact hil
 have M:=F.gp.toMon;have G1:=F1.gp;rw [hn1]at G1
 have hr:TT O (O.length-d) (x.set i 0):=by rw [hn];exact hx.set0 hil hpos
 have h1':TT O (O.length-d) y1:=by rw [hn];exact h1
 have h2':TT O (O.length-d) y2:=by rw [hn];exact h2
 have hz:TT O (O.length-d) (zv O):=s.zv _;have hw:TT O (O.length-d) (pvec P i):=by rw [hn];exact s.pw i hil
 have sub:∀{u v:List Int},TT O (O.length-d) u→TT O (O.length-d) v→mu O P C (d+1) u v=mu O P C d u v:=fun hu hv=>zFV s (by omega) hu hv
 constructor
 ·intro h0
  rw [qJ h0 xl]at e1 hr
  rw [sub hr h1'];exact e1
 ·intro h0
  have z0:(zv O).set i 0=zv O:=qJ (zo _ i) (by simp;exact hil)
  have ia:∀k,iter (al O P C d i) k (zv O)=zv O:=fun k=>zCr (al_zv s F.toBeh hn) k
  have hg:TT O i ((zv O).set i (at_ x i)):=(s.zv i).set hil (Nat.le_refl _) bx;have ht:TT O i ((zv O).set i (at_ O i-at_ x i)):=(s.zv i).set hil (Nat.le_refl _) ⟨by omega,by omega⟩
  have hrl:i<(x.set i 0).length:=by rw [List.length_set];exact xl
  have r0:(x.set i 0).set i 0=x.set i 0:=by rw [List.set_set]
  have up:∀{u:List Int},TT O (O.length-d) u→TT O i u:=fun h=>h.mono (by omega)
  have ex:mu O P C (d+1) ((zv O).set i (at_ x i)) (x.set i 0)=x:=by
   have:=zDL s F.toBeh hn (a:=at_ x i) (b:=0) hz hr
   rw [r0,if_neg (by omega),ia,M.l1 hr,Int.add_zero,zN4 xl]at this
   exact this
  have et:mu O P C (d+1) ((zv O).set i (at_ x i)) ((zv O).set i (at_ O i-at_ x i))=pvec P i:=by
   have:=zDL s F.toBeh hn (a:=at_ x i) (b:=at_ O i-at_ x i) hz hz
   rw [if_pos (by omega),ia,M.l1 hz,M.r1 hw,show at_ x i+(at_ O i-at_ x i)-at_ O i=0 by omega,qJ (hw.zero i (by omega)) (by rw [hw.len];exact hil)]at this
   exact this
  have key:∀Y,mu O P C (d+1) x Y=mu O P C (d+1) (mu O P C (d+1) ((zv O).set i (at_ x i)) (x.set i 0)) Y:=fun Y=>by rw [ex]
  rw [key];have k1:=up h1';have k2:=up h2';have kr:=up hr;rw [G1.as hg kr (G1.cl (G1.cl k1 ht) k2),←G1.as kr (G1.cl k1 ht) k2,←G1.as kr k1 ht,sub hr h1',e1,G1.l1 ht,←G1.as hg ht k2,et,sub hw h2',e2]
end Go.Proofs
namespace Go.Grp
end Go.Grp
namespace Go.Proofs
open Go.Ab Go.Lie Go.Grp
variable {σ:PHeap} {K:PV→PHeap→Prop} {O:List Int} {P:List (List Int)} {C:List (List (List Int))} {vO vP vC vx vf va vb:PV} {x y f a b:List Int} {rP rC:List PV} {d j sp:Nat}
def zMa (O:List Int) (P:List (List Int)) (C:List (List (List Int))) (d i:Nat):Prop:=
 ∀(σ:PHeap) (K:PV→PHeap→Prop) (x:List Int) (vx vO vP vC:PV),IsPr vO vP vC O P C→TT O i x→FI vx x→(∀v y,FI v y→TT O i y→mu O P C d x y=zv O→K v σ)→zA Tryz.prog 302 [.agg [vO,vP,vC],.int .i64 i,vx] σ K
theorem zEq (s:Shp O P C) (hc:Cons O P C):∀{d i:Nat},O.length=d+i→zMa O P C d i
 | 0,i,hi=>by
  intro σ K x vx vO vP vC hR hx hvx hk;have hn6:=s.le;obtain⟨⟨w0,a0,rfl⟩,⟨w1,a1,rP,rfl,hP⟩,⟨w3,a3,rC,rfl,hC⟩⟩:=hR;refine zA.gh ?_;have hge:(O.length:Int)≤(i:Int):=by omega
  refine zL mix Tryz.func302 cf302 rfl ?_;dsimp only [if302,qI,eI,nI,qD,eD,mI0,lI0,LI0,fI0,xI0,bI0,cI0,sI0,C1,C3,mD0,lD0,fD0,xD0,R0,S0];simp only [pwA,seval,-iQ0,hge,List.length_replicate,qH,mk8 (n:=O.length) (by omega),mkL (n:=O.length) (by omega)]
  exact Gh.finF (s:=σ.next+1) ((zC σ _).new _) (by simp only [pwA,seval,-iQ0]) (by omega) (zN _ _) (by simp [capOK]) fun o1=>hk _ (zv O) (FI.mk (by simp)) (s.zv _) rfl
 | d+1,i,hi=>by
  intro σ K x vx vO vP vC hR hx hvx hk;have hFr:zMa O P C d (i+1):=zEq s hc (by omega)
  have F:Full O P C d:=full_of s (by omega) fun j h1 h2=>hc j h2
  have F1:Full O P C (d+1):=full_of s (by omega) fun j h1 h2=>hc j h2
  have hAt:AtOK O P C (d+1) i:=zA2 s (by omega)
  have hn6:=s.le;have hR0:=hR;have hil:i<O.length:=by omega
  have hO:=s.pr i hil;have hpos:=s.pos hil;have hxl:=hx.len;have bx:=hx.bd i hil;have hn1:O.length-(d+1)=i:=by omega
  have G1:=F1.gp;rw [hn1]at G1
  obtain⟨⟨w0,a0,rfl⟩,⟨w1,a1,rP,rfl,hP⟩,⟨w3,a3,rC,rfl,hC⟩⟩:=hR;obtain⟨w5,a5,hpr⟩:=pvRow s hP hil;have hiP:i<P.length:=by rw [s.pl];exact hil
  have hpv:=s.pw i hil;obtain⟨wx,ax,rfl⟩:=hvx;have hilx:i<x.length:=by omega
  have hge:¬(O.length:Int)≤(i:Int):=by omega
  have sx:=hx.set0 hil hpos;have wi1:IntKind.i64.wrap ((i:Int)+1)=((i+1:Nat):Int):=wrapS hil (by omega)
  have hilx1:i+1≤x.length:=hilx;refine zA.gh ?_;refine zL mix Tryz.func302 cf302 rfl ?_;dsimp only [if302,qI,eI,nI,qD,eD,mI0,lI0,LI0,fI0,xI0,bI0,cI0,sI0,C1,C3,mD0,lD0,fD0,xD0,R0,S0];simp only [pwA,seval,-iQ0,hge];refine Zr rfl (by omega) fun cap1 hc1=>?_
  simp only [pwA,seval,-iQ0,hilx,hilx1,zK,zY hilx,wi1];refine zA.frz (s:=σ.next+1) (cs:=pis (x.set i 0)) (by simp only [pwA,seval,-iQ0]) (zN _ _) fun o1=>?_
  have hcok:=hc1.ok;simp only [sbs,sb,hcok,and_self,if_true,hR0.O.sb,hR0.P.sb,hR0.C.sb];refine hFr _ _ (x.set i 0) _ _ _ _ hR0 sx (FI.mk (by simp)) fun v1 y1 hv1 hy1 e1=>?_
  have hkp:Keep σ (((σ.new [.fz w0 a0 O.length (pis O),.fz w1 a1 P.length rP,.fz w3 a3 C.length rC]).new (pis (x.set i 0))).kill (σ.next+1)):=((zC σ _).new _).kill (by omega)
  simp only [pwA,seval,-iQ0,hilx,pisAt hilx];refine iteI (fun h0=>?_) fun h0=>?_
  ·have hr:=hFr
   -- the inverse of the power is not asked for; any will do
   obtain⟨y2,h2a,h2b,_⟩:=F.gp.inv (a:=pvec P i) (by rw [show O.length-d=i+1 by omega];exact hpv)
   rw [show O.length-d=i+1 by omega]at h2a
   have:=(zHQ s (by omega) F F1 hx hy1 h2a e1 h2b).1 h0
   exact Gh.fin0 hkp (hv1.bel _) (hk v1 y1 hv1 (hy1.mono (by omega)) this)
  have hol:i<(zv O).length:=by simp;exact hil
  have hol1:i+1≤O.length:=hil;have hsub:IntKind.i64.wrap (at_ O i-at_ x i)=at_ O i-at_ x i:=wrap64 (by omega) (by omega)
  have hset:=zY hol (x:=at_ O i-at_ x i);have ht:TT O i ((zv O).set i (at_ O i-at_ x i)):=(s.zv i).set hil (Nat.le_refl _) ⟨by omega,by omega⟩
  simp only [pwA,seval,-iQ0,List.length_replicate,qH,mk8 (n:=O.length) (by omega),mkL (n:=O.length) (by omega),hilx,pisAt hilx,hil,hol1,pisAt hil,hsub,zK,hset,wi1,hiP,hpr]
  refine zA.frz (s:=σ.next+2) (cs:=pis ((zv O).set i (at_ O i-at_ x i))) (by simp only [pwA,seval,-iQ0]) (zN _ _) fun o2=>?_
  simp only [sbs,sb,capOK,Nat.le_refl,decide_true,and_self,if_true,hR0.O.sb,hR0.P.sb,hR0.C.sb,hv1.sb];have hy1':TT O i y1:=hy1.mono (by omega)
  refine hAt hR0 hy1' ht hv1 (FI.mk (by simp)) fun v3 hv3=>?_
  simp only [pwA,seval,-iQ0,wi1,hiP,hpr];refine hFr _ _ (pvec P i) _ _ _ _ hR0 hpv (FI.mk hpv.len) fun v2 y2 hv2 hy2 e2=>?_
  have hy2':TT O i y2:=hy2.mono (by omega)
  have h12:=G1.cl hy1' ht;simp only [pwA,seval,-iQ0,wi1,hiP,hpr];refine hAt hR0 h12 hy2' hv3 hv2 fun v4 hv4=>?_
  simp only [pwA,seval,-iQ0]
  have:=(zHQ s (by omega) F F1 hx hy1 hy2 e1 e2).2 h0
  exact Gh.fin0 (((((zC σ _).new _).kill (by omega)).new _).kill (by omega)) (hv4.bel _) (hk v4 _ hv4 (G1.cl h12 hy2') this)
theorem zFy (s:Shp O P C) (hc:Cons O P C) (hR:IsPr vO vP vC O P C) (hx:gS O x) (hvx:FI vx x) (hk:∀v,FI v (ginv (gS O) (gm O P C) (zv O) x)→K v σ):zA Tryz.prog 244 [.agg [vO,vP,vC],vx] σ K:=by
 have h0:=hR.O.one;have h1:=hR.P.one;have h2:=hR.C.one;have G:=(full_of s (Nat.le_refl _) fun j _ h=>hc j h).g
 refine zA.gh ?_;refine zD mix Tryz.func244 ?_
 conv=>arg 2;cbv
 refine zF rfl ?_;simp only [pwA,seval,-iQ0,h0,h1,h2];refine zEq s hc (d:=O.length) (i:=0) (by omega) _ _ x _ _ _ _ hR hx hvx fun v y hv hy e=>?_
 simp only [pwA,seval,-iQ0]
 have:=G.inv_eq hx hy e
 rw [←this]at hk
 exact Gh.fin0 (zC σ _) (hv.bel _) (hk v hv)
end Go.Proofs
namespace Go.Grp
end Go.Grp
namespace Go.Proofs
open Go.Ab Go.Lie Go.Grp
variable {σ:PHeap} {K:PV→PHeap→Prop} {O:List Int} {P:List (List Int)} {C:List (List (List Int))} {vO vP vC vx vy vf va vb:PV} {x y f a b:List Int} {rP rC:List PV} {d j sp:Nat}
theorem zAN (s:Shp O P C) (hR:IsPr vO vP vC O P C) (ha:gS O a) (hb:gS O b) (hva:FI va a) (hvb:FI vb b) (hk:∀v,FI v (gm O P C a b)→K v σ):zA Tryz.prog 130 [.agg [vO,vP,vC],va,vb] σ K:=by
 have h0:=hR.O.one;have h1:=hR.P.one;have h2:=hR.C.one;refine zA.gh ?_;refine zD mix Tryz.func130 ?_
 conv=>arg 2;cbv
 refine zF rfl ?_;simp only [pwA,seval,-iQ0,h0,h1,h2];refine zA2 s (d:=O.length) (i:=0) (by omega) hR ha hb hva hvb fun v hv=>?_
 simp only [pwA,seval,-iQ0];exact Gh.fin0 (zC σ _) (hv.bel _) (hk v hv)
theorem zKW (s:Shp O P C) (hc:Cons O P C) (hR:IsPr vO vP vC O P C) (hx:gS O x) (hy:gS O y) (hvx:FI vx x) (hvy:FI vy y) (hk:∀v,FI v (gcom O P C x y)→K v σ):zA Tryz.prog 184 [.agg [vO,vP,vC],vx,vy] σ K:=by
 have h0:=hR.O.one;have h1:=hR.P.one;have h2:=hR.C.one;have G:=(full_of s (Nat.le_refl _) fun j _ h=>hc j h).g
 have hyx:=G.cl hy hx;have hxy:=G.cl hx hy;have hi:=(G.inv_in hyx).1;refine zA.gh ?_;refine zD mix Tryz.func184 ?_
 conv=>arg 2;cbv
 refine zF rfl ?_;simp only [pwA,seval,-iQ0,h0,h1,h2];refine zAN s hR hy hx hvy hvx fun v1 f1=>?_
 simp only [pwA,seval,-iQ0,h0,h1,h2];refine zFy s hc hR hyx f1 fun v2 f2=>?_
 simp only [pwA,seval,-iQ0,h0,h1,h2];refine zAN s hR hx hy hvx hvy fun v3 f3=>?_
 simp only [pwA,seval,-iQ0,h0,h1,h2];refine zAN s hR hi hxy f2 f3 fun v4 f4=>?_
 simp only [pwA,seval,-iQ0];have e:gm O P C (ginv (gS O) (gm O P C) (zv O) (gm O P C y x)) (gm O P C x y)=gcom O P C x y:=
  G.com_eq hx hy (G.cl hi hxy) (by rw [←G.as hyx hi hxy,G.inv_r hyx,G.l1 hxy])
 rw [e]at f4
 exact Gh.fin0 (zC σ _) (f4.bel _) (hk v4 f4)
end Go.Proofs
