/- The lower central series: plain law; lists compared. -/
import Derived.Test.YtjlpbpfaihhamaaGreatBP29
open Int renaming reduceNatCast'→iQ0
set_option maxRecDepth 100000
namespace Go.Grp
end Go.Grp
set_option linter.unusedSimpArgs false
set_option linter.unusedVariables false
namespace Go.Proofs
open Go.Ab Go.Lie Go.Grp
variable {σ:PHeap} {K:PV→PHeap→Prop} {O:List Int} {P:List (List Int)} {C:List (List (List Int))} {vO vP vC vx vf va vb:PV} {x y f a b:List Int} {rP rC:List PV} {d j sp:Nat}
theorem zFG {v:PV} {sp:Nat} (hf:f=[]) (hvf:FI vf f) (hk:K (.tup []) σ):zA Tryz.prog 177 [.ptr sp 0,v,vf] σ K:=by
 obtain⟨wf,af,rfl⟩:=hvf;subst hf;refine zB mix Tryz.func177 ?_;simp only [pwA,seval,-iQ0];refine zD (fun m vs h'=>m=0∧vs=[.ptr sp 0,v,.fz wf af ([]:List Int).length (pis []),.int .i64 (([]:List Int).length:Nat),.int .i64 (0:Nat)]∧σ=h') 0 ⟨rfl,rfl,rfl⟩ ?_
 rintro m vs h' ⟨rfl,rfl,rfl⟩
 simp only [pwA,seval,-iQ0];exact hk
theorem zEO (s:Shp O P C) (F:Full O P C d) (hs:PtrG σ sp vO vP vC) (hR:IsPr vO vP vC O P C) (ha:TT O (O.length-d) a) (hb:TT O (O.length-d) b) (hva:FI va a) (hvb:FI vb b) (hk:ResI σ K (mu O P C d a b)):
  zA Tryz.prog 191 [.ptr sp 0,va,vb] σ K:=by
 have hn6:=s.le;have hal:=ha.len;have hml:=(F.gp.cl ha hb).len;have hne:sp≠σ.next:=Nat.ne_of_lt hs.lt;obtain⟨wa,aa,rfl⟩:=hva;refine zA.gh ?_;refine zB mix Tryz.func191 ?_;simp only [pwA,seval,-iQ0];refine Qy rfl (by omega) ⟨fun h0=>?_,fun cap hc=>?_⟩
 ·have hb0:b=[]:=List.eq_nil_of_length_eq_zero (by rw [hb.len,←hal,h0];rfl)
  simp only [pwA,seval,-iQ0];refine zFG hb0 hvb ?_;simp only [pwA,seval,-iQ0];exact Gh.fin0 (Keep.refl σ) trivial (hk.1 (List.eq_nil_of_length_eq_zero (by show(mu O P C d a b).length=0;rw [hml,←hal,h0];rfl)))
 ·rw [hal]at hc
  rw [hal];simp only [pwA,seval,-iQ0];refine Z8 s F (hs.new _) hR (x:=a) (by simp only [pwA,seval,-iQ0]) (by simp only [pwA,seval,-iQ0]) hne hc ha hb hvb ?_
  simp only [pwA,seval,-iQ0];rw [show O.length=(mu O P C d a b).length from hml.symm]at hc ⊢
  exact Gh.finS (zC σ _) (by simp only [pwA,seval,-iQ0]) (Nat.le_refl _) (zo _ _) (hk.2 cap hc)
theorem Ql (s:Shp O P C) (F:Full O P C d) (hs:PtrG σ sp vO vP vC) (hR:IsPr vO vP vC O P C) (ha:TT O (O.length-d) a) (hb:TT O (O.length-d) b) (hva:FI va a) (hvb:FI vb b) (hk:∀v,FI v (mu O P C d a b)→K v σ):
  zA Tryz.prog 191 [.ptr sp 0,va,vb] σ K:=zA.fzI (fun K'=>zEO s F hs hR ha hb hva hvb) fun a=>hk _ ⟨_,_,rfl⟩
theorem zHq (s:Shp O P C) (F:Full O P C d) (hs:PtrG σ sp vO vP vC) (hR:IsPr vO vP vC O P C) (ha:TT O (O.length-d) a) (hva:FI va a) {k:Int} (hk0:0≤k∧k≤1000000) (hk:ResI σ K (pw (mu O P C d) (zv O) a k.toNat)):
  zA Tryz.prog 195 [.ptr sp 0,va,.int .i64 k] σ K:=by
 have hn6:=s.le;have hal:=ha.len;have M:=F.gp.toMon;have hne:sp≠σ.next:=Nat.ne_of_lt hs.lt;have hva0:=hva;obtain⟨wa,aa,rfl⟩:=hva;rw [hal]at hva0 ⊢
 refine zA.gh ?_;refine zB mix Tryz.func195 ?_;simp only [pwA,seval,-iQ0,List.length_replicate,ZJ,mk8 (n:=O.length) (by omega),mkL (n:=O.length) (by omega)]
 refine zD (fun m vs h'=>∃q:Nat,q≤k.toNat∧m=k.toNat-q∧vs=[.ptr sp 0,.fz wa aa O.length (pis a),.sl σ.next 0 O.length (.known O.length),.int .i64 k,.int .i64 q]∧h'=σ.new (pis (pw (mu O P C d) (zv O) a q))) k.toNat ?_ ?_
 ·exact⟨0,by omega,by omega,rfl,rfl⟩
 rintro m vs h' ⟨q,hq,rfl,rfl,rfl⟩
 simp only [pwA,seval,-iQ0];refine iteI (fun hlt=>?_) fun hge=>?_
 ·have hlt3:q<k.toNat:=by omega
  have hp:=M.pw ha q;refine Z8 s F (hs.new _) hR (x:=pw (mu O P C d) (zv O) a q) (by simp only [pwA,seval,-iQ0]) (by simp only [pwA,seval,-iQ0]) hne (.inr rfl) hp ha hva0 ?_
  simp only [pwA,seval,-iQ0,wrapS hlt3 (by omega:k.toNat≤4611686018427387904)]
  exact⟨_,by omega,q+1,by omega,rfl,rfl,rfl⟩
 ·have hqe:q=k.toNat:=by omega
  subst hqe;have hml:=(M.pw ha k.toNat).len;have hc:full 1 (.known O.length) (pw (mu O P C d) (zv O) a k.toNat).length:=.inr (by rw [hml])
  refine Gh.finS (zC σ _) (by simp only [pwA,seval,-iQ0];rfl) (Nat.le_refl _) (zo _ _) ?_
  have:=hk.2 _ hc
  rwa [hml]at this
theorem zEl (s:Shp O P C) (F:Full O P C d) (hs:PtrG σ sp vO vP vC) (hR:IsPr vO vP vC O P C) (ha:TT O (O.length-d) a) (hva:FI va a) {k:Int} (hk0:0≤k∧k≤1000000) (hk:∀v,FI v (pw (mu O P C d) (zv O) a k.toNat)→K v σ):
  zA Tryz.prog 195 [.ptr sp 0,va,.int .i64 k] σ K:=zA.fzI (fun K'=>zHq s F hs hR ha hva hk0) fun a=>hk _ ⟨_,_,rfl⟩
theorem mu_step (s:Shp O P C) {i:Nat} (hd:O.length-d≤i) (hle:d≤O.length) (hi:i<O.length) (hx:TT O i x):TT O i (mu O P C d x (Grp.unit O i))∧at_ (mu O P C d x (Grp.unit O i)) i=if at_ x i+1=at_ O i then 0 else at_ x i+1:=by
 have hu:TT O i (Grp.unit O i):=s.unit hi (Nat.le_refl _);obtain⟨e,he⟩:∃e,O.length-i=e+1:=⟨O.length-i-1,by omega⟩
 have hie:O.length-(e+1)=i:=by omega
 have e1:mu O P C d x (Grp.unit O i)=mu O P C (e+1) x (Grp.unit O i):=by
  have:=zMh s (d:=e+1) (k:=d-(e+1)) (u:=x) (v:=Grp.unit O i) (by omega) (by rw [hie];exact hx) (by rw [hie];exact hu)
  rwa [show e+1+(d-(e+1))=d by omega]at this
 have h1:=mu_tt s (d:=e+1) (a:=x) (b:=Grp.unit O i) (by omega) (by rw [hie];exact hx) (by rw [hie];exact hu)
 rw [hie]at h1
 rw [e1];refine⟨h1,?_⟩;have bx:=hx.bd i hi;have bO:=s.pr i hi;have hat:at_ (Grp.unit O i) i=1:=by rw [at_set (by simp;exact hi),if_pos rfl]
 have hpos:=s.pos hi;have hm:∀a b,TT O (i+1) a→TT O (i+1) b→TT O (i+1) (mu O P C e a b):=fun a b ha hb=>by
  have:=mu_tt s (d:=e) (a:=a) (b:=b) (by omega) (by rwa [show O.length-e=i+1 by omega]) (by rwa [show O.length-e=i+1 by omega])
  rwa [show O.length-e=i+1 by omega]at this
 have ir:=hm _ _ (zB7 (fun x _=>zAH s hm x) (nx (Grp.unit O i) i) (hx.set0 hi hpos)) (hu.set0 hi hpos)
 simp only [mu,hie];rw [hat]
 split
 ·have ir2:=hm _ _ (s.pw i hi) ir
  rw [at_set (by rw [ir2.len];exact hi),if_pos rfl]
  split<;>omega
 ·rw [at_set (by rw [ir.len];exact hi),if_pos rfl,if_neg (by omega)]
end Go.Proofs
namespace Go.Grp
end Go.Grp
namespace Go.Proofs
open Go.Ab Go.Lie Go.Grp
variable {σ:PHeap} {K:PV→PHeap→Prop} {O:List Int} {P:List (List Int)} {C:List (List (List Int))} {vO vP vC vx vf va vb:PV} {x y f a b:List Int} {rP rC:List PV} {d j sp:Nat}
theorem zM1 (s:Shp O P C) (F:Full O P C d) (hs:PtrG σ sp vO vP vC) (hR:IsPr vO vP vC O P C) (ha:TT O (O.length-d) a) (hva:FI va a) (hk:∀z,TT O (O.length-d) z→mu O P C d a z=zv O→ResI σ K z):
  zA Tryz.prog 176 [.ptr sp 0,va] σ K:=by
 have hn6:=s.le;have hle:=F.le;have hal:=ha.len;have M:=F.gp.toMon;have hne:sp≠σ.next:=Nat.ne_of_lt hs.lt;have hne2:sp≠σ.next+1:=by have:=hs.lt;omega
 obtain⟨wa,aa,rfl⟩:=hva;refine zA.gh ?_;refine zB mix Tryz.func176 ?_;simp only [pwA,seval,-iQ0];refine Qy rfl (by omega) ⟨fun h0=>?_,fun cap hc=>?_⟩
 ·have hO0:O=[]:=List.eq_nil_of_length_eq_zero (by rw [←hal,h0];rfl)
  subst hO0;subst h0;simp only [pwA,seval,-iQ0,mk8 (n:=0) (by omega),mkL (n:=0) (by omega)]
  refine zD (fun m vs h'=>m=0∧vs=[.ptr sp 0,.fz true .nils 0 [],.sl σ.next 0 0 (.known 0),.int .i64 (0:Nat),.int .i64 (0:Nat)]∧h'=σ.new []) 0 ⟨rfl,rfl,rfl⟩ ?_
  rintro m vs h' ⟨rfl,rfl,rfl⟩
  simp only [pwA,seval,-iQ0];have hd0:d=0:=by simpa using hle
  exact Gh.finS (cs:=pis []) (zC σ _) (by simp only [pwA,seval,-iQ0];rfl) (Nat.le_refl _) (zo _ _) ((hk [] (s.zv _) (by subst hd0;rfl)).2 _ (.inr rfl))
 rw [hal]at hc
 rw [hal];simp only [pwA,seval,-iQ0,List.length_replicate,ZJ,mk8 (n:=O.length) (by omega),mkL (n:=O.length) (by omega)]
 refine zD (fun m vs h'=>∃(i:Nat) (r z:List Int),i≤O.length∧m=O.length-i∧vs=[.ptr sp 0,.sl σ.next 0 O.length cap,.sl (σ.next+1) 0 O.length (.known O.length),.int .i64 O.length,.int .i64 i]∧h'=(σ.new (pis r)).new (pis z)∧TT O (O.length-d) r∧TT O i r∧TT O (O.length-d) z∧mu O P C d a z=r) O.length ?_ ?_
 ·exact⟨0,a,zv O,by omega,by omega,rfl,rfl,ha,ha.mono (Nat.zero_le _),s.zv _,M.r1 ha⟩
 rintro m vs h' ⟨i,r,z,hi,rfl,rfl,rfl,hr,hri,hz,hinv⟩
 simp only [pwA,seval,-iQ0];refine iteI (fun hlt=>?_) fun hge=>?_
 rotate_left
 ·have hie:i=O.length:=by omega
  subst hie;have hr0:r=zv O:=hri.ext (s.zv _) fun j h1 h2=>by omega
  rw [hr0]at hinv
  have hzl:=hz.len
  have:=(hk z hz hinv).2 (.known O.length) (.inr (by rw [hzl]))
  rw [hzl]at this
  exact Gh.finS (s:=σ.next+1) ((zC σ _).new _) (by simp only [pwA,seval,-iQ0]) (by omega) (zo _ _) this
 simp only [pwA,seval,-iQ0];have bO:=s.pr i hlt;refine zD (fun m vs h'=>∃(r z:List Int),m=((at_ O i-at_ r i) % at_ O i).toNat∧vs=[.ptr sp 0,.sl σ.next 0 O.length cap,.sl (σ.next+1) 0 O.length (.known O.length),.int .i64 i,.int .i64 O.length,.int .i64 i]∧h'=(σ.new (pis r)).new (pis z)∧TT O (O.length-d) r∧TT O i r∧TT O (O.length-d) z∧mu O P C d a z=r) _ ⟨r,z,rfl,rfl,rfl,hr,hri,hz,hinv⟩ ?_
 rintro m vs h' ⟨r,z,rfl,rfl,rfl,hr,hri,hz,hinv⟩
 have hrl:i<r.length:=by rw [hr.len];exact hlt
 have br:=hr.bd i hlt;simp only [pwA,seval,-iQ0,hlt,pisAt hrl];refine iteI (fun heq=>?_) fun hneq=>?_
 ·simp only [pwA,seval,-iQ0,wrapS hlt (by omega:O.length≤4611686018427387904)]
  refine⟨_,by omega,i+1,r,z,by omega,rfl,rfl,rfl,hr,?_,hz,hinv⟩
  refine⟨hri.len,hri.bd,fun t ht=>?_⟩
  by_cases e:t=i
  ·subst e;exact heq
  ·exact hri.zero t (by omega)
 ·have hdi:O.length-d≤i:=by
   rcases Nat.lt_or_ge i (O.length-d)with h|h
   ·exact absurd (hr.zero i h) hneq
   ·exact h
  have hu:TT O (O.length-d) (Grp.unit O i):=s.unit hlt hdi;obtain⟨m1,m2⟩:=mu_step s hdi hle hlt hri;refine Z6 s F O.length hdi hlt (by omega) _ _ sp σ.next cap r vO vP vC ((hs.new _).new _) hR (by simp only [pwA,seval,-iQ0]) (by simp only [pwA,seval,-iQ0];omega) hne hc hr ?_
  simp only [pwA,seval,-iQ0];refine Z6 s F O.length hdi hlt (by omega) _ _ sp (σ.next+1) (.known O.length) z vO vP vC ((hs.new _).new _) hR (by simp only [pwA,seval,-iQ0]) (by simp only [pwA,seval,-iQ0]) hne2 (.inr rfl) hz ?_
  simp only [pwA,seval,-iQ0];refine⟨_,?_,_,_,rfl,rfl,M.cl hr hu,m1,M.cl hz hu,by rw [←M.as ha hz hu,hinv]⟩
  rw [m2]
  split
  ·rename_i e
   rw [Int.sub_zero,Int.emod_self]
   have:(at_ O i-at_ r i) % at_ O i=at_ O i-at_ r i:=Int.emod_eq_of_lt (by omega) (by omega)
   omega
  ·rename_i e
   have h1:(at_ O i-at_ r i) % at_ O i=at_ O i-at_ r i:=Int.emod_eq_of_lt (by omega) (by omega)
   have h2:(at_ O i-(at_ r i+1)) % at_ O i=at_ O i-(at_ r i+1):=Int.emod_eq_of_lt (by omega) (by omega)
   omega
theorem zGk (s:Shp O P C) (F:Full O P C d) (hs:PtrG σ sp vO vP vC) (hR:IsPr vO vP vC O P C) (ha:TT O (O.length-d) a) (hva:FI va a) (hk:∀v z,TT O (O.length-d) z→mu O P C d a z=zv O→FI v z→K v σ):
  zA Tryz.prog 176 [.ptr sp 0,va] σ K:=
 zA.gh (zM1 s F hs hR ha hva fun z h1 h2=>⟨fun h0=>Gh.fin0 (Keep.refl σ) trivial (hk _ z h1 h2 ⟨true,.nils,by rw [h0];rfl⟩),fun cap hc=>Gh.finF (zC σ _) (by simp only [pwA,seval,-iQ0]) (Nat.le_refl _) (zo _ _) hc.ok fun o=>hk _ z h1 h2 ⟨true,.sl o 0 z.length cap,rfl⟩⟩)
theorem zIi (s:Shp O P C) (F:Full O P C d) (hs:PtrG σ sp vO vP vC) (hR:IsPr vO vP vC O P C) (ha:TT O (O.length-d) a) (hb:TT O (O.length-d) b) (hva:FI va a) (hvb:FI vb b) (hk:∀z,TT O (O.length-d) z→mu O P C d b z=mu O P C d a b→ResI σ K z):
  zA Tryz.prog 183 [.ptr sp 0,va,vb] σ K:=by
 have M:=F.gp.toMon;refine zA.gh ?_;refine zB mix Tryz.func183 ?_;simp only [pwA,seval,-iQ0];refine zGk s F hs hR hb hvb fun v1 z1 h1 h2 f1=>?_
 simp only [pwA,seval,-iQ0];refine Ql s F hs hR ha hb hva hvb fun v2 f2=>?_
 simp only [pwA,seval,-iQ0];have hab:=M.cl ha hb;have hz:=M.cl h1 hab;have hr:=hk _ hz (by rw [←M.as hb h1 hab,h2,M.l1 hab])
 refine zEO s F hs hR h1 hab f1 f2 ⟨fun h0=>?_,fun cap hc=>?_⟩
 ·simp only [pwA,seval,-iQ0]
  exact Gh.ret (hr.1 h0)
 ·simp only [pwA,seval,-iQ0]
  exact Gh.ret (hr.2 cap hc)
theorem zAM (s:Shp O P C) (F:Full O P C d) (hs:PtrG σ sp vO vP vC) (hR:IsPr vO vP vC O P C) (ha:TT O (O.length-d) a) (hb:TT O (O.length-d) b) (hva:FI va a) (hvb:FI vb b) (hk:∀v z,TT O (O.length-d) z→mu O P C d b z=mu O P C d a b→FI v z→K v σ):
  zA Tryz.prog 183 [.ptr sp 0,va,vb] σ K:=
 zA.gh (zIi s F hs hR ha hb hva hvb fun z h1 h2=>⟨fun h0=>Gh.fin0 (Keep.refl σ) trivial (hk _ z h1 h2 ⟨true,.nils,by rw [h0];rfl⟩),fun cap hc=>Gh.finF (zC σ _) (by simp only [pwA,seval,-iQ0]) (Nat.le_refl _) (zo _ _) hc.ok fun o=>hk _ z h1 h2 ⟨true,.sl o 0 z.length cap,rfl⟩⟩)
theorem zA0 (s:Shp O P C) (F:Full O P C d) {i:Nat} (hi:O.length=d+(i+1)) (hs:PtrG σ sp vO vP vC) (hR:IsPr vO vP vC O P C) (hx:TT O 0 x) (hvx:FI vx x) (hk:∀v,FI v (Grp.img O C (mu O P C d) i x)→K v σ):
  zA Tryz.prog 215 [.ptr sp 0,.int .i64 i,vx] σ K:=by
 have hn6:=s.le;have hxl:=hx.len;have hil:i<O.length:=by omega
 have M:=F.gp.toMon;have hne:sp≠σ.next:=Nat.ne_of_lt hs.lt;have hR0:=hR;have hs0:=hs;have edi:O.length-d=i+1:=by omega
 obtain⟨⟨w0,a0,rfl⟩,⟨w1,a1,rP,rfl,hP⟩,⟨w3,a3,rC,rfl,hC⟩⟩:=hR;obtain⟨w5,a5,rs,hrb,hrs⟩:=cvRow s hC hil;have hiC:i<C.length:=by rw [s.cl];exact hil
 have e2:σ.rd1 sp 2=some (.fz w3 a3 C.length rC):=by rw [zF hs.obj];rfl
 have wi1:IntKind.i64.wrap ((i:Int)+1)=((i+1:Nat):Int):=wrapS hil (by omega)
 obtain⟨wx,ax,rfl⟩:=hvx;rw [hxl];have hlr:O.length-1-i=d:=by omega
 rw [hlr]at hrb hrs
 refine zA.gh ?_;refine zB mix Tryz.func215 ?_;simp only [pwA,seval,-iQ0,List.length_replicate,ZJ,mk8 (n:=O.length) (by omega),mkL (n:=O.length) (by omega),e2,hne,hiC,hrb]
 refine zD (fun m vs h'=>∃(k:Nat) (y:List Int),k≤d∧m=d-k∧vs=[.ptr sp 0,.int .i64 i,.fz wx ax O.length (pis x),.sl σ.next 0 O.length (.known O.length),.fz w5 a5 d rs,.int .i64 d,.int .i64 k]∧h'=σ.new (pis y)∧TT O (i+1) y∧fo (mu O P C d) (cvec C i) (nx x) (i+(1+k)) (d-k) y=Grp.img O C (mu O P C d) i x) d ?_ ?_
 ·exact⟨0,zv O,by omega,by omega,rfl,rfl,s.zv _,by rw [Grp.img,hlr];rfl⟩
 rintro m vs h' ⟨k,y,hkd,rfl,rfl,rfl,hy,hfo⟩
 simp only [pwA,seval,-iQ0];refine iteI (fun hlt=>?_) fun hge=>?_
 rotate_left
 ·have hke:d-k=0:=by omega
  rw [hke]at hfo
  rw [←hfo]at hk
  exact Gh.finF (zC σ _) (by simp only [pwA,seval,-iQ0];rfl) (Nat.le_refl _) (zo _ _) (by simp [capOK]) fun o=>hk _ (FI.mk hy.len)
 have hjl:i+(1+k)<O.length:=by omega
 have hjx:i+(1+k)<x.length:=by omega
 have bk:=hx.bd (i+(1+k)) hjl;have bOk:=s.pr _ hjl;have hnx:((nx x (i+(1+k)):Nat):Int)=at_ x (i+(1+k)):=Int.toNat_of_nonneg bk.1;obtain⟨w7,a7,hrk⟩:=hrs k hlt;have hcv:=s.cj i (i+(1+k)) (by omega) hjl
 have e3:IntKind.i64.wrap (((i+1:Nat):Int)+(k:Int))=((i+(1+k):Nat):Int):=by rw [wrap64 (by omega) (by omega)];omega
 rw [show d-k=(d-k-1)+1 by omega]at hfo
 simp only [pwA,seval,-iQ0,hlt,hrk,wi1,e3,hjl,pisAt hjx];refine zD (fun m vs h'=>∃(q:Nat) (y:List Int),q≤nx x (i+(1+k))∧m=nx x (i+(1+k))-q∧vs=[.ptr sp 0,.int .i64 i,.fz wx ax O.length (pis x),.sl σ.next 0 O.length (.known O.length),.fz w7 a7 O.length (pis (cvec C i (i+(1+k)))),.fz w5 a5 d rs,.int .i64 d,.int .i64 k,.int .i64 (at_ x (i+(1+k))),.int .i64 q]∧h'=σ.new (pis y)∧TT O (i+1) y∧fo (mu O P C d) (cvec C i) (nx x) (i+(1+k)+1) (d-k-1) (rep (mu O P C d) (cvec C i (i+(1+k))) (nx x (i+(1+k))-q) y)=Grp.img O C (mu O P C d) i x) (nx x (i+(1+k))) ?_ ?_
 ·exact⟨0,y,by omega,by omega,rfl,rfl,hy,hfo⟩
 rintro m vs h' ⟨q,y,hqn,rfl,rfl,rfl,hy,hfo⟩
 simp only [pwA,seval,-iQ0];refine iteI (fun hlt2=>?_) fun hge2=>?_
 ·have hlt3:q<nx x (i+(1+k)):=by omega
  refine Z8 s F (hs0.new _) hR0 (x:=y) (by simp only [pwA,seval,-iQ0]) (by simp only [pwA,seval,-iQ0]) hne (.inr rfl) (by rw [edi];exact hy) (by rw [edi];exact hcv) (FI.mk hcv.len) ?_
  simp only [pwA,seval,-iQ0,wrapS hlt3 (by omega:nx x (i+(1+k))≤4611686018427387904)]
  have hmy:=M.cl (a:=y) (b:=cvec C i (i+(1+k))) (by rw [edi];exact hy) (by rw [edi];exact hcv)
  rw [edi]at hmy
  refine⟨_,by omega,q+1,_,by omega,rfl,rfl,rfl,hmy,?_⟩
  rw [show nx x (i+(1+k))-q=(nx x (i+(1+k))-(q+1))+1 by omega]at hfo
  exact hfo
 ·have hqe:q=nx x (i+(1+k)):=by omega
  subst hqe;rw [Nat.sub_self]at hfo
  simp only [pwA,seval,-iQ0,wrapS hlt (by omega:d≤4611686018427387904)]
  refine⟨_,by omega,k+1,y,by omega,rfl,rfl,rfl,hy,?_⟩
  rw [show d-(k+1)=d-k-1 by omega]
  exact hfo
end Go.Proofs
namespace Go.Grp
end Go.Grp
namespace Go.Proofs
open Go.Ab Go.Lie Go.Grp
variable {σ:PHeap} {K:PV→PHeap→Prop} {O:List Int} {P:List (List Int)} {C:List (List (List Int))} {vO vP vC vx:PV} {s:Nat} {x:List Int} {rP rC:List PV}
theorem zJe (s:Shp O P C) {d i:Nat} (hi:O.length=d+(i+1)) (B:Beh O P C d) (hR:IsPr vO vP vC O P C)
  (hk:∀f0 f1 f2 f3:Int,(f0=0↔Lv O P C i)→K (.agg [.int .i64 f0,.int .i64 f1,.int .i64 f2,.int .i64 f3]) σ):zA Tryz.prog 204 [.agg [vO,vP,vC],.int .i64 i] σ K:=by
 have hn6:=s.le;have hR0:=hR;have hil:i<O.length:=by omega
 have hAt:AtOK O P C d (i+1):=zAW s (by omega)
 have M:=B.gp.toMon;rw [show O.length-d=i+1 by omega]at M
 have ed:O.length-1-i=d:=by omega
 have yes:((∀q,q<d→pw (mu O P C d) (zv O) (cvec C i (i+(1+q))) (nx O (i+(1+q)))=Grp.img O C (mu O P C d) i (pvec P (i+(1+q))))→
   (∀q r,q+(1+r)<d→mu O P C d (cvec C i (i+(1+(q+(1+r))))) (cvec C i (i+(1+q)))=mu O P C d (cvec C i (i+(1+q))) (Grp.img O C (mu O P C d) i (cvec C (i+(1+q)) (i+(1+(q+(1+r)))))))→
   Grp.img O C (mu O P C d) i (pvec P i)=pvec P i→
   (∀q,q<d→mu O P C d (pvec P i) (iter (Grp.img O C (mu O P C d) i) (nx O i) (unitL O.length (i+(1+q))))=mu O P C d (unitL O.length (i+(1+q))) (pvec P i))→Lv O P C i):=fun h1 h2 h3 h4=>by
  refine⟨fun j g1 g2=>?_,fun j k g1 g2 g3=>?_,?_,fun j g1 g2=>?_⟩
  ·have:=h1 (j-i-1) (by omega);rw [show i+(1+(j-i-1))=j by omega]at this;rw [ed];exact this
  ·have:=h2 (j-i-1) (k-j-1) (by omega);rw [show i+(1+(j-i-1))=j by omega,show i+(1+(j-i-1+(1+(k-j-1))))=k by omega]at this;rw [ed];exact this
  ·rw [ed];exact h3
  ·have:=h4 (j-i-1) (by omega);rw [show i+(1+(j-i-1))=j by omega]at this;rw [ed];exact this
 obtain⟨⟨w0,a0,rfl⟩,⟨w1,a1,rP,rfl,hP⟩,⟨w3,a3,rC,rfl,hC⟩⟩:=hR;obtain⟨w5,a5,rs,hrb,hrs⟩:=cvRow s hC hil;have hiC:i<C.length:=by rw [s.cl];exact hil
 have hiP:i<P.length:=by rw [s.pl];exact hil
 refine zA.gh ?_;have fin:∀{f0 f1 f2 f3:Int} {σ':PHeap},(f0=0↔Lv O P C i)→Keep σ σ'→Gh σ K (.agg [.int .i64 f0,.int .i64 f1,.int .i64 f2,.int .i64 f3]) σ':=fun h k=>Gh.fin0 k ⟨trivial,trivial,trivial,trivial,trivial⟩ (hk _ _ _ _ h)
 have no:∀{f0:Int},f0≠0→¬Lv O P C i→(f0=0↔Lv O P C i):=fun h g=>⟨fun x=>absurd x h,fun x=>absurd x g⟩
 refine QA mix Tryz.func204 ?_;simp only [pwA,seval,-iQ0];have hkp:∀cs:List PV,Keep σ ((σ.new [.fz w0 a0 O.length (pis O),.fz w1 a1 P.length rP,.fz w3 a3 C.length rC]).new cs):=fun cs=>(zC σ _).new _
 have wi1:IntKind.i64.wrap ((i:Int)+1)=((i+1:Nat):Int):=wrapS hil (by omega)
 -- first condition
 simp only [pwA,seval,-iQ0,wi1];refine zD (fun m vs h'=>∃q:Nat,q≤d∧m=d-q∧vs=[.int .i64 i,.ptr σ.next 0,.ptr (σ.next+1) 0,.int .i64 O.length,.int .i64 i,.int .i64 ((i+(1+q):Nat):Int)]∧
  h'=(σ.new [.fz w0 a0 O.length (pis O),.fz w1 a1 P.length rP,.fz w3 a3 C.length rC]).new [.int .i64 0,.int .i64 0,.int .i64 0,.int .i64 0]∧∀q',q'<q→pw (mu O P C d) (zv O) (cvec C i (i+(1+q'))) (nx O (i+(1+q')))=Grp.img O C (mu O P C d) i (pvec P (i+(1+q')))) d ?_ ?_
 ·exact⟨0,by omega,by omega,rfl,rfl,fun q h=>by omega⟩
 rintro m vs h' ⟨q,hq,rfl,rfl,rfl,hall⟩
 simp only [pwA,seval,-iQ0];refine iteI (fun hlt=>?_) fun hge=>?_
 ·have hjO:i+(1+q)<O.length:=by omega
  have hjP:i+(1+q)<P.length:=by rw [s.pl];exact hjO
  obtain⟨w6,a6,hrk⟩:=hrs q (by omega)
  obtain⟨w7,a7,hpr⟩:=pvRow s hP hjO;have hjr:q<O.length-1-i:=by omega
  have hcv:=s.cj i (i+(1+q)) (by omega) (by omega)
  have hpv:=s.pw (i+(1+q)) hjO;have hO:=s.pr _ hjO;have e3:IntKind.i64.wrap (((i+(1+q):Nat):Int)-(i:Int))=((1+q:Nat):Int):=by rw [wrap64 (by omega) (by omega)];omega
  have e4:IntKind.i64.wrap (((1+q:Nat):Int)-1)=(q:Int):=by rw [wrap64 (by omega) (by omega)];omega
  have e5:IntKind.i64.wrap (((i+(1+q):Nat):Int)+1)=((i+(1+(q+1)):Nat):Int):=by rw [wrap64 (by omega) (by omega)];omega
  simp only [pwA,seval,-iQ0,wi1,hiC,hrb,e3,e4,hjr,hrk,hjO,pisAt hjO];refine zBR s (by omega) hAt M hR0 hcv (FI.mk hcv.len) (by omega) fun v hv=>?_
  simp only [pwA,seval,-iQ0,wi1,hiC,hrb,e3,e4,hjr,hrk,hjO,pisAt hjO,hjP,hpr];refine Qp s (by omega) hAt hR0 (hpv.mono (Nat.zero_le _)) (FI.mk hpv.len) fun v2 hv2=>?_
  obtain⟨w8,a8,rfl⟩:=hv;obtain⟨w9,a9,rfl⟩:=hv2;simp only [pwA,seval,-iQ0,hjP,hpr];refine zAF rfl rfl (by have:=(M.pw hcv (at_ O (i+(1+q))).toNat).len;omega) ?_
  by_cases he:pw (mu O P C d) (zv O) (cvec C i (i+(1+q))) (nx O (i+(1+q)))=Grp.img O C (mu O P C d) i (pvec P (i+(1+q)))
  ·simp only [pwA,seval,-iQ0,eq_true he,e5]
   refine⟨_,by omega,q+1,by omega,rfl,rfl,fun q' h=>?_⟩
   by_cases e:q'=q
   ·subst e;exact he
   ·exact hall q' (by omega)
  ·simp only [pwA,seval,-iQ0,he]
   exact fin (no (by decide) fun L=>he (by have:=L.pow (i+(1+q)) (by omega) hjO;rwa [ed]at this)) (hkp _)
 have hqd:q=d:=by omega
 subst hqd
 -- second condition
 simp only [pwA,seval,-iQ0,wi1];refine zD (fun m vs h'=>∃q':Nat,q'≤q∧m=q-q'∧vs=[.int .i64 i,.ptr σ.next 0,.ptr (σ.next+1) 0,.int .i64 O.length,.int .i64 i,.int .i64 ((i+(1+q'):Nat):Int)]∧
  h'=(σ.new [.fz w0 a0 O.length (pis O),.fz w1 a1 P.length rP,.fz w3 a3 C.length rC]).new [.int .i64 0,.int .i64 0,.int .i64 0,.int .i64 0]∧
  ∀t r,t<q'→t+(1+r)<q→mu O P C q (cvec C i (i+(1+(t+(1+r))))) (cvec C i (i+(1+t)))=mu O P C q (cvec C i (i+(1+t))) (Grp.img O C (mu O P C q) i (cvec C (i+(1+t)) (i+(1+(t+(1+r))))))) q ?_ ?_
 ·exact⟨0,by omega,by omega,rfl,rfl,fun t r h=>by omega⟩
 rintro m vs h' ⟨t,ht,rfl,rfl,rfl,hall2⟩
 simp only [pwA,seval,-iQ0];refine iteI (fun hlt=>?_) fun hge=>?_
 ·have hjO:i+(1+t)<O.length:=by omega
  have hjC:i+(1+t)<C.length:=by rw [s.cl];exact hjO
  obtain⟨w6,a6,hrk⟩:=hrs t (by omega)
  obtain⟨w7,a7,rs2,hrb2,hrs2⟩:=cvRow s hC hjO;have hjr:t<O.length-1-i:=by omega
  have hcv:=s.cj i (i+(1+t)) (by omega) (by omega)
  have e3:IntKind.i64.wrap (((i+(1+t):Nat):Int)-(i:Int))=((1+t:Nat):Int):=by rw [wrap64 (by omega) (by omega)];omega
  have e4:IntKind.i64.wrap (((1+t:Nat):Int)-1)=(t:Int):=by rw [wrap64 (by omega) (by omega)];omega
  have e5:IntKind.i64.wrap (((i+(1+t):Nat):Int)+1)=((i+(1+(t+1)):Nat):Int):=by rw [wrap64 (by omega) (by omega)];omega
  simp only [pwA,seval,-iQ0,e5];refine zD (fun m vs h'=>∃r:Nat,t+(1+r)≤q∧m=q-(t+(1+r))∧vs=[.int .i64 i,.ptr σ.next 0,.ptr (σ.next+1) 0,.int .i64 O.length,.int .i64 i,.int .i64 ((i+(1+t):Nat):Int),.int .i64 ((i+(1+(t+(1+r))):Nat):Int)]∧
   h'=(σ.new [.fz w0 a0 O.length (pis O),.fz w1 a1 P.length rP,.fz w3 a3 C.length rC]).new [.int .i64 0,.int .i64 0,.int .i64 0,.int .i64 0]∧
   ∀r',r'<r→t+(1+r')<q→mu O P C q (cvec C i (i+(1+(t+(1+r'))))) (cvec C i (i+(1+t)))=mu O P C q (cvec C i (i+(1+t))) (Grp.img O C (mu O P C q) i (cvec C (i+(1+t)) (i+(1+(t+(1+r'))))))) (q-(t+1)) ?_ ?_
  ·exact⟨0,by omega,by omega,rfl,rfl,fun r' h=>by omega⟩
  rintro m vs h' ⟨r,hr,rfl,rfl,rfl,hall3⟩
  simp only [pwA,seval,-iQ0];refine iteI (fun hlt2=>?_) fun hge2=>?_
  ·have hkO:i+(1+(t+(1+r)))<O.length:=by omega
   obtain⟨w8,a8,hrk2⟩:=hrs (t+(1+r)) (by omega)
   obtain⟨w9,a9,hrk3⟩:=hrs2 r (by omega)
   rw [show i+(1+t)+(1+r)=i+(1+(t+(1+r))) by omega]at hrk3
   have hcv2:=s.cj i (i+(1+(t+(1+r)))) (by omega) hkO
   have hcv3:=s.cj (i+(1+t)) (i+(1+(t+(1+r)))) (by omega) hkO
   have hkr:t+(1+r)<O.length-1-i:=by omega
   have hkr2:r<O.length-1-(i+(1+t)):=by omega
   have f3:IntKind.i64.wrap (((i+(1+(t+(1+r))):Nat):Int)-(i:Int))=((1+(t+(1+r)):Nat):Int):=by rw [wrap64 (by omega) (by omega)];omega
   have f4:IntKind.i64.wrap (((1+(t+(1+r)):Nat):Int)-1)=((t+(1+r):Nat):Int):=by rw [wrap64 (by omega) (by omega)];omega
   have f5:IntKind.i64.wrap (((i+(1+(t+(1+r))):Nat):Int)+1)=((i+(1+(t+(1+(r+1)))):Nat):Int):=by rw [wrap64 (by omega) (by omega)];omega
   have f6:IntKind.i64.wrap (((i+(1+(t+(1+r))):Nat):Int)-((i+(1+t):Nat):Int))=((1+r:Nat):Int):=by rw [wrap64 (by omega) (by omega)];omega
   have f7:IntKind.i64.wrap (((1+r:Nat):Int)-1)=(r:Int):=by rw [wrap64 (by omega) (by omega)];omega
   simp only [pwA,seval,-iQ0,wi1,hiC,hrb,e3,e4,f3,f4,f6,f7,hjr,hrk,hkr,hrk2,hjC,hrb2,hkr2,hrk3];refine Qp s (by omega) hAt hR0 (hcv3.mono (Nat.zero_le _)) (FI.mk hcv3.len) fun v hv=>?_
   have hz:=zAH s (i:=i) (m:=mu O P C q) (fun a b ha hb=>M.cl ha hb) (cvec C (i+(1+t)) (i+(1+(t+(1+r)))))
   simp only [pwA,seval,-iQ0,wi1,hiC,hrb,e3,e4,f3,f4,f6,f7,hjr,hrk,hkr,hrk2,hjC,hrb2,hkr2,hrk3];refine hAt hR0 hcv2 hcv (FI.mk hcv2.len) (FI.mk hcv.len) fun v2 hv2=>?_
   simp only [pwA,seval,-iQ0,wi1];refine hAt hR0 hcv hz (FI.mk hcv.len) hv fun v3 hv3=>?_
   obtain⟨w10,a10,rfl⟩:=hv2;obtain⟨w11,a11,rfl⟩:=hv3;simp only [pwA,seval,-iQ0];refine zAF rfl rfl (by have:=(M.cl hcv2 hcv).len;omega) ?_
   by_cases he:mu O P C q (cvec C i (i+(1+(t+(1+r))))) (cvec C i (i+(1+t)))=mu O P C q (cvec C i (i+(1+t))) (Grp.img O C (mu O P C q) i (cvec C (i+(1+t)) (i+(1+(t+(1+r))))))
   ·simp only [pwA,seval,-iQ0,eq_true he,f5]
    refine⟨_,by omega,r+1,by omega,rfl,rfl,fun r' h1 h2=>?_⟩
    by_cases e:r'=r
    ·subst e;exact he
    ·exact hall3 r' (by omega) h2
   ·simp only [pwA,seval,-iQ0,he]
    exact fin (no (by decide) fun L=>he (by have:=L.cj (i+(1+t)) (i+(1+(t+(1+r)))) (by omega) (by omega) hkO;rwa [ed]at this)) (hkp _)
  ·simp only [pwA,seval,-iQ0,e5]
   refine⟨_,by omega,t+1,by omega,rfl,rfl,fun t' r' h1 h2=>?_⟩
   by_cases e:t'=t
   ·subst e;exact hall3 r' (by omega) h2
   ·exact hall2 t' r' (by omega) h2
 -- third condition
 obtain⟨w6,a6,hpr⟩:=pvRow s hP hil;have hpv:=s.pw i hil;simp only [pwA,seval,-iQ0,hiP,hpr];refine Qp s (by omega) hAt hR0 (hpv.mono (Nat.zero_le _)) (FI.mk hpv.len) fun v hv=>?_
 obtain⟨w7,a7,rfl⟩:=hv;simp only [pwA,seval,-iQ0];refine zAF rfl hpv.len.symm (by have:=(zAH s (i:=i) (m:=mu O P C q) (fun a b ha hb=>M.cl ha hb) (pvec P i)).len;omega) ?_
 by_cases he3:Grp.img O C (mu O P C q) i (pvec P i)=pvec P i
 rotate_left
 ·simp only [pwA,seval,-iQ0,he3]
  exact fin (no (by decide) fun L=>he3 (by have:=L.fix;rwa [ed]at this)) (hkp _)
 simp only [pwA,seval,-iQ0,eq_true he3,wi1]
 -- fourth condition
 refine zD (fun m vs h'=>∃q':Nat,q'≤q∧m=q-q'∧vs=[.int .i64 i,.ptr σ.next 0,.ptr (σ.next+1) 0,.int .i64 O.length,.int .i64 i,.fz w6 a6 O.length (pis (pvec P i)),.int .i64 ((i+(1+q'):Nat):Int)]∧
  h'=(σ.new [.fz w0 a0 O.length (pis O),.fz w1 a1 P.length rP,.fz w3 a3 C.length rC]).new [.int .i64 0,.int .i64 0,.int .i64 0,.int .i64 0]∧
  ∀t,t<q'→mu O P C q (pvec P i) (iter (Grp.img O C (mu O P C q) i) (nx O i) (unitL O.length (i+(1+t))))=mu O P C q (unitL O.length (i+(1+t))) (pvec P i)) q ?_ ?_
 ·exact⟨0,by omega,by omega,rfl,rfl,fun t h=>by omega⟩
 rintro m vs h' ⟨t,ht,rfl,rfl,rfl,hall4⟩
 simp only [pwA,seval,-iQ0];refine iteI (fun hlt=>?_) fun hge=>?_
 rotate_left
 ·exact fin ⟨fun _=>yes hall (fun t' r' h=>hall2 t' r' (by omega) h) he3 (fun t' h=>hall4 t' (by omega)),fun _=>rfl⟩ (hkp _)
 have hjO:i+(1+t)<O.length:=by omega
 have hO:=s.pr i hil;have e5:IntKind.i64.wrap (((i+(1+t):Nat):Int)+1)=((i+(1+(t+1)):Nat):Int):=by rw [wrap64 (by omega) (by omega)];omega
 have hun:TT O (i+1) (unitL O.length (i+(1+t))):=s.unit hjO (by omega)
 simp only [pwA,seval,-iQ0];refine zLE (by omega) hjO fun v hv=>?_
 simp only [pwA,seval,-iQ0];refine zD (fun m vs h'=>∃(k:Nat) (v2:PV) (A:List Int),k≤nx O i∧m=nx O i-k∧vs=[.int .i64 i,.ptr σ.next 0,.ptr (σ.next+1) 0,.int .i64 O.length,.int .i64 i,.fz w6 a6 O.length (pis (pvec P i)),.int .i64 ((i+(1+t):Nat):Int),v,v2,.int .i64 k]∧
  h'=(σ.new [.fz w0 a0 O.length (pis O),.fz w1 a1 P.length rP,.fz w3 a3 C.length rC]).new [.int .i64 0,.int .i64 0,.int .i64 0,.int .i64 0]∧FI v2 A∧TT O (i+1) A∧iter (Grp.img O C (mu O P C q) i) (nx O i-k) A=iter (Grp.img O C (mu O P C q) i) (nx O i) (unitL O.length (i+(1+t)))) (nx O i) ?_ ?_
 ·exact⟨0,v,_,by omega,by omega,rfl,rfl,hv,hun,rfl⟩
 rintro m vs h' ⟨k,v2,A,hkn,rfl,rfl,rfl,hv2,hA,hit⟩
 have hnx:((nx O i:Nat):Int)=at_ O i:=Int.toNat_of_nonneg (by omega)
 simp only [pwA,seval,-iQ0,pisAt hil,hil];refine iteI (fun hlt2=>?_) fun hge2=>?_
 ·have hlt3:k<nx O i:=by omega
  refine Qp s (by omega) hAt hR0 (hA.mono (Nat.zero_le _)) hv2 fun v3 hv3=>?_
  simp only [pwA,seval,-iQ0,wrapS hlt3 (by omega:nx O i≤4611686018427387904)]
  refine⟨_,by omega,k+1,v3,_,by omega,rfl,rfl,hv3,zAH s (fun a b ha hb=>M.cl ha hb) _,?_⟩
  rw [show nx O i-k=(nx O i-(k+1))+1 by omega]at hit
  exact hit
 have hke:k=nx O i:=by omega
 subst hke;rw [Nat.sub_self]at hit
 have hA':A=iter (Grp.img O C (mu O P C q) i) (nx O i) (unitL O.length (i+(1+t))):=hit;subst hA';simp only [pwA,seval,-iQ0,wi1];refine hAt hR0 hpv hA (FI.mk hpv.len) hv2 fun v3 hv3=>?_
 simp only [pwA,seval,-iQ0,wi1];refine hAt hR0 hun hpv hv (FI.mk hpv.len) fun v4 hv4=>?_
 obtain⟨w8,a8,rfl⟩:=hv3;obtain⟨w9,a9,rfl⟩:=hv4;simp only [pwA,seval,-iQ0];refine zAF rfl rfl (by have:=(M.cl hpv hA).len;omega) ?_
 by_cases he:mu O P C q (pvec P i) (iter (Grp.img O C (mu O P C q) i) (nx O i) (unitL O.length (i+(1+t))))=mu O P C q (unitL O.length (i+(1+t))) (pvec P i)
 ·simp only [pwA,seval,-iQ0,eq_true he,e5]
  refine⟨_,by omega,t+1,by omega,rfl,rfl,fun t' h=>?_⟩
  by_cases e:t'=t
  ·subst e;exact he
  ·exact hall4 t' (by omega)
 ·simp only [pwA,seval,-iQ0,he]
  exact fin (no (by decide) fun L=>he (by have:=L.inn (i+(1+t)) (by omega) hjO;rwa [ed]at this)) (hkp _)
end Go.Proofs
namespace Go.Grp
end Go.Grp
namespace Go.Proofs
open Go.Ab Go.Lie Go.Grp
variable {σ:PHeap} {K:PV→PHeap→Prop} {O:List Int} {P:List (List Int)} {C:List (List (List Int))} {vO vP vC vx:PV} {s:Nat} {x:List Int} {rP rC:List PV}
theorem zJg (s:Shp O P C) (hR:IsPr vO vP vC O P C)
  (hk:∀f0 f1 f2 f3:Int,(f0=0↔Cons O P C)→K (.agg [.int .i64 f0,.int .i64 f1,.int .i64 f2,.int .i64 f3]) σ):zA Tryz.prog 156 [.agg [vO,vP,vC]] σ K:=by
 have hn6:=s.le;have hR0:=hR;obtain⟨⟨w0,a0,rfl⟩,⟨w1,a1,rP,rfl,hP⟩,⟨w3,a3,rC,rfl,hC⟩⟩:=hR;refine zA.gh ?_;have fin:∀{f0 f1 f2 f3:Int} {σ':PHeap},(f0=0↔Cons O P C)→Keep σ σ'→Gh σ K (.agg [.int .i64 f0,.int .i64 f1,.int .i64 f2,.int .i64 f3]) σ':=fun h k=>Gh.fin0 k ⟨trivial,trivial,trivial,trivial,trivial⟩ (hk _ _ _ _ h)
 have hw1:IntKind.i64.wrap ((O.length:Int)-1)=(O.length:Int)-1:=wrap64 (by omega) (by omega)
 refine zB mix Tryz.func156 ?_;simp only [pwA,seval,-iQ0,hw1];refine zD (fun m vs h'=>∃k:Nat,k≤O.length∧m=k∧vs=[.ptr σ.next 0,.ptr (σ.next+1) 0,.int .i64 ((k:Int)-1)]∧Keep ((σ.new [.fz w0 a0 O.length (pis O),.fz w1 a1 P.length rP,.fz w3 a3 C.length rC]).new [.int .i64 0,.int .i64 0,.int .i64 0,.int .i64 0]) h'∧∀j,k≤j→j<O.length→Lv O P C j) O.length ?_ ?_
 ·exact⟨O.length,Nat.le_refl _,rfl,rfl,Keep.refl _,fun j h1 h2=>by omega⟩
 rintro m vs h' ⟨k,hkO,rfl,rfl,hk1,hall⟩
 have hkp:Keep σ h':=((zC σ _).new _).trans hk1;have hn1:σ.next+2≤h'.next:=hk1.next;have hobj1:h'.obj σ.next=some [.fz w0 a0 O.length (pis O),.fz w1 a1 P.length rP,.fz w3 a3 C.length rC]:=by rw [hk1.obj _ (by simp [PHeap.new];omega)];simp [PHeap.new]
 have hobj2:h'.obj (σ.next+1)=some [.int .i64 0,.int .i64 0,.int .i64 0,.int .i64 0]:=by rw [hk1.obj _ (by simp [PHeap.new])];simp [PHeap.new]
 have hrd3:h'.rd σ.next 0 3=some [.fz w0 a0 O.length (pis O),.fz w1 a1 P.length rP,.fz w3 a3 C.length rC]:=by simp [PHeap.rd,hobj1]
 have hwr:∀f0 f1 f2 f3:Int,h'.wr (σ.next+1) 0 [.int .i64 f0,.int .i64 f1,.int .i64 f2,.int .i64 f3]=some (h'.set (σ.next+1) [.int .i64 f0,.int .i64 f1,.int .i64 f2,.int .i64 f3]):=fun f0 f1 f2 f3=>by
  have:∀cs:List PV,cs.length=4→cs.all PV.one=true→h'.wr (σ.next+1) 0 cs=some (h'.set (σ.next+1) cs):=fun cs hl ho=>by
   simp only [PHeap.wr,hobj2,Option.bind_some,ho,hl];simp [PHeap.set,List.drop_eq_nil_of_le,hl]
  exact this _ rfl rfl
 have hne1:¬σ.next=h'.next:=by omega
 have hne2:¬σ.next+1=h'.next:=by omega
 rcases Nat.eq_zero_or_pos m with rfl|hmp
 ·simp only [pwA,seval,-iQ0,show ¬((0:Int)≤((0:Nat):Int)-1) by omega,hwr]
  exact fin ⟨fun _ j hj=>hall j (Nat.zero_le _) hj,fun _=>rfl⟩ (hkp.set (by omega) _)
 obtain⟨i,rfl⟩:∃i,m=i+1:=⟨m-1,by omega⟩
 have e:((i+1:Nat):Int)-1=(i:Int):=by omega
 rw [e];have hil:i<O.length:=hkO;have hw2:IntKind.i64.wrap ((i:Int)-1)=(i:Int)-1:=wrap64 (by omega) (by omega)
 have B:Beh O P C (O.length-(i+1)):=zNU s (by omega) fun j h1 h2=>hall j (by omega) h2
 simp only [pwA,seval,-iQ0,hrd3];refine zJe s (d:=O.length-(i+1)) (by omega) B hR0 fun f0 f1 f2 f3 hf=>?_
 simp only [pwA,seval,-iQ0];refine iteI (fun h0=>?_) fun h0=>?_
 ·simp only [pwA,seval,-iQ0,hw2]
  refine⟨i,by omega,i,by omega,rfl,rfl,hk1.new _,fun j h1 h2=>?_⟩
  by_cases e:j=i
  ·subst e;exact hf.1 h0
  ·exact hall j (by omega) h2
 ·simp only [pwA,seval,-iQ0,hne1,hne2,hwr]
  exact fin ⟨fun h=>absurd h h0,fun h=>absurd (hf.2 (h i hil)) h0⟩ ((hkp.set (by omega) _).new _)
theorem zEv (s:Shp O P C) (hR:IsPr vO vP vC O P C) (hk:∀t:Bool,(t=true↔Cons O P C)→K (.bool t) σ):zA Tryz.prog 106 [.agg [vO,vP,vC]] σ K:=by
 have h0:=hR.O.one;have h1:=hR.P.one;have h2:=hR.C.one;refine zA.gh ?_;refine zB mix Tryz.func106 ?_;simp only [pwA,seval,-iQ0,h0,h1,h2];refine zJg s hR fun f0 f1 f2 f3 hf=>?_
 simp only [pwA,seval,-iQ0];exact Gh.fin0 (zC σ _) trivial (hk _ (by rw [decide_eq_true_iff];exact hf))
theorem zJf (hR:IsPr vO vP vC O P C) (sz:SzP O P C) (hk:∀t:Bool,(t=true↔qi O P C∧Cons O P C)→K (.bool t) σ):zA Tryz.prog 61 [.agg [vO,vP,vC]] σ K:=by
 have h0:=hR.O.one;have h1:=hR.P.one;have h2:=hR.C.one;have fl:∀{A:Prop},¬A→((false=true)↔A):=fun h=>⟨fun x=>(by cases x),fun x=>absurd x h⟩
 refine zA.gh ?_;refine zB mix Tryz.func61 ?_;simp only [pwA,seval,-iQ0,h0,h1,h2];refine zCb hR sz fun t ht=>?_
 cases t with
 | false=>
  simp only [pwA,seval,-iQ0];exact Gh.fin0 (zC σ _) trivial (hk _ (fl fun h=>by cases ht.2 h.1))
 | true=>
  have hp:=ht.1 rfl;simp only [pwA,seval,-iQ0,h0,h1,h2];refine zEv hp.shp hR fun t ht=>?_
  simp only [pwA,seval,-iQ0];exact Gh.fin0 (zC σ _) trivial (hk _ ⟨fun h=>⟨hp,ht.1 h⟩,fun h=>ht.2 h.2⟩)
end Go.Proofs
namespace Go.Grp
end Go.Grp
namespace Go.Proofs
open Go.Ab Go.Lie Go.Grp
variable {σ:PHeap} {K:PV→PHeap→Prop} {O:List Int} {P:List (List Int)} {C:List (List (List Int))} {vO vP vC vx vf va vb:PV} {x y f a b:List Int} {rP rC:List PV} {d j sp:Nat}
theorem zG6 (s:Shp O P C) (F:Full O P C d) {i:Nat} (hi:O.length=d+(i+1)) (hs:PtrG σ sp vO vP vC) (hR:IsPr vO vP vC O P C)
  (hk:∀f0 f1 f2 f3:Int,((f0=0∧f1=0∧f2=0∧f3=0∧Lv O P C i)∨(f0≠0∧¬Lv O P C i))→K (.agg [.int .i64 f0,.int .i64 f1,.int .i64 f2,.int .i64 f3]) σ):zA Tryz.prog 181 [.ptr sp 0,.int .i64 i] σ K:=by
 have hn6:=s.le;have hR0:=hR;have hil:i<O.length:=by omega
 have M:=F.gp.toMon;have G:=F.gp;have edi:O.length-d=i+1:=by omega
 have ed:O.length-1-i=d:=by omega
 have hne:¬sp=σ.next:=Nat.ne_of_lt hs.lt;have hs1:∀cs,PtrG (σ.new cs) sp vO vP vC:=fun cs=>hs.new cs
 have yes:((∀q,q<d→pw (mu O P C d) (zv O) (cvec C i (i+(1+q))) (nx O (i+(1+q)))=Grp.img O C (mu O P C d) i (pvec P (i+(1+q))))→
   (∀q r,q+(1+r)<d→mu O P C d (cvec C i (i+(1+(q+(1+r))))) (cvec C i (i+(1+q)))=mu O P C d (cvec C i (i+(1+q))) (Grp.img O C (mu O P C d) i (cvec C (i+(1+q)) (i+(1+(q+(1+r)))))))→
   Grp.img O C (mu O P C d) i (pvec P i)=pvec P i→
   (∀q,q<d→mu O P C d (pvec P i) (iter (Grp.img O C (mu O P C d) i) (nx O i) (unitL O.length (i+(1+q))))=mu O P C d (unitL O.length (i+(1+q))) (pvec P i))→Lv O P C i):=fun h1 h2 h3 h4=>by
  refine⟨fun j g1 g2=>?_,fun j k g1 g2 g3=>?_,?_,fun j g1 g2=>?_⟩
  ·have:=h1 (j-i-1) (by omega);rw [show i+(1+(j-i-1))=j by omega]at this;rw [ed];exact this
  ·have:=h2 (j-i-1) (k-j-1) (by omega);rw [show i+(1+(j-i-1))=j by omega,show i+(1+(j-i-1+(1+(k-j-1))))=k by omega]at this;rw [ed];exact this
  ·rw [ed];exact h3
  ·have:=h4 (j-i-1) (by omega);rw [show i+(1+(j-i-1))=j by omega]at this;rw [ed];exact this
 have imgt:∀x,TT O (O.length-d) (Grp.img O C (mu O P C d) i x):=fun x=>by
  rw [edi];exact zAH s (fun a b ha hb=>by have:=M.cl (a:=a) (b:=b) (by rw [edi];exact ha) (by rw [edi];exact hb);rwa [edi]at this) x
 obtain⟨⟨w0,a0,rfl⟩,⟨w1,a1,rP,rfl,hP⟩,⟨w3,a3,rC,rfl,hC⟩⟩:=hR;obtain⟨w5,a5,rs,hrb,hrs⟩:=cvRow s hC hil;have hiC:i<C.length:=by rw [s.cl];exact hil
 have hiP:i<P.length:=by rw [s.pl];exact hil
 have e0:σ.rd1 sp 0=some (.fz w0 a0 O.length (pis O)):=by rw [zF hs.obj];rfl
 have e1:σ.rd1 sp 1=some (.fz w1 a1 P.length rP):=by rw [zF hs.obj];rfl
 have e2:σ.rd1 sp 2=some (.fz w3 a3 C.length rC):=by rw [zF hs.obj];rfl
 refine zA.gh ?_;have fin:∀{f0 f1 f2 f3:Int} {σ':PHeap},((f0=0∧f1=0∧f2=0∧f3=0∧Lv O P C i)∨(f0≠0∧¬Lv O P C i))→Keep σ σ'→Gh σ K (.agg [.int .i64 f0,.int .i64 f1,.int .i64 f2,.int .i64 f3]) σ':=fun h k=>Gh.fin0 k ⟨trivial,trivial,trivial,trivial,trivial⟩ (hk _ _ _ _ h)
 have no:∀{f0 f1 f2 f3:Int},f0≠0→¬Lv O P C i→((f0=0∧f1=0∧f2=0∧f3=0∧Lv O P C i)∨(f0≠0∧¬Lv O P C i)):=fun h g=>.inr ⟨h,g⟩
 have hkp:∀cs:List PV,Keep σ (σ.new cs):=fun cs=>zC σ _
 have wi1:IntKind.i64.wrap ((i:Int)+1)=((i+1:Nat):Int):=wrapS hil (by omega)
 refine QA mix Tryz.func181 ?_;simp only [pwA,seval,-iQ0,e0,hne]
 -- first condition
 simp only [pwA,seval,-iQ0,wi1];refine zD (fun m vs h'=>∃q:Nat,q≤d∧m=d-q∧vs=[.ptr sp 0,.int .i64 i,.ptr σ.next 0,.int .i64 O.length,.int .i64 i,.int .i64 ((i+(1+q):Nat):Int)]∧
  h'=σ.new [.int .i64 0,.int .i64 0,.int .i64 0,.int .i64 0]∧∀q',q'<q→pw (mu O P C d) (zv O) (cvec C i (i+(1+q'))) (nx O (i+(1+q')))=Grp.img O C (mu O P C d) i (pvec P (i+(1+q')))) d ?_ ?_
 ·exact⟨0,by omega,by omega,rfl,rfl,fun q h=>by omega⟩
 rintro m vs h' ⟨q,hq,rfl,rfl,rfl,hall⟩
 simp only [pwA,seval,-iQ0];refine iteI (fun hlt=>?_) fun hge=>?_
 ·have hjO:i+(1+q)<O.length:=by omega
  have hjP:i+(1+q)<P.length:=by rw [s.pl];exact hjO
  obtain⟨w6,a6,hrk⟩:=hrs q (by omega)
  obtain⟨w7,a7,hpr⟩:=pvRow s hP hjO;have hjr:q<O.length-1-i:=by omega
  have hcv:=s.cj i (i+(1+q)) (by omega) (by omega)
  have hcv':TT O (O.length-d) (cvec C i (i+(1+q))):=by rw [edi];exact hcv
  have hpv:=s.pw (i+(1+q)) hjO;have hO:=s.pr _ hjO;have e3:IntKind.i64.wrap (((i+(1+q):Nat):Int)-(i:Int))=((1+q:Nat):Int):=by rw [wrap64 (by omega) (by omega)];omega
  have e4:IntKind.i64.wrap (((1+q:Nat):Int)-1)=(q:Int):=by rw [wrap64 (by omega) (by omega)];omega
  have e5:IntKind.i64.wrap (((i+(1+q):Nat):Int)+1)=((i+(1+(q+1)):Nat):Int):=by rw [wrap64 (by omega) (by omega)];omega
  simp only [pwA,seval,-iQ0,e0,e1,e2,hne,wi1,hiC,hrb,e3,e4,hjr,hrk,hjO,pisAt hjO,hjP,hpr];refine zEl s F (hs1 _) hR0 hcv' (FI.mk hcv.len) (by omega) fun v hv=>?_
  simp only [pwA,seval,-iQ0,e0,e1,e2,hne,wi1,hiC,hrb,e3,e4,hjr,hrk,hjO,pisAt hjO,hjP,hpr];refine zA0 s F hi (hs1 _) hR0 (hpv.mono (Nat.zero_le _)) (FI.mk hpv.len) fun v2 hv2=>?_
  obtain⟨w8,a8,rfl⟩:=hv;obtain⟨w9,a9,rfl⟩:=hv2;simp only [pwA,seval,-iQ0];refine zBb rfl rfl (by have:=(M.pw hcv' (at_ O (i+(1+q))).toNat).len;omega) ?_
  by_cases he:pw (mu O P C d) (zv O) (cvec C i (i+(1+q))) (nx O (i+(1+q)))=Grp.img O C (mu O P C d) i (pvec P (i+(1+q)))
  ·simp only [pwA,seval,-iQ0,eq_true he,e5]
   refine⟨_,by omega,q+1,by omega,rfl,rfl,fun q' h=>?_⟩
   by_cases e:q'=q
   ·subst e;exact he
   ·exact hall q' (by omega)
  ·simp only [pwA,seval,-iQ0,he]
   exact fin (no (by decide) fun L=>he (by have:=L.pow (i+(1+q)) (by omega) hjO;rwa [ed]at this)) (hkp _)
 have hqd:q=d:=by omega
 subst hqd
 -- second condition
 simp only [pwA,seval,-iQ0,wi1];refine zD (fun m vs h'=>∃q':Nat,q'≤q∧m=q-q'∧vs=[.ptr sp 0,.int .i64 i,.ptr σ.next 0,.int .i64 O.length,.int .i64 i,.int .i64 ((i+(1+q'):Nat):Int)]∧
  h'=σ.new [.int .i64 0,.int .i64 0,.int .i64 0,.int .i64 0]∧
  ∀t r,t<q'→t+(1+r)<q→mu O P C q (cvec C i (i+(1+(t+(1+r))))) (cvec C i (i+(1+t)))=mu O P C q (cvec C i (i+(1+t))) (Grp.img O C (mu O P C q) i (cvec C (i+(1+t)) (i+(1+(t+(1+r))))))) q ?_ ?_
 ·exact⟨0,by omega,by omega,rfl,rfl,fun t r h=>by omega⟩
 rintro m vs h' ⟨t,ht,rfl,rfl,rfl,hall2⟩
 simp only [pwA,seval,-iQ0];refine iteI (fun hlt=>?_) fun hge=>?_
 ·have hjO:i+(1+t)<O.length:=by omega
  have hjC:i+(1+t)<C.length:=by rw [s.cl];exact hjO
  obtain⟨w6,a6,hrk⟩:=hrs t (by omega)
  obtain⟨w7,a7,rs2,hrb2,hrs2⟩:=cvRow s hC hjO;have hjr:t<O.length-1-i:=by omega
  have hcv:=s.cj i (i+(1+t)) (by omega) (by omega)
  have hcv':TT O (O.length-q) (cvec C i (i+(1+t))):=by rw [edi];exact hcv
  have e3:IntKind.i64.wrap (((i+(1+t):Nat):Int)-(i:Int))=((1+t:Nat):Int):=by rw [wrap64 (by omega) (by omega)];omega
  have e4:IntKind.i64.wrap (((1+t:Nat):Int)-1)=(t:Int):=by rw [wrap64 (by omega) (by omega)];omega
  have e5:IntKind.i64.wrap (((i+(1+t):Nat):Int)+1)=((i+(1+(t+1)):Nat):Int):=by rw [wrap64 (by omega) (by omega)];omega
  simp only [pwA,seval,-iQ0,e5];refine zD (fun m vs h'=>∃r:Nat,t+(1+r)≤q∧m=q-(t+(1+r))∧vs=[.ptr sp 0,.int .i64 i,.ptr σ.next 0,.int .i64 O.length,.int .i64 i,.int .i64 ((i+(1+t):Nat):Int),.int .i64 ((i+(1+(t+(1+r))):Nat):Int)]∧
   h'=σ.new [.int .i64 0,.int .i64 0,.int .i64 0,.int .i64 0]∧
   ∀r',r'<r→t+(1+r')<q→mu O P C q (cvec C i (i+(1+(t+(1+r'))))) (cvec C i (i+(1+t)))=mu O P C q (cvec C i (i+(1+t))) (Grp.img O C (mu O P C q) i (cvec C (i+(1+t)) (i+(1+(t+(1+r'))))))) (q-(t+1)) ?_ ?_
  ·exact⟨0,by omega,by omega,rfl,rfl,fun r' h=>by omega⟩
  rintro m vs h' ⟨r,hr,rfl,rfl,rfl,hall3⟩
  simp only [pwA,seval,-iQ0];refine iteI (fun hlt2=>?_) fun hge2=>?_
  ·have hkO:i+(1+(t+(1+r)))<O.length:=by omega
   obtain⟨w8,a8,hrk2⟩:=hrs (t+(1+r)) (by omega)
   obtain⟨w9,a9,hrk3⟩:=hrs2 r (by omega)
   rw [show i+(1+t)+(1+r)=i+(1+(t+(1+r))) by omega]at hrk3
   have hcv2:=s.cj i (i+(1+(t+(1+r)))) (by omega) hkO
   have hcv2':TT O (O.length-q) (cvec C i (i+(1+(t+(1+r))))):=by rw [edi];exact hcv2
   have hcv3:=s.cj (i+(1+t)) (i+(1+(t+(1+r)))) (by omega) hkO
   have hkr:t+(1+r)<O.length-1-i:=by omega
   have hkr2:r<O.length-1-(i+(1+t)):=by omega
   have f3:IntKind.i64.wrap (((i+(1+(t+(1+r))):Nat):Int)-(i:Int))=((1+(t+(1+r)):Nat):Int):=by rw [wrap64 (by omega) (by omega)];omega
   have f4:IntKind.i64.wrap (((1+(t+(1+r)):Nat):Int)-1)=((t+(1+r):Nat):Int):=by rw [wrap64 (by omega) (by omega)];omega
   have f5:IntKind.i64.wrap (((i+(1+(t+(1+r))):Nat):Int)+1)=((i+(1+(t+(1+(r+1)))):Nat):Int):=by rw [wrap64 (by omega) (by omega)];omega
   have f6:IntKind.i64.wrap (((i+(1+(t+(1+r))):Nat):Int)-((i+(1+t):Nat):Int))=((1+r:Nat):Int):=by rw [wrap64 (by omega) (by omega)];omega
   have f7:IntKind.i64.wrap (((1+r:Nat):Int)-1)=(r:Int):=by rw [wrap64 (by omega) (by omega)];omega
   simp only [pwA,seval,-iQ0,e0,e1,e2,hne,wi1,hiC,hrb,e3,e4,f3,f4,f6,f7,hjr,hrk,hkr,hrk2,hjC,hrb2,hkr2,hrk3];refine zAM s F (hs1 _) hR0 hcv2' hcv' (FI.mk hcv2.len) (FI.mk hcv.len) fun v z hz1 hz2 hv=>?_
   simp only [pwA,seval,-iQ0,e0,e1,e2,hne,wi1,hiC,hrb,e3,e4,f3,f4,f6,f7,hjr,hrk,hkr,hrk2,hjC,hrb2,hkr2,hrk3];refine zA0 s F hi (hs1 _) hR0 (hcv3.mono (Nat.zero_le _)) (FI.mk hcv3.len) fun v2 hv2=>?_
   have hz:=imgt (cvec C (i+(1+t)) (i+(1+(t+(1+r)))));obtain⟨w10,a10,rfl⟩:=hv;obtain⟨w11,a11,rfl⟩:=hv2;simp only [pwA,seval,-iQ0];refine zBb rfl rfl (by have:=hz1.len;omega) ?_
   by_cases he:z=Grp.img O C (mu O P C q) i (cvec C (i+(1+t)) (i+(1+(t+(1+r)))))
   ·simp only [pwA,seval,-iQ0,eq_true he,f5]
    refine⟨_,by omega,r+1,by omega,rfl,rfl,fun r' h1 h2=>?_⟩
    by_cases e:r'=r
    ·subst e;rw [←he];exact hz2.symm
    ·exact hall3 r' (by omega) h2
   ·simp only [pwA,seval,-iQ0,he]
    exact fin (no (by decide) fun L=>he (by
     have:=L.cj (i+(1+t)) (i+(1+(t+(1+r)))) (by omega) (by omega) hkO
     rw [ed]at this
     exact G.cancel hcv' hz1 hz (hz2.trans this))) (hkp _)
  ·simp only [pwA,seval,-iQ0,e5]
   refine⟨_,by omega,t+1,by omega,rfl,rfl,fun t' r' h1 h2=>?_⟩
   by_cases e:t'=t
   ·subst e;exact hall3 r' (by omega) h2
   ·exact hall2 t' r' (by omega) h2
 -- third condition
 obtain⟨w6,a6,hpr⟩:=pvRow s hP hil;have hpv:=s.pw i hil;have hpv':TT O (O.length-q) (pvec P i):=by rw [edi];exact hpv
 simp only [pwA,seval,-iQ0,e1,hne,hiP,hpr];refine zA0 s F hi (hs1 _) hR0 (hpv.mono (Nat.zero_le _)) (FI.mk hpv.len) fun v hv=>?_
 obtain⟨w7,a7,rfl⟩:=hv;simp only [pwA,seval,-iQ0];refine zBb rfl hpv.len.symm (by have:=(imgt (pvec P i)).len;omega) ?_
 by_cases he3:Grp.img O C (mu O P C q) i (pvec P i)=pvec P i
 rotate_left
 ·simp only [pwA,seval,-iQ0,he3]
  exact fin (no (by decide) fun L=>he3 (by have:=L.fix;rwa [ed]at this)) (hkp _)
 simp only [pwA,seval,-iQ0,eq_true he3,wi1]
 -- fourth condition
 refine zD (fun m vs h'=>∃q':Nat,q'≤q∧m=q-q'∧vs=[.ptr sp 0,.int .i64 i,.ptr σ.next 0,.int .i64 O.length,.int .i64 i,.fz w6 a6 O.length (pis (pvec P i)),.int .i64 ((i+(1+q'):Nat):Int)]∧
  h'=σ.new [.int .i64 0,.int .i64 0,.int .i64 0,.int .i64 0]∧
  ∀t,t<q'→mu O P C q (pvec P i) (iter (Grp.img O C (mu O P C q) i) (nx O i) (unitL O.length (i+(1+t))))=mu O P C q (unitL O.length (i+(1+t))) (pvec P i)) q ?_ ?_
 ·exact⟨0,by omega,by omega,rfl,rfl,fun t h=>by omega⟩
 rintro m vs h' ⟨t,ht,rfl,rfl,rfl,hall4⟩
 simp only [pwA,seval,-iQ0];refine iteI (fun hlt=>?_) fun hge=>?_
 rotate_left
 ·exact fin (.inl ⟨rfl,rfl,rfl,rfl,yes hall (fun t' r' h=>hall2 t' r' (by omega) h) he3 (fun t' h=>hall4 t' (by omega))⟩) (hkp _)
 have hjO:i+(1+t)<O.length:=by omega
 have hO:=s.pr i hil;have e5:IntKind.i64.wrap (((i+(1+t):Nat):Int)+1)=((i+(1+(t+1)):Nat):Int):=by rw [wrap64 (by omega) (by omega)];omega
 have hun:TT O (i+1) (unitL O.length (i+(1+t))):=s.unit hjO (by omega)
 have hun':TT O (O.length-q) (unitL O.length (i+(1+t))):=by rw [edi];exact hun
 simp only [pwA,seval,-iQ0];refine zAq (by omega) hjO fun av=>?_
 simp only [pwA,seval,-iQ0,e0,hne,hil,pisAt hil];refine zD (fun m vs h'=>∃(k:Nat) (v2:PV) (A:List Int),k≤nx O i∧m=nx O i-k∧vs=[.ptr sp 0,.int .i64 i,.ptr σ.next 0,.int .i64 O.length,.int .i64 i,.fz w6 a6 O.length (pis (pvec P i)),.int .i64 ((i+(1+t):Nat):Int),v2,.int .i64 (at_ O i),.int .i64 k]∧
  h'=σ.new [.int .i64 0,.int .i64 0,.int .i64 0,.int .i64 0]∧FI v2 A∧TT O (O.length-q) A∧iter (Grp.img O C (mu O P C q) i) (nx O i-k) A=iter (Grp.img O C (mu O P C q) i) (nx O i) (unitL O.length (i+(1+t)))) (nx O i) ?_ ?_
 ·exact⟨0,.fz true av O.length (pis (unitL O.length (i+(1+t)))),_,by omega,by omega,rfl,rfl,FI.mk (zBA _ _),hun',rfl⟩
 rintro m vs h' ⟨k,v2,A,hkn,rfl,rfl,rfl,hv2,hA,hit⟩
 have hnx:((nx O i:Nat):Int)=at_ O i:=Int.toNat_of_nonneg (by omega)
 simp only [pwA,seval,-iQ0];refine iteI (fun hlt2=>?_) fun hge2=>?_
 ·have hlt3:k<nx O i:=by omega
  refine zA0 s F hi (hs1 _) hR0 (hA.mono (Nat.zero_le _)) hv2 fun v3 hv3=>?_
  simp only [pwA,seval,-iQ0,wrapS hlt3 (by omega:nx O i≤4611686018427387904)]
  refine⟨_,by omega,k+1,v3,_,by omega,rfl,rfl,hv3,imgt _,?_⟩
  rw [show nx O i-k=(nx O i-(k+1))+1 by omega]at hit
  exact hit
 have hke:k=nx O i:=by omega
 subst hke;rw [Nat.sub_self]at hit
 have hA':A=iter (Grp.img O C (mu O P C q) i) (nx O i) (unitL O.length (i+(1+t))):=hit;subst hA';simp only [pwA,seval,-iQ0];refine zAq (by omega) hjO fun av2=>?_
 simp only [pwA,seval,-iQ0];refine zAM s F (hs1 _) hR0 hun' hpv' (FI.mk (zBA _ _)) (FI.mk hpv.len) fun v z hz1 hz2 hv=>?_
 obtain⟨w8,a8,rfl⟩:=hv2;obtain⟨w9,a9,rfl⟩:=hv;simp only [pwA,seval,-iQ0];refine zBb rfl rfl (by have:=hA.len;omega) ?_
 by_cases he:iter (Grp.img O C (mu O P C q) i) (nx O i) (unitL O.length (i+(1+t)))=z
 ·simp only [pwA,seval,-iQ0,eq_true he,e5]
  refine⟨_,by omega,t+1,by omega,rfl,rfl,fun t' h=>?_⟩
  by_cases e:t'=t
  ·subst e;rw [he];exact hz2
  ·exact hall4 t' (by omega)
 ·simp only [pwA,seval,-iQ0,he]
  exact fin (no (by decide) fun L=>he (by
   have:=L.inn (i+(1+t)) (by omega) hjO
   rw [ed]at this
   exact G.cancel hpv' hA hz1 (this.trans hz2.symm))) (hkp _)
end Go.Proofs
namespace Go.Grp
end Go.Grp
namespace Go.Proofs
open Go.Ab Go.Lie Go.Grp
variable {σ:PHeap} {K:PV→PHeap→Prop} {O:List Int} {P:List (List Int)} {C:List (List (List Int))} {vO vP vC vx vf va vb:PV} {x y f a b:List Int} {rP rC:List PV} {d j sp:Nat}
theorem zD8 (s:Shp O P C) (hs:PtrG σ sp vO vP vC) (hR:IsPr vO vP vC O P C) (hk:∀r:Int,(r=0↔Cons O P C)→K (.int .i64 r) σ):zA Tryz.prog 140 [.ptr sp 0] σ K:=by
 have hn6:=s.le;have hR0:=hR;have hs0:=hs;obtain⟨⟨w0,a0,rfl⟩,⟨w1,a1,rP,rfl,hP⟩,⟨w3,a3,rC,rfl,hC⟩⟩:=hR;have e0:σ.rd1 sp 0=some (.fz w0 a0 O.length (pis O)):=by rw [zF hs.obj];rfl
 refine zB mix Tryz.func140 ?_;simp only [pwA,seval,-iQ0,e0];refine zD (fun m vs h'=>∃k:Nat,k≤O.length∧m=k∧vs=[.ptr sp 0,.int .i64 k]∧σ=h'∧∀j,k≤j→j<O.length→Lv O P C j) O.length ?_ ?_
 ·exact⟨O.length,Nat.le_refl _,rfl,rfl,rfl,fun j h1 h2=>by omega⟩
 rintro m vs h' ⟨k,hkO,rfl,rfl,rfl,hall⟩
 rcases Nat.eq_zero_or_pos m with rfl|hmp
 ·have h00:¬((0:Int)<((0:Nat):Int)):=by omega
  simp only [pwA,seval,-iQ0,h00];exact hk _ ⟨fun _ j hj=>hall j (Nat.zero_le _) hj,fun _=>rfl⟩
 obtain⟨i,rfl⟩:∃i,m=i+1:=⟨m-1,by omega⟩
 have hpos:(0:Int)<((i+1:Nat):Int):=by omega
 have hw:IntKind.i64.wrap (((i+1:Nat):Int)-1)=(i:Int):=by rw [wrap64 (by omega) (by omega)];omega
 have F:Full O P C (O.length-(i+1)):=full_of s (by omega) fun j h1 h2=>hall j (by omega) h2
 simp only [pwA,seval,-iQ0,hpos,hw];refine zG6 s F (i:=i) (by omega) hs0 hR0 fun f0 f1 f2 f3 hf=>?_
 rcases hf with ⟨rfl,rfl,rfl,rfl,L⟩|⟨h0,hn⟩
 ·simp only [pwA,seval,-iQ0,hpos,hw]
  refine⟨i,by omega,i,by omega,rfl,rfl,fun j h1 h2=>?_⟩
  by_cases e:j=i
  ·subst e;exact L
  ·exact hall j (by omega) h2
 ·simp only [pwA,seval,-iQ0,hpos,hw,h0,Bool.false_and]
  exact hk _ ⟨fun h=>absurd h (by omega),fun h=>absurd (h i (by omega)) hn⟩
theorem zBq (hR:IsPr vO vP vC O P C) (sz:SzP O P C) (hk:∀t:Bool,(t=true↔qi O P C∧Cons O P C)→K (.bool t) σ):zA Tryz.prog 83 [.agg [vO,vP,vC]] σ K:=by
 have h0:=hR.O.one;have h1:=hR.P.one;have h2:=hR.C.one;have fl:∀{A:Prop},¬A→((false=true)↔A):=fun h=>⟨fun x=>(by cases x),fun x=>absurd x h⟩
 have hpt:PtrG (σ.new [vO,vP,vC]) σ.next vO vP vC:=⟨by simp only [pwA,seval,-iQ0],by simp only [pwA,seval,-iQ0]⟩
 refine zA.gh ?_;refine zB mix Tryz.func83 ?_;simp only [pwA,seval,-iQ0,h0,h1,h2];refine zD9 hR sz fun t ht=>?_
 cases t with
 | false=>
  simp only [pwA,seval,-iQ0];exact Gh.fin0 (zC σ _) trivial (hk _ (fl fun h=>by cases ht.2 h.1))
 | true=>
  have hp:=ht.1 rfl;simp only [pwA,seval,-iQ0];refine zD8 hp.shp hpt hR fun r hr=>?_
  simp only [pwA,seval,-iQ0];exact Gh.fin0 (zC σ _) trivial (hk _ (by rw [decide_eq_true_iff];exact⟨fun h=>⟨hp,hr.1 h⟩,fun h=>hr.2 h.2⟩))
end Go.Proofs
namespace Go.Lie
open Go.Ab
variable {p:Int} {n:Nat} {W:List (List Int)}
def dep:List Int→Nat
 | []=>0
 | x::xs=>if x=0 then dep xs+1 else 0
theorem zBT:∀v:List Int,dep v≤v.length
 | []=>Nat.le_refl _
 | x::xs=>by simp only [dep,List.length_cons];have:=zBT xs;split<;>omega
theorem qw:∀{v:List Int} {j:Nat},j<dep v→at_ v j=0
 | [],j,h=>by simp [at_]
 | x::xs,j,h=>by
  simp only [dep]at h
  split at h
  ·rename_i hx
   cases j with
   | zero=>simp [at_,hx]
   | succ j=>
    have:=qw (v:=xs) (j:=j) (by omega)
    simpa [at_]using this
  ·omega
theorem Z4:∀{v:List Int},dep v<v.length→at_ v (dep v)≠0
 | [],h=>by simp at h
 | x::xs,h=>by
  simp only [dep,List.length_cons]at h ⊢
  split at h
  ·rename_i hx
   rw [if_pos hx]
   have:=Z4 (v:=xs) (by omega)
   simpa [at_]using this
  ·rename_i hx
   rw [if_neg hx]
   simpa [at_]using hx
theorem zIh {v:List Int} {d:Nat} (h1:∀j,j<d→at_ v j=0) (h2:at_ v d≠0):dep v=d:=by
 rcases Nat.lt_trichotomy (dep v) d with x|x|x
 ·have hd:d<v.length:=by
   rcases Nat.lt_or_ge d v.length with y|y
   ·exact y
   ·exact absurd (at_ge y) h2
  exact absurd (h1 _ x) (Z4 (by omega))
 ·exact x
 ·exact absurd (qw x) h2
theorem dep_ge {v:List Int} {d:Nat} (hd:d≤v.length) (h1:∀j,j<d→at_ v j=0):d≤dep v:=by
 rcases Nat.lt_or_ge (dep v) d with x|x
 ·exact absurd (h1 _ x) (Z4 (by omega))
 ·exact x
end Go.Lie
namespace Go.Lie
open Go.Ab
variable {p:Int} {n:Nat} {W:List (List Int)}
theorem zRm {p a:Int} (hp:p=2∨p=3∨p=5∨p=7) (h1:0<a) (h2:a<p):∃x,1≤x∧x<p∧a*x % p=1:=by
 rcases hp with rfl|rfl|rfl|rfl
 ·exact⟨1,by omega,by omega,by
   have:a=1:=by omega
   subst this;decide⟩
 ·obtain rfl | rfl:a=1∨a=2:=by omega
  ·exact⟨1,by decide,by decide,by decide⟩
  ·exact⟨2,by decide,by decide,by decide⟩
 ·obtain rfl | rfl | rfl | rfl:a=1∨a=2∨a=3∨a=4:=by omega
  ·exact⟨1,by decide,by decide,by decide⟩
  ·exact⟨3,by decide,by decide,by decide⟩
  ·exact⟨2,by decide,by decide,by decide⟩
  ·exact⟨4,by decide,by decide,by decide⟩
 ·obtain rfl | rfl | rfl | rfl | rfl | rfl:a=1∨a=2∨a=3∨a=4∨a=5∨a=6:=by omega
  ·exact⟨1,by decide,by decide,by decide⟩
  ·exact⟨4,by decide,by decide,by decide⟩
  ·exact⟨5,by decide,by decide,by decide⟩
  ·exact⟨2,by decide,by decide,by decide⟩
  ·exact⟨3,by decide,by decide,by decide⟩
  ·exact⟨6,by decide,by decide,by decide⟩
end Go.Lie
namespace Go.Proofs
open Go.Ab Go.Lie
variable {σ:PHeap} {K:PV→PHeap→Prop} {p p':Int} {n:Nat} {W:List (List Int)} {B:List (List (List Int))} {vP vB vL vU:PV}
theorem zMv {a p:Int} (hp:isP p) (ha:0<a∧a<p) (hk:∀x,1≤x→x<p→a*x % p=1→K (.int .i64 x) σ):zA Tryz.prog 116 [.int .i64 a,.int .i64 p] σ K:=by
 have hpb:=hp.bd;obtain⟨y,hy1,hy2,hy3⟩:=zRm hp ha.1 ha.2;refine zB mix Tryz.func116 ?_;simp only [pwA,seval,-iQ0];refine zD (fun m vs h'=>∃i:Int,1≤i∧i≤y∧m=(y-i).toNat∧vs=[.int .i64 a,.int .i64 p,.int .i64 i]∧σ=h') (y-1).toNat ?_ ?_
 ·exact⟨1,by omega,hy1,rfl,rfl,rfl⟩
 rintro m vs h' ⟨i,hi,hiy,rfl,rfl,rfl⟩
 have hip:i<p:=by omega
 simp only [pwA,seval,-iQ0,hip];refine zMu (by omega) (by omega) ?_
 have hap:a % p=a:=Int.emod_eq_of_lt (by omega) (by omega)
 have hm:a*i≤49∧0≤a*i:=by
  have h1:=Int.mul_le_mul_of_nonneg_left (show i≤7 by omega) (show 0≤a by omega)
  have h2:=Int.mul_nonneg (show 0≤a by omega) (show 0≤i by omega)
  omega
 have hp0:p≠0:=by omega
 rw [hap];simp only [pwA,seval,-iQ0,wrap64 (n:=a*i) (by omega) (by omega),hp0]
 have e:(a*i).tmod p=a*i % p:=Int.tmod_eq_emod_of_nonneg hm.2;rw [e]
 by_cases h1:a*i % p=1
 ·simp only [pwA,seval,-iQ0,h1]
  exact hk i hi hip h1
 ·have hne:i≠y:=fun e=>h1 (by rw [e];exact hy3)
  simp only [pwA,seval,-iQ0,h1,wrap64 (n:=i+1) (by omega) (by omega)]
  exact⟨_,by omega,i+1,by omega,by omega,rfl,rfl⟩
theorem zDM {l:Nat} {w:Bool} {a:AV} {xs:List Int} (hl:l=xs.length) (hb:xs.length≤4294967296) (hk:∀v,K (.fz true v xs.length (pis xs)) σ):zA Tryz.prog 89 [.fz w a l (pis xs)] σ K:=
 zA.fz (fun K'=>Zx hl hb) (zo _ _) fun o cap=>hk _
end Go.Proofs
namespace Go.Proofs
open Go.Ab Go.Lie
variable {σ:PHeap} {K:PV→PHeap→Prop} {p p':Int} {n:Nat} {W:List (List Int)} {B:List (List (List Int))} {vP vB vL vU:PV}
theorem zRk {xs:List Int} (h:isZ xs) (j:Nat):at_ xs j=0:=by
 rcases Nat.lt_or_ge j xs.length with x|x
 ·rw [at_eq x];exact h _ (List.getElem_mem x)
 ·exact at_ge x
end Go.Proofs
namespace Go.Proofs
open Go.Ab Go.Lie
variable {σ:PHeap} {K:PV→PHeap→Prop} {p p':Int} {n:Nat} {W:List (List Int)} {B:List (List (List Int))} {vP vB vL vU:PV} {s:Nat}
def euc (p a:Int):Nat→Int×Int×Int×Int
 | 0=>(p,a,0,1)
 | k+1=>let t:=euc p a k
  if t.2.1=0 then t else(t.2.1,t.1-t.1.tdiv t.2.1*t.2.1,t.2.2.2,t.2.2.1-t.1.tdiv t.2.1*t.2.2.2)
def eucOK (p a:Int) (k:Nat):Bool:=
 let t:=euc p a k
 decide (-7≤t.1∧t.1≤7∧-7≤t.2.1∧t.2.1≤7∧-7≤t.2.2.1∧t.2.2.1≤7∧-7≤t.2.2.2∧t.2.2.2≤7∧-7≤t.1.tdiv t.2.1∧t.1.tdiv t.2.1≤7∧-49≤t.1.tdiv t.2.1*t.2.1∧t.1.tdiv t.2.1*t.2.1≤49∧-49≤t.1.tdiv t.2.1*t.2.2.2∧t.1.tdiv t.2.1*t.2.2.2≤49∧(k=8→t.2.1=0)∧(t.2.1=0→a*(t.2.2.1 % p) % p=1 % p))
theorem zQl:∀p∈[2,3,5,7],∀a∈[1,2,3,4,5,6],(a:Int)<p→∀k∈[0,1,2,3,4,5,6,7,8],eucOK p a k=true:=by decide +kernel
theorem zRq {a:Int} (hp:isP p) (ha:0<a∧a<p) {k:Nat} (hk:k≤8):eucOK p a k=true:=by
 have hpb:=hp.bd;refine zQl p ?_ a ?_ ha.2 k ?_
 ·rcases hp with h | h | h | h<;>simp [h]
 ·have:a=1∨a=2∨a=3∨a=4∨a=5∨a=6:=by omega
  rcases this with h|h|h|h|h|h<;>simp [h]
 ·have:k=0∨k=1∨k=2∨k=3∨k=4∨k=5∨k=6∨k=7∨k=8:=by omega
  rcases this with h|h|h|h|h|h|h|h|h<;>simp [h]
theorem zHB {a:Int} (hp:isP p) (ha:0<a∧a<p) (hk:∀(x:Int) (b:Bool),0≤x→x<p→a*x % p=1→K (.tup [.int .i64 x,.bool b]) σ):zA Tryz.prog 194 [.int .i64 a,.int .i64 p] σ K:=by
 have hpb:=hp.bd;refine zB mix Tryz.func194 ?_;simp only [pwA,seval,-iQ0];refine zD (fun m vs h'=>∃k:Nat,k≤8∧m=8-k∧vs=[.int .i64 p,.int .i64 (euc p a k).1,.int .i64 (euc p a k).2.1,.int .i64 (euc p a k).2.2.1,.int .i64 (euc p a k).2.2.2]∧σ=h') 8 ?_ ?_
 ·exact⟨0,by omega,by omega,rfl,rfl⟩
 rintro m vs h' ⟨k,hk8,rfl,rfl,rfl⟩
 have hok:=zRq hp ha hk8;unfold eucOK at hok
 have hst:euc p a (k+1)=if (euc p a k).2.1=0 then euc p a k else((euc p a k).2.1,(euc p a k).1-(euc p a k).1.tdiv (euc p a k).2.1*(euc p a k).2.1,(euc p a k).2.2.2,(euc p a k).2.2.1-(euc p a k).1.tdiv (euc p a k).2.1*(euc p a k).2.2.2):=rfl
 generalize hT:euc p a k=T at *
 obtain⟨r,nx,x,y⟩:=T;dsimp only at hok hst ⊢
 simp only [decide_eq_true_eq]at hok
 obtain⟨b1,b2,b3,b4,b5,b6,b7,b8,b9,b10,b11,b12,b13,b14,b15,b16⟩:=hok
 by_cases h0:nx=0
 ·subst h0
  simp only [pwA,seval,-iQ0];refine zKX (by omega) (by omega) ?_
  simp only [pwA,seval,-iQ0];refine hk _ _ (Int.emod_nonneg _ (by omega)) (Int.emod_lt_of_pos _ (by omega)) ?_
  rw [b16 rfl];exact Int.emod_eq_of_lt (by omega) (by omega)
 ·rw [if_neg h0]at hst
  have hk9:k≠8:=fun e=>h0 (b15 e)
  simp only [pwA,seval,-iQ0,h0,wrap64 (n:=r.tdiv nx) (by omega) (by omega),wrap64 (n:=r.tdiv nx*nx) (by omega) (by omega),wrap64 (n:=r.tdiv nx*y) (by omega) (by omega),wrap64 (n:=r-r.tdiv nx*nx) (by omega) (by omega),wrap64 (n:=x-r.tdiv nx*y) (by omega) (by omega)]
  refine⟨_,by omega,k+1,by omega,rfl,?_⟩
  rw [hst]
theorem zCg {l:Nat} {w:Bool} {a:AV} {xs:List Int} (hl:l=xs.length) (hb:xs.length≤1048576) (hk:K (.int .i64 (dep xs)) σ):zA Tryz.prog 193 [.fz w a l (pis xs)] σ K:=by
 subst hl;refine zB mix Tryz.func193 ?_;simp only [pwA,seval,-iQ0];refine zD (fun m vs h'=>∃i:Nat,i≤dep xs∧m=dep xs-i∧vs=[.fz w a xs.length (pis xs),.fz w a xs.length (pis xs),.int .i64 xs.length,.int .i64 i]∧σ=h') (dep xs) ?_ ?_
 ·exact⟨0,by omega,by omega,rfl,rfl⟩
 rintro m vs h' ⟨i,hi,rfl,rfl,rfl⟩
 have hdl:=zBT xs
 by_cases hlt:i<xs.length
 ·by_cases h0:xs[i]=0
  ·have hid:i<dep xs:=by
    rcases Nat.lt_or_ge i (dep xs)with x|x
    ·exact x
    ·have:i=dep xs:=by omega
     subst this;exact absurd (by rw [at_eq hlt];exact h0) (Z4 hlt)
   simp only [pwA,seval,-iQ0,hlt,zL,gi hlt,h0,wrapS hlt (by omega:xs.length≤4611686018427387904)]
   exact⟨_,by omega,i+1,by omega,rfl,rfl⟩
  ·have hid:i=dep xs:=by
    rcases Nat.lt_or_ge i (dep xs)with x|x
    ·exact absurd (by rw [←at_eq hlt];exact qw x) h0
    ·omega
   subst hid;simp only [pwA,seval,-iQ0,hlt,zL,gi hlt,h0];exact hk
 ·have hid:i=dep xs:=by omega
  subst hid;simp only [pwA,seval,-iQ0,hlt];have hd:dep xs=xs.length:=by omega
  rw [hd]at hk
  exact hk
theorem zQF {x:Int} (hk:K (.bool (!decide (x=0))) σ):zA Tryz.prog 214 [.int .i64 x] σ K:=by
 refine zB mix Tryz.func214 ?_;simp only [pwA,seval,-iQ0];exact hk
theorem zRb:okF Tryz.prog 214=true:=by kernel_rfl
theorem zIv {l:Nat} {w:Bool} {a:AV} {xs:List Int} (hl:l=xs.length) (hb:xs.length≤1048576) (hd:dep xs<xs.length) (hk:K (.int .i64 (dep xs)) σ):
  zA Tryz.prog 213 [.fz w a l (pis xs),.clo 214 [] []] σ K:=by
 subst hl;refine zB mix Tryz.func213 ?_;simp only [pwA,seval,-iQ0];refine zD (fun m vs h'=>∃i:Nat,i≤dep xs∧m=dep xs-i∧vs=[.fz w a xs.length (pis xs),.clo 214 [] [],.int .i64 xs.length,.int .i64 i]∧σ=h') (dep xs) ?_ ?_
 ·exact⟨0,by omega,by omega,rfl,rfl⟩
 rintro m vs h' ⟨i,hi,rfl,rfl,rfl⟩
 have hlt:i<xs.length:=by omega
 simp only [pwA,seval,-iQ0,hlt,zL,gi hlt];refine⟨zRb,zQF ?_⟩
 by_cases h0:xs[i]=0
 ·have hid:i<dep xs:=by
   rcases Nat.lt_or_ge i (dep xs)with x|x
   ·exact x
   ·have:i=dep xs:=by omega
    subst this;exact absurd (by rw [at_eq hlt];exact h0) (Z4 hlt)
  simp only [pwA,seval,-iQ0,h0,ne_eq,not_true,decide_false,wrapS hlt (by omega:xs.length≤4611686018427387904)]
  exact⟨_,by omega,i+1,by omega,rfl,rfl⟩
 ·have hid:i=dep xs:=by
   rcases Nat.lt_or_ge i (dep xs)with x|x
   ·exact absurd (by rw [←at_eq hlt];exact qw x) h0
   ·omega
  subst hid;simp only [pwA,seval,-iQ0,h0,ne_eq,not_false_iff,decide_true];exact hk
abbrev deps (u:List (List Int)):List Int:=u.map fun v=>(dep v:Int)
theorem QX {u:List (List Int)} (hL:FII vU u) (hu:∀v∈u,dep v<v.length∧v.length≤1048576) (hul:u.length≤1048576) (hk:∀v,K (.fz true v u.length (pis (deps u))) σ):zA Tryz.prog 180 [vU] σ K:=by
 obtain⟨wl,al,rl,rfl,hrl⟩:=hL;refine zA.gh ?_;refine zB mix Tryz.func180 ?_;simp only [pwA,seval,-iQ0];refine zD (fun m vs h'=>∃(i:Nat) (v:PV),i≤u.length∧m=u.length-i∧vs=[v,.fz wl al u.length rl,.int .i64 u.length,.int .i64 i]∧Keep σ h'∧PAcc σ.next 1 h' v i (pis (deps (u.take i)))) u.length ?_ ?_
 ·exact⟨0,_,by omega,by omega,rfl,Keep.refl σ,PAcc.nil _ _ _⟩
 rintro m vs h' ⟨i,v,hi,rfl,rfl,hkp,ha⟩
 simp only [pwA,seval,-iQ0];refine iteI (fun hlt=>?_) fun hge=>?_
 ·obtain⟨w4,a4,hr⟩:=hrl.rowI hlt
  have hui:=hu _ (List.getElem_mem hlt);simp only [pwA,seval,-iQ0,hlt,hr];refine zIv rfl hui.2 hui.1 ?_;simp only [pwA,seval,-iQ0];refine PAcc.push (bytes:=8) hkp ha (by omega) (by omega) fun v' h2 k2 a2=>?_
  simp only [pwA,seval,-iQ0,wrapS hlt (by omega:u.length≤4611686018427387904)]
  refine⟨_,by omega,i+1,v',by omega,rfl,rfl,k2,?_⟩
  have e:pis (deps (u.take (i+1)))=pis (deps (u.take i))++[.int .i64 (dep u[i])]:=by rw [List.take_succ_eq_append_getElem hlt,deps,List.map_append,←Qd];rfl
  rw [e];exact a2.acc
 ·have hie:i=u.length:=by omega
  subst hie;rw [List.take_length]at ha
  exact ha.fin hkp (zo _ _) hk
end Go.Proofs
namespace Go.Proofs
open Go.Ab Go.Lie
variable {σ:PHeap} {K:PV→PHeap→Prop} {p p':Int} {n:Nat} {W:List (List Int)} {B:List (List (List Int))} {vP vB vL vU:PV} {s:Nat}
def PQ (b:Nat) (h:PHeap) (v:PV) (m:Nat) (cs:List PV):Prop:=
 (v=.fz true .nils 0 []∧m=0∧cs=[])∨∃s off cap row,v=.sl s off m cap∧full 1 cap m∧h.obj s=some row∧(row.drop off).take m=cs∧off+m≤row.length∧b≤s∧s<h.next
theorem PQ.of {b m:Nat} {h:PHeap} {v:PV} {cs:List PV} (a:PAcc b 1 h v m cs):PQ b h v m cs:=by
 rcases a with a|⟨s,cap,rfl,h1,h2,h3,h4,h5⟩
 ·exact .inl a
 ·exact .inr ⟨s,0,cap,cs,rfl,h1,h2,by rw [List.drop_zero,List.take_of_length_le (by omega)],by omega,h4,h5⟩
theorem PQ.set {b m t:Nat} {h:PHeap} {v:PV} {cs:List PV} (a:PQ b h v m cs) (ht:t<b) (ds:List PV):PQ b (h.set t ds) v m cs:=by
 rcases a with a|⟨s,off,cap,row,rfl,h1,h2,h3,h4,h5,h6⟩
 ·exact .inl a
 ·exact .inr ⟨s,off,cap,row,rfl,h1,by rw [zn,if_neg (by omega)];exact h2,h3,h4,h5,h6⟩
theorem PQ.pLen {b m:Nat} {h:PHeap} {v:PV} {cs:List PV} (a:PQ b h v m cs):pLen v=some (.int .i64 m):=by
 rcases a with ⟨rfl,rfl,_⟩|⟨s,off,cap,row,rfl,_⟩<;>rfl
theorem PQ.uncons {b m:Nat} {h:PHeap} {v c:PV} {cs:List PV} (a:PQ b h v m (c::cs)):∃s off cap v',v=.sl s off m cap∧h.rd1 s off=some c∧0<m∧Qi 1 v (some (.int .i64 1)) none none=some v'∧PQ b h v' (m-1) cs:=by
 rcases a with ⟨_,_,e⟩|⟨s,off,cap,row,rfl,h1,h2,h3,h4,h5,h6⟩
 ·cases e
 ·have hm:0<m:=by
   rcases Nat.eq_zero_or_pos m with x|x
   ·subst x;cases h3
   ·exact x
  have e2:row.drop off=c::row.drop (off+1):=by
   have hlt:off<row.length:=by omega
   rw [List.drop_eq_getElem_cons hlt]at h3 ⊢
   obtain⟨m',rfl⟩:∃m',m=m'+1:=⟨m-1,by omega⟩
   rw [List.take_succ_cons]at h3
   cases h3;rfl
  have e3:(row.drop (off+1)).take (m-1)=cs:=by
   rw [e2]at h3
   obtain⟨m',rfl⟩:∃m',m=m'+1:=⟨m-1,by omega⟩
   rw [List.take_succ_cons]at h3
   cases h3;rfl
  have e4:row[off]? = some c:=by
   have hlt:off<row.length:=by omega
   rw [List.drop_eq_getElem_cons hlt]at e2
   rw [List.getElem?_eq_getElem hlt];cases e2;rfl
  have hz:(1:Int)≤(m:Int):=by omega
  rcases h1 with rfl|rfl
  ·refine⟨s,off,_,.sl s (off+1) (m-1) (.grown 1),rfl,by rw [zF h2];exact e4,hm,?_,.inr ⟨s,off+1,_,row,rfl,.inl rfl,h2,e3,by omega,h5,h6⟩⟩
   simp only [pwA,seval,-iQ0,hm,hz]
  ·by_cases h10:m=1
   ·subst h10
    refine⟨s,off,_,.sl s off 0 (.known 0),rfl,by rw [zF h2];exact e4,hm,?_,.inr ⟨s,off,_,row,rfl,.inr rfl,h2,by simpa using e3,by omega,h5,h6⟩⟩
    rfl
   ·refine⟨s,off,_,.sl s (off+1) (m-1) (.known (m-1)),rfl,by rw [zF h2];exact e4,hm,?_,.inr ⟨s,off+1,_,row,rfl,.inr rfl,h2,e3,by omega,h5,h6⟩⟩
    simp only [pwA,seval,-iQ0,hm,hz,h10]
    rfl
theorem PQ.push {σb h:PHeap} {bytes m:Nat} {v x:PV} {cs:List PV} {K:PV×PHeap→Prop} (hk:Keep σb h) (a:PQ σb.next h v m cs)
  (h1:(m+1)*bytes≤140737488355328) (h2:m+1≤4611686018427387904) (k:∀v' h',Keep σb h'→PQ σb.next h' v' (m+1) (cs++[x])→K (v',h')):optK (qo 1 bytes (h.new [x]) v (.sl h.next 0 1 (.known 1))) K:=by
 rcases a with ⟨rfl,rfl,rfl⟩|⟨s,off,cap,row,rfl,q1,q2,q3,q4,q5,q6⟩
 ·exact PAcc.push hk (PAcc.nil _ _ _) h1 h2 fun v' h' k1 k2=>k v' h' k1 (.of k2.acc)
 ·rw [Zw]
  have hp:Zv 1 (h.new [x]) (.sl h.next 0 1 (.known 1)) 1=some [x]:=by simp [QE,Q4]
  have hobj:(h.new [x]).obj s=some row:=by simp only [PHeap.new];rw [if_neg (by omega)];exact q2
  have hn:=hk.next;simp only [plen,Option.bind_some];rw [if_neg (by omega),hp]
  simp only [Option.bind_some];have hl:cs.length=m:=by rw [←q3,List.length_take,List.length_drop];omega
  rcases q1 with rfl|rfl
  ·rw [Qj,if_pos ⟨h1,h2,rfl⟩,hobj]
   simp only [Option.bind_some];rw [if_pos (by omega),Nat.mul_one,q3]
   refine Zb rfl (k _ _ (((hk.new _).kill (by omega)).new _) (.inr ⟨(h.new [x]).next,0,_,cs++[x],rfl,.inl rfl,by simp [PHeap.new,PHeap.kill],?_,by simp [hl],by simp [PHeap.new];omega,by simp [PHeap.new,PHeap.kill]⟩))
   rw [List.drop_zero,List.take_of_length_le (by simp [hl])]
  ·rw [zAc,if_neg (by omega),if_pos ⟨h1,h2⟩,ZB hobj,if_pos (by omega),Nat.mul_one,q3]
   simp only [Option.map_some];refine Zb rfl (k _ _ ((hk.new _).new _) (.inr ⟨(h.new [x]).next,0,_,cs++[x],rfl,.inl rfl,by simp [PHeap.new],?_,by simp [hl],by simp [PHeap.new];omega,by simp [PHeap.new]⟩))
   rw [List.drop_zero,List.take_of_length_le (by simp [hl])]
theorem zNi {w:Bool} {a:AV} {m:Nat} {rows:List PV} (hl:rows.length=m) (hb:Bels 0 rows) (hm:m≤1048576) (hk0:rows=[]→K (.fz true .nils 0 []) σ) (hk1:∀cap,full 1 cap m→K (.sl σ.next 0 m cap) (σ.new rows)):
  zA Tryz.prog 131 [.fz w a m rows] σ K:=by
 refine zA.nil0 fun hnil=>zA.gh ?_
 refine zB mix Tryz.func131 ?_;simp only [pwA,seval,-iQ0];cases hn:Zj a
 ·simp only [pwA,seval,-iQ0]
  refine PSl.cat (bytes:=24) (σb:=σ) (n:=0) (cs:=[]) (zC σ _) (PSl.new _ 1 rfl (Nat.le_refl _)) hl (by omega) (by omega) fun v' h' hk' ha=>?_
  simp only [pwA,seval,-iQ0]at ha ⊢
  exact ha.out hk' (hb.up (Nat.zero_le _)) hk1
 ·simp only [pwA,seval,-iQ0]
  exact Gh.ret (hk0 (hnil hn).2)
theorem zPb {w:Bool} {a:AV} {m:Nat} {rows:List PV} (hl:rows.length=m) (hb:Bels 0 rows) (hm:m≤1048576) (hk:∀v h',Keep σ h'→PQ σ.next h' v m rows→K v h'):
  zA Tryz.prog 131 [.fz w a m rows] σ K:=
 zNi hl hb hm (fun h0=>hk _ _ (Keep.refl _) (.inl ⟨rfl,by rw [←hl,h0];rfl,h0⟩)) fun cap hc=>hk _ _ (zC _ _) (.of (.inr (PSl.own hc (by simp [PHeap.new]) (by omega) (Nat.le_refl _) (by simp [PHeap.new]))))
end Go.Proofs
namespace Go.Proofs
open Go.Ab Go.Lie
variable {σ:PHeap} {K:PV→PHeap→Prop} {p p':Int} {n:Nat} {W:List (List Int)} {B:List (List (List Int))} {vP vB vL vU vV:PV} {s:Nat}
theorem zRc:okF Tryz.prog 133=true:=by kernel_rfl
theorem zIw {xs ys:List (List Int)} (hU:FII vU xs) (hV:FII vV ys) (hx:xs.length≤1048576) (hxl:∀x∈xs,x.length≤1048576) (hk:∀t:Bool,(t=true↔xs=ys)→K (.bool t) σ):
  zA Tryz.prog 212 [vU,vV,.clo 133 [] []] σ K:=by
 have fl:∀{A:Prop},¬A→((false=true)↔A):=fun h=>⟨fun x=>(by cases x),fun x=>absurd x h⟩
 obtain⟨wu,au,ru,rfl,hru⟩:=hU;obtain⟨wv,av,rv,rfl,hrv⟩:=hV;refine zB mix Tryz.func212 ?_
 by_cases hl:xs.length=ys.length
 ·simp only [pwA,seval,-iQ0,hl]
  refine zD (fun m vs h'=>∃i:Nat,i≤ys.length∧m=ys.length-i∧vs=[.fz wv av ys.length rv,.clo 133 [] [],.fz wu au ys.length ru,.int .i64 ys.length,.int .i64 i]∧σ=h'∧xs.take i=ys.take i) ys.length ?_ ?_
  ·exact⟨0,by omega,by omega,rfl,rfl,by simp⟩
  rintro m vs h' ⟨i,hi,rfl,rfl,rfl,heq⟩
  simp only [pwA,seval,-iQ0];refine iteI (fun hlt=>?_) fun hge=>?_
  ·have hlx:i<xs.length:=by omega
   obtain⟨w4,a4,hr⟩:=hru.rowI hlx;obtain⟨w5,a5,hr5⟩:=hrv.rowI hlt;simp only [pwA,seval,-iQ0,hlt,hr,hr5];refine⟨zRc,zBb rfl rfl (by have:=hxl _ (List.getElem_mem hlx);omega) ?_⟩
   by_cases he:xs[i]=ys[i]
   ·simp only [pwA,seval,-iQ0,he,wrapS hlt (by omega:ys.length≤4611686018427387904)]
    exact⟨_,by omega,i+1,by omega,rfl,rfl,zFw hl hlx heq he⟩
   ·simp only [pwA,seval,-iQ0,he]
    refine hk _ (fl fun e=>?_)
    subst e;exact he rfl
  ·have hie:i=ys.length:=by omega
   subst hie;refine hk _ ⟨fun _=>?_,fun _=>rfl⟩
   rw [List.take_of_length_le (by omega),List.take_of_length_le (Nat.le_refl _)]at heq
   exact heq
 ·have hlI:((xs.length:Int)=(ys.length:Int))=False:=by simp;omega
  simp only [pwA,seval,-iQ0,hlI];exact hk _ (fl fun e=>hl (by rw [e]))
theorem zIy {xs ys:List (List Int)} (hU:FII vU xs) (hV:FII vV ys) (hx:xs.length≤1048576) (hxl:∀x∈xs,x.length≤1048576) (hk:∀t:Bool,(t=true↔xs=ys)→K (.bool t) σ):
  zA Tryz.prog 178 [vU,vV] σ K:=by
 refine zB mix Tryz.func178 ?_;simp only [pwA,seval,-iQ0];refine zIw hU hV hx hxl fun t ht=>?_
 simp only [pwA,seval,-iQ0];exact hk t ht
end Go.Proofs
