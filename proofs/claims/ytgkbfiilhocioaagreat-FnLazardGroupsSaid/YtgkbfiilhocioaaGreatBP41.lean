/- Plain law: depths of elements of a Lazard ring; the exponent vector of an element. -/
import Derived.Test.YtgkbfiilhocioaaGreatBP32
import Derived.Test.YtgkbfiilhocioaaGreatBAbPa
import Derived.Test.YtgkbfiilhocioaaGreatBP28
import Derived.Test.YtgkbfiilhocioaaGreatBAbPn
import Derived.Test.YtgkbfiilhocioaaGreatBP34
open Int renaming reduceNatCast'→iQ0
set_option maxRecDepth 100000
set_option linter.unusedSimpArgs false
set_option linter.unusedVariables false
namespace Go.Proofs
open Go.Ab Go.Lie
variable {σ:PHeap} {K:PV→PHeap→Prop} {n:Nat} {p:Int}
theorem u64_and {n:Nat} (hn:n≤6):pbin .and .other (.int .u64 n) (.int .u64 4294967295)=some (.int .u64 n):=by
 have hc:n=0∨n=1∨n=2∨n=3∨n=4∨n=5∨n=6:=by omega
 rcases hc with rfl|rfl|rfl|rfl|rfl|rfl|rfl<;>rfl
theorem zNu {n:Nat} (hn:n≤6):pbin .shr .other (.int .u64 n) (.int .u64 32)=some (.int .u64 0):=by
 have hc:n=0∨n=1∨n=2∨n=3∨n=4∨n=5∨n=6:=by omega
 rcases hc with rfl|rfl|rfl|rfl|rfl|rfl|rfl<;>rfl
theorem zGa {n:Nat} (hn:n≤6):IntKind.u64.wrap (n:Int)=n:=by
 have hc:n=0∨n=1∨n=2∨n=3∨n=4∨n=5∨n=6:=by omega
 rcases hc with rfl|rfl|rfl|rfl|rfl|rfl|rfl<;>rfl
theorem zNn (hn:n≤6) (hk:K (.tup [.int .u64 0,.int .u64 n]) σ):zA Tryz.prog 318 [.int .u64 1,.int .u64 n] σ K:=by
 have a1:pbin .and .other (.int .u64 1) (.int .u64 4294967295)=some (.int .u64 1):=rfl;have a0:pbin .and .other (.int .u64 0) (.int .u64 4294967295)=some (.int .u64 0):=rfl;have s1:pbin .shr .other (.int .u64 1) (.int .u64 32)=some (.int .u64 0):=rfl;have s0:pbin .shr .other (.int .u64 0) (.int .u64 32)=some (.int .u64 0):=rfl;have w0:IntKind.u64.wrap 0=0:=rfl;refine zC mix Tryz.func318 ?_
 conv=>arg 2;cbv
 refine zF rfl ?_;simp only [pwA,seval,-iQ0,a1,a0,s1,s0,u64_and hn,zNu hn,zGa hn,w0,Int.one_mul,Int.zero_mul,Int.mul_zero,Int.add_zero];exact hk
theorem zPf (hn:n≤6) (hk:K (.tup [.int .u64 0,.int .u64 n]) σ):zA Tryz.prog 278 [.int .u64 1,.int .u64 n] σ K:=by
 refine zC mix Tryz.func278 ?_
 conv=>arg 2;cbv
 refine zF rfl ?_;simp only [pwA,seval,-iQ0];refine zNn hn ?_;simp only [pwA,seval,-iQ0];exact hk
def fillR (p:Int) (n d:Nat):List Int:=List.replicate d p++List.replicate (n-d) 0
theorem zCk {d:Nat} (hd:d≤n):(fillR p n d).length=n:=by simp [fillR];omega
theorem zG2 {h:PHeap} {o d m len:Nat} {c1:Cap} {x:PV} {cs:List PV} (hx:plen x=some m) (hm:min m len≠0) (hf:Zx 1 h x (min m len)=some cs) {h':PHeap} (hw:h.wr o d cs=some h'):pcopy 1 h (.sl o d len c1) x=some (.int .i64 (min m len:Nat),h'):=by
 unfold pcopy;rw [show plen (.sl o d len c1)=some len from rfl,hx]
 simp only [Option.bind_some];rw [if_neg hm];simp only [hf,Option.bind_some,hw,Option.map_some]
theorem zME {d m:Nat} (hd:d+m≤n) (hm:m≤d):(pis (fillR p n d)).take d++(pis (fillR p n d)).take m++(pis (fillR p n d)).drop (d+m)=pis (fillR p n (d+m)):=by
 unfold fillR pis;simp only [←List.map_take,←List.map_drop,←List.map_append]
 congr 1
 refine List.ext_getElem (by simp;omega) fun i h1 h2=>?_
 simp only [List.getElem_append,List.getElem_take,List.getElem_drop,List.getElem_replicate,List.length_append,List.length_take,List.length_replicate]
 repeat' split
 all_goals first | rfl | (exfalso;simp at *;omega) | omega
theorem zMW {w:Bool} {a:AV} {l:Nat} (hl:l=1) (hn:n≤6) (hk:∀v,FI v (List.replicate n p)→K v σ):zA Tryz.prog 190 [.fz w a l (pis [p]),.int .i64 n] σ K:=by
 subst hl;have c1:IntKind.u64.wrap ((1:Nat):Int)=1:=rfl;have hneg:¬(n:Int)<0:=by omega
 have hbig:¬(n:Int) > 9223372036854775807:=by omega
 refine zA.gh ?_;refine zC mix Tryz.func190 ?_
 conv=>arg 2;cbv
 refine zF rfl ?_;simp only [pwA,seval,-iQ0,hneg,c1,zGa hn];refine zPf hn ?_;have w64:IntKind.i64.wrap (n:Int)=n:=wrap64 (by omega) (by omega)
 simp only [pwA,seval,-iQ0,hbig,w64,mk8 (n:=n) (by omega),mkL (n:=n) (by omega)]
 have fin:∀{h:PHeap},h=σ.new (pis (List.replicate n p))→Gh σ K (.sl σ.next 0 n (.known n)) h:=fun {h} e=>by
  subst e;exact Gh.finF (cs:=pis (List.replicate n p)) (zD σ _) (by simp only [pwA,seval,-iQ0]) (Nat.le_refl _) (zM _ _) (by simp [capOK]) fun o=>hk _ ⟨true,.sl o 0 n (.known n),by simp⟩
 rcases Nat.eq_zero_or_pos n with rfl|hpos
 ·have hc:pcopy 1 (σ.new []) (PV.sl σ.next 0 0 (Cap.known 0)) (PV.fz w a 1 (pis [p]))=some (.int .i64 0,σ.new []):=rfl
  simp only [pwA,seval,-iQ0,hc];refine zG (fun m us h'=>m=0∧us=[.sl σ.next 0 0 (.known 0),.int .i64 0]∧h'=σ.new []) 0 ⟨rfl,rfl,rfl⟩ ?_
  rintro m us h' ⟨rfl,rfl,rfl⟩
  simp only [pwA,seval,-iQ0];exact fin rfl
 have hc:pcopy 1 (σ.new (List.replicate n (PV.int IntKind.i64 0))) (PV.sl σ.next 0 n (Cap.known n)) (PV.fz w a 1 (pis [p]))=some (.int .i64 1,σ.new (pis (fillR p n 1))):=by
  refine(zG2 (m:=1) (len:=n) rfl (by rw [Nat.min_eq_left hpos];decide) (cs:=pis [p]) (by rw [Nat.min_eq_left hpos];rfl) (h':=σ.new (pis (fillR p n 1))) ?_).trans (by rw [Nat.min_eq_left hpos];rfl)
  have ho:(σ.new (List.replicate n (PV.int IntKind.i64 0))).obj σ.next=some (List.replicate n (PV.int IntKind.i64 0)):=by simp only [pwA,seval,-iQ0]
  rw [zq ho,if_pos ⟨by rw [List.length_replicate];show 0+1≤n;omega,rfl⟩]
  congr 1
  simp only [PHeap.set,PHeap.new,PHeap.mk.injEq,true_and]
  funext t
  split
  ·simp [fillR,pis,hpos]
  ·rfl
 simp only [pwA,seval,-iQ0,hc];refine zG (fun m us h'=>∃d:Nat,m=n-d∧us=[.sl σ.next 0 n (.known n),.int .i64 d]∧1≤d∧d≤n∧h'=σ.new (pis (fillR p n d))) (n-1) ⟨1,rfl,rfl,by omega,hpos,rfl⟩ ?_
 rintro m us h' ⟨d,rfl,rfl,hd1,hdn,rfl⟩
 simp only [pwA,seval,-iQ0];refine iteI (fun hlt=>?_) fun hge=>?_
 rotate_left
 ·refine fin ?_
  rw [show d=n by omega];simp [fillR]
 have hlt':d<n:=by omega
 have ps1:ZT 1 (.sl σ.next 0 n (.known n)) (some (.int .i64 d)) none none=some (.sl σ.next d (n-d) (.known (n-d))):=by
  have h1:(0:Int)≤(d:Int)∧(d:Int)≤(n:Int):=by omega
  have h2:¬n=d:=by omega
  have h3:d≤n:=by omega
  simp [ZT,zY,ZU,h1,h2,h3]
 have ps2:ZT 1 (.sl σ.next 0 n (.known n)) none (some (.int .i64 d)) none=some (.sl σ.next 0 d (.known n)):=by
  have h1:(0:Int)≤(d:Int)∧(d:Int)≤(n:Int):=by omega
  have h2:d≤n:=by omega
  have h3:¬n=0:=by omega
  simp [ZT,zY,ZU,h1,h2,h3]
 have ho:(σ.new (pis (fillR p n d))).obj σ.next=some (pis (fillR p n d)):=by simp only [pwA,seval,-iQ0]
 have hcp:pcopy 1 (σ.new (pis (fillR p n d))) (.sl σ.next d (n-d) (.known (n-d))) (.sl σ.next 0 d (.known n))=some (.int .i64 (min d (n-d):Nat),σ.new (pis (fillR p n (d+min d (n-d))))):=by
  refine zG2 (m:=d) (len:=n-d) rfl (by rw [Nat.min_def];split<;>omega) (cs:=(pis (fillR p n d)).take (min d (n-d))) ?_ ?_
  ·rw [zAK,if_neg (by omega),if_pos (by omega),zh ho,if_pos (by rw [zK,zCk (by omega)];omega)];simp
  ·rw [zq ho,if_pos ⟨by rw [List.length_take,zK,zCk (by omega)];omega,by simp [List.all_eq_true,pis];intro x hx;obtain⟨y,_,rfl⟩:=List.mem_map.1 (List.mem_of_mem_take hx);rfl⟩]
   congr 1
   have e:=zME (p:=p) (n:=n) (d:=d) (m:=min d (n-d)) (by omega) (by omega)
   have hl:((pis (fillR p n d)).take (min d (n-d))).length=min d (n-d):=by rw [List.length_take,zK,zCk (by omega)];omega
   rw [hl,e];simp only [PHeap.set,PHeap.new,PHeap.mk.injEq,true_and]
   funext t
   split<;>rfl
 have ew:IntKind.i64.wrap ((d:Int)+((min d (n-d):Nat):Int))=((d+min d (n-d):Nat):Int):=by rw [wrap64 (by omega) (by omega)];omega
 have hdle:d≤n:=by omega
 have hnd:¬n=d:=by omega
 have hn0:¬n=0:=by omega
 simp only [pwA,seval,-iQ0,hdle,hnd,hn0,hcp,ew,Nat.sub_zero,Option.isNone_none,Option.isSome_none,Option.isNone_some,Option.isSome_some,Bool.false_eq_true,and_false,false_and,if_false];have hmin:1≤min d (n-d)∧min d (n-d)≤n-d:=by rw [Nat.min_def];split<;>omega
 exact⟨_,by omega,d+min d (n-d),rfl,rfl,by omega,by omega,rfl⟩
end Go.Proofs
namespace Go.Proofs
open Go.Ab Go.Lie
variable {σ:PHeap} {K:PV→PHeap→Prop} {p p':Int} {n:Nat} {W:List (List Int)} {B:List (List (List Int))} {vP vB vL vU vV:PV} {s:Nat}
theorem zA.fzITx {P:Program} {f:FuncId} {args:List PV} {D:List Int→Prop} (c:∀K':PV→PHeap→Prop,(∀z,D z→ResI σ K' z)→zA P f args σ K') (k:∀z v t,D z→FI v z→Own σ.top t v→σ.top≤t→K v (σ.up t)):zA P f args σ K:=
 zA.gh (c _ fun z hz=>⟨fun h0=>by subst h0;exact Gh.ret (k _ _ σ.top hz ⟨true,.nils,rfl⟩ (Own.empty _ _ _ _ _) (Nat.le_refl _)),fun cap hc=>Gh.own (zD σ _) (by simp [PHeap.new]) (Nat.le_refl _) (zM _ _) hc.ok (Owns.pis _ _ _) fun o t h1 h2=>k _ _ t hz ⟨true,_,rfl⟩ h1 h2⟩)
theorem zCH {l:Nat} {w:Bool} {av:AV} {k:Int} {x:List Int} (hs:PtrR σ s p vP vB) (hP:FII vP W) (o:OkW p n W) (hpow:ipow p n≤729) (hx:El p n x) (hl:l=x.length)
  (hk:∀z,DivL p n W k x z→ResI σ K z):zA Tryz.prog 292 [.ptr s 0,.fz w av l (pis x),.int .i64 k] σ K:=by
 have hn6:=o.le;have hpr:=o.pr;have hxl:=hx.1;have hp0:σ.rd1 s 0=some (.int .i64 p):=by rw [zI hs.obj];rfl
 subst hl;refine zC mix Tryz.func292 ?_
 conv=>arg 2;cbv
 refine zF rfl ?_;simp only [pwA,seval,-iQ0];refine ZV rfl (by omega) ?_
 by_cases hz:isZ x
 ·simp only [pwA,seval,-iQ0,hz,decide_true]
  have hd:DivL p n W k x x:=⟨hx,fun _=>rfl,fun _=>by
   refine Eqv.of_eq fun j=>?_
   rw [ZW hz,Int.mul_zero]⟩
  refine Zw rfl (by omega) ⟨fun h0=>?_,fun cap hc=>?_⟩
  ·simp only [pwA,seval,-iQ0]
   exact(hk x hd).1 h0
  ·simp only [pwA,seval,-iQ0]
   exact(hk x hd).2 cap hc
 ·have hn:0<n:=by
   rcases Nat.eq_zero_or_pos n with h|h
   ·exact absurd (by rw [List.eq_nil_of_length_eq_zero (hxl.trans h)];intro y hy;cases hy) hz
   ·exact h
  have hm1:2≤ipow p n:=by
   obtain⟨n',rfl⟩:∃n',n=n'+1:=⟨n-1,by omega⟩
   have h1:∀k:Nat,1≤ipow p k:=fun k=>by
    induction k with
    | zero=>simp [ipow]
    | succ k ih=>
     have:=Int.mul_le_mul_of_nonneg_left (show(1:Int)≤p by have:=hpr.1;omega) (show 0≤ipow p k by omega)
     rw [ipow];omega
   have:=Int.mul_le_mul_of_nonneg_left (show(2:Int)≤p from hpr.1) (show 0≤ipow p n' by have:=h1 n';omega)
   have:=h1 n'
   rw [ipow];omega
  simp only [pwA,seval,-iQ0,hz,decide_false,hp0,hxl];refine zBF hpr hn6 ?_;simp only [pwA,seval,-iQ0];refine zBp (by omega) (by omega) ?_
  simp only [pwA,seval,-iQ0];refine zIz (Int.emod_nonneg _ (by omega)) (Int.emod_lt_of_pos _ (by omega)) (by omega) fun y yb h1 h2 h3=>?_
  simp only [pwA,seval,-iQ0];have hd:DivL p n W k x (lmul p W y x):=DivL.mk' o hx hz (m:=ipow p n) (by
   rw [zBe];exact QX o fun j hj=>hx.beyond hj) fun hc=>by
    obtain⟨z,w',hzw⟩:=zAk hc hn;rw [←zBe]at hzw
    have em:=Int.mul_ediv_add_emod k (ipow p n);obtain⟨t,ht⟩:=h3 ⟨z,w'-k / ipow p n*z,by grind⟩
    exact⟨t+k / ipow p n*y,by grind⟩
  refine zBL hs hP o hx hxl.symm (by omega) ⟨fun h0=>?_,fun cap hc=>?_⟩
  ·simp only [pwA,seval,-iQ0]
   exact(hk _ hd).1 h0
  ·simp only [pwA,seval,-iQ0]
   exact(hk _ hd).2 cap hc
theorem CodeL.zero {xs:List (List Int)} (h:CodeL p W B xs 0):(isLie p W B∧Els p W.length xs)∧isLz p W.length W B:=by
 rcases h with ⟨_,h⟩|⟨_,_,h⟩|⟨h1,h2,_⟩
 ·omega
 ·omega
 ·exact⟨h1,h2⟩
theorem zAh {v:PV} {x:List Int} {w:Bool} {a:AV} (hx:FI v x):FII (.fz w a 1 [v]) [x]:=⟨w,a,[v],rfl,by simpa using (All2.nil _).snoc hx⟩
theorem zFC {v u:PV} {x y:List Int} {w:Bool} {a:AV} (hx:FI v x) (hy:FI u y):FII (.fz w a 2 [v,u]) [x,y]:=⟨w,a,[v,u],rfl,by simpa using ((All2.nil _).snoc hx).snoc hy⟩
theorem SzL.one {x:List Int} (h:x.length≤1048576):SzL [x]:=⟨by simp,fun y hy=>by rw [List.mem_singleton.1 hy];exact h⟩
theorem SzL.two {x y:List Int} (h:x.length≤1048576) (g:y.length≤1048576):SzL [x,y]:=⟨by simp,fun z hz=>by simp at hz;rcases hz with rfl | rfl<;>assumption⟩
end Go.Proofs
namespace Go.Proofs
open Go.Ab Go.Lie
variable {p:Int} {n:Nat} {W:List (List Int)} {B:List (List (List Int))} {c k:Nat} {f g:Vec}
def Lw (p:Int) (n:Nat) (W:List (List Int)) (B:List (List (List Int))) (k:Nat) (f:Vec):Prop:=∃u,Low p n W B k u∧Gen p n W u f
structure Rg (p:Int) (n:Nat) (W:List (List Int)) (B:List (List (List Int))) (c:Nat):Prop where
 o:OkW p n W
 q:OkB p n B
 nf:qx p W B n
 cls:Cls p n W B c
theorem zHC:∀{m:Nat} {u:List (List Int)},Low p n W B m u→∀k,k≤m→∃v,Low p n W B k v
 | 0,u,h,k,hk=>by
  have:k=0:=by omega
  subst this;exact⟨u,h⟩
 | m+1,u,h,k,hk=>by
  by_cases e:k=m+1
  ·subst e;exact⟨u,h⟩
  ·cases h with
   | succ h hc=>exact zHC h k (by omega)
theorem Rg.low (r:Rg p n W B c) (k:Nat):∃u,Low p n W B k u:=by
 rcases Nat.le_total k c with x|x
 ·exact zHC r.cls.1 k x
 ·obtain⟨u,⟨h,_⟩ | h⟩:=zJa r.o r.q r.cls k
  ·exact⟨u,h⟩
  ·exact⟨[],by omega⟩
theorem Rg.sub (r:Rg p n W B c) (k:Nat):IsSub p n W (Lw p n W B k):=by
 obtain⟨u,hu⟩:=r.low k;have hs:=zU (p:=p) (n:=n) (W:=W) u;have e:∀{f:Vec},Lw p n W B k f→Gen p n W u f:=fun {f} ⟨v,hv,hg⟩=>by rw [hu.unique r.o hv];exact hg
 exact⟨⟨u,hu,hs.zero⟩,fun f g a b=>⟨u,hu,hs.add _ _ (e a) (e b)⟩,fun k f a=>⟨u,hu,hs.mul _ _ (e a)⟩,fun f g a b=>⟨u,hu,hs.eqv _ _ a (e b)⟩⟩
theorem Rg.all (r:Rg p n W B c) {x:List Int} (hx:El p n x):Lw p n W B 0 (at_ x):=⟨_,.zero,zF1 r.o hx⟩
theorem Rg.brk (r:Rg p n W B c) (hf:Lw p n W B k f) (g:Vec):Lw p n W B (k+1) (brv B n f g):=by
 obtain⟨u,hu,hg⟩:=hf;obtain⟨v,hv⟩:=r.low (k+1);cases hv with
 | succ h hc=>
  rw [h.unique r.o hu]at hc
  exact⟨v,.succ hu hc,zOU r.o r.q r.nf hc hg g⟩
theorem Rg.brk2 (r:Rg p n W B c) (hg:Lw p n W B k g) (f:Vec):Lw p n W B (k+1) (brv B n f g):=
 (r.sub _).eqv _ _ (Eqv.of_eq fun t=>zV f g t) ((r.sub _).mul (-1) _ (r.brk hg f))
theorem Rg.top (r:Rg p n W B c) (hk:c≤k) (hf:Lw p n W B k f):Eqv p n W f fun _=>0:=by
 obtain⟨u,hu,hg⟩:=hf;obtain⟨v,⟨hv,h0⟩|h⟩:=zJa r.o r.q r.cls k
 ·rw [hu.unique r.o hv,h0 hk]at hg
  exact zOc hg
 ·omega
theorem Rg.down (r:Rg p n W B c):∀{k:Nat} {f:Vec},Lw p n W B (k+1) f→Lw p n W B k f
 | 0,f,⟨u,hu,hg⟩=>⟨_,.zero,Zo (fun v hv=>zF1 r.o ((hu.els r.o).1 v hv)) hg⟩
 | k+1,f,⟨u,hu,hg⟩=>by
  cases hu with
  | succ h hc=>
   rename_i w
   refine zHV (r.sub (k+1)) (fun v hv=>?_) ((hc.gen f).2 hg)
   obtain⟨x,hx,hv⟩:=List.mem_flatMap.1 hv;obtain⟨e,he,rfl⟩:=List.mem_map.1 hv;exact(r.sub _).eqv _ _ (Zl r.o r.q x e) (r.brk (r.down ⟨w,h,ze hx⟩) (at_ e))
theorem Rg.le (r:Rg p n W B c) {j k:Nat} (h:j≤k) {f:Vec} (hf:Lw p n W B k f):Lw p n W B j f:=by
 induction k with
 | zero=>
   have:j=0:=by omega
   subst this;exact hf
 | succ k ih=>
  by_cases e:j=k+1
  ·subst e;exact hf
  ·exact ih (by omega) (r.down hf)
theorem Rg.zero (r:Rg p n W B c) (hk:c≤k) {z:List Int} (hz:El p n z) (hf:Lw p n W B k (at_ z)):isZ z:=ZZ r.o hz (r.top hk hf)
theorem Rg.bL (r:Rg p n W B c) {x y:List Int} (hf:Lw p n W B k (at_ x)):Lw p n W B (k+1) (at_ (br p W B n x y)):=(r.sub _).eqv _ _ (Zl r.o r.q x y) (r.brk hf _)
theorem Rg.bR (r:Rg p n W B c) {x y:List Int} (hf:Lw p n W B k (at_ y)):Lw p n W B (k+1) (at_ (br p W B n x y)):=(r.sub _).eqv _ _ (Zl r.o r.q x y) (r.brk2 hf _)
theorem Rg.addL (r:Rg p n W B c) {x y:List Int} (hx:El p n x) (hy:El p n y) (h1:Lw p n W B k (at_ x)) (h2:Lw p n W B k (at_ y)):Lw p n W B k (at_ (ladd p W x y)):=(r.sub _).eqv _ _ (ql r.o hx hy) ((r.sub _).add _ _ h1 h2)
theorem Rg.mulL (r:Rg p n W B c) {x:List Int} (hx:El p n x) (m:Int) (h1:Lw p n W B k (at_ x)):Lw p n W B k (at_ (lmul p W m x)):=(r.sub _).eqv _ _ (qP r.o hx m) ((r.sub _).mul m _ h1)
def ZB (p:Int) (W:List (List Int)) (B:List (List (List Int))) (n:Nat) (x y:List Int):List Int:=ladd p W (br p W B n x (br p W B n x y)) (br p W B n y (lmul p W (-1) (br p W B n x y)))
theorem Zb (o:OkW p n W) (q:OkB p n B) {x y:List Int}:El p n (ZB p W B n x y):=zJ o (br_el o q) (br_el o q)
theorem Rg.thd (r:Rg p n W B c) {x y:List Int} (hf:Lw p n W B k (at_ (br p W B n x y))):Lw p n W B (k+1) (at_ (ZB p W B n x y)):=
 r.addL (br_el r.o r.q) (br_el r.o r.q) (r.bR hf) (r.bR (r.mulL (br_el r.o r.q) (-1) hf))
theorem zFg {p:Int} (hp:isP p) (h:p≠2):Cop p 2∧Cop p (-2):=by
 rcases hp with rfl|rfl|rfl|rfl
 ·exact absurd rfl h
 ·exact⟨⟨2,1,by decide⟩,⟨1,-1,by decide⟩⟩
 ·exact⟨⟨3,1,by decide⟩,⟨2,-1,by decide⟩⟩
 ·exact⟨⟨4,1,by decide⟩,⟨3,-1,by decide⟩⟩
theorem zE0 {p:Int} (hp:isP p) (h:p≠2) (h3:p≠3):Cop p 12∧Cop p (-12):=by
 rcases hp with rfl|rfl|rfl|rfl
 ·exact absurd rfl h
 ·exact absurd rfl h3
 ·exact⟨⟨3,7,by decide⟩,⟨2,-5,by decide⟩⟩
 ·exact⟨⟨3,5,by decide⟩,⟨4,-7,by decide⟩⟩
theorem Rg.two (r:Rg p n W B c) (hp:isP p) (hc:(c:Int)<p) {z:List Int} (hz:El p n z) (h:Lw p n W B 1 (at_ z)):isZ z∨(Cop p 2∧Cop p (-2)):=by
 by_cases h2:p=2
 ·exact .inl (r.zero (by omega) hz h)
 ·exact .inr (zFg hp h2)
theorem Rg.twelve (r:Rg p n W B c) (hp:isP p) (hc:(c:Int)<p) {z:List Int} (hz:El p n z) (h:Lw p n W B 2 (at_ z)):isZ z∨(Cop p 12∧Cop p (-12)):=by
 by_cases h2:p=2
 ·exact .inl (r.zero (by omega) hz h)
 ·by_cases h3:p=3
  ·exact .inl (r.zero (by omega) hz h)
  ·exact .inr (zE0 hp h2 h3)
noncomputable def dv (p:Int) (n:Nat) (W:List (List Int)) (k:Int) (x:List Int):List Int:=Classical.epsilon (DivL p n W k x)
theorem dv_eq (o:OkW p n W) {k:Int} {x z:List Int} (hx:El p n x) (h:DivL p n W k x z) (hk:isZ x∨Cop p k):z=dv p n W k x:=
 h.unique o hx (Classical.epsilon_spec ⟨z,h⟩) hk
theorem zPW (o:OkW p n W) {k:Int} {x:List Int} (hx:El p n x):∃z,DivL p n W k x z:=by
 by_cases hz:isZ x
 ·exact⟨x,hx,fun _=>rfl,fun _=>Eqv.of_eq fun j=>by rw [ZW hz,Int.mul_zero]⟩
 ·by_cases hc:Cop p k
  ·have hn:0<n:=by
    rcases Nat.eq_zero_or_pos n with h|h
    ·exact absurd (by rw [List.eq_nil_of_length_eq_zero (hx.1.trans h)];intro y hy;cases hy) hz
    ·exact h
   obtain⟨y,w,hy⟩:=zAk hc hn;exact⟨_,DivL.mk' o hx hz (y:=y) (QX o fun j hj=>hx.beyond hj) fun _=>⟨w,hy⟩⟩
  ·exact⟨x,hx,fun h=>absurd h hz,fun h=>absurd h hc⟩
theorem Z4 (o:OkW p n W) {k:Int} {x:List Int} (hx:El p n x):DivL p n W k x (dv p n W k x):=Classical.epsilon_spec (zPW o hx)
theorem dv_el (o:OkW p n W) {k:Int} {x:List Int} (hx:El p n x):El p n (dv p n W k x):=(Z4 o hx).el
theorem zEy (o:OkW p n W) {S:Vec→Prop} (hs:IsSub p n W S) {k:Int} {x z:List Int} (h:DivL p n W k x z) (hk:isZ x∨Cop p k) (hx:S (at_ x)):S (at_ z):=by
 rcases hk with hz|hc
 ·rw [h.nil hz];exact hx
 ·rcases Nat.eq_zero_or_pos n with hn | hn
  ·refine hs.eqv _ _ (Eqv.of_eq fun j=>?_) hs.zero
   exact h.el.beyond (by omega)
  ·obtain⟨a,w,ha⟩:=zAk (p:=p) hc hn
   have k1:=(QX o (f:=at_ z) (fun j hj=>h.el.beyond hj)).mul w
   have k2:=(Eqv.refl (p:=p) (n:=n) (W:=W) (at_ z)).add k1;refine hs.eqv _ _ ?_ (hs.mul a _ hx);refine(((Eqv.of_eq fun j=>?_).trans k2.symm).trans (Eqv.of_eq fun j=>?_)).trans ((h.eqv hc).mul a)
   ·omega
   ·grind
noncomputable def bch (p:Int) (n:Nat) (W:List (List Int)) (B:List (List (List Int))) (x y:List Int):List Int:=
 ladd p W (ladd p W (ladd p W x y) (dv p n W 2 (br p W B n x y))) (dv p n W 12 (ZB p W B n x y))
theorem ZP (o:OkW p n W) (q:OkB p n B) {x y:List Int} (hx:El p n x) (hy:El p n y):El p n (bch p n W B x y):=
 zJ o (zJ o (zJ o hx hy) (dv_el o (br_el o q))) (dv_el o (Zb o q))
noncomputable def fold (p:Int) (n:Nat) (W:List (List Int)) (B:List (List (List Int))) (xs:List (List Int)):List Int:=xs.foldl (bch p n W B) (List.replicate n 0)
theorem zF3 (xs:List (List Int)) {i:Nat} (hi:i<xs.length):fold p n W B (xs.take (i+1))=bch p n W B (fold p n W B (xs.take i)) xs[i]:=by
 unfold fold;rw [List.take_succ_eq_append_getElem hi,List.foldl_append]
 rfl
theorem Q9 (o:OkW p n W) (q:OkB p n B):∀{xs:List (List Int)},Els p n xs→El p n (fold p n W B xs):=by
 have:∀(xs:List (List Int)) (a:List Int),Els p n xs→El p n a→El p n (xs.foldl (bch p n W B) a):=by
  intro xs
  induction xs with
  | nil=>exact fun a _ ha=>ha
  | cons x xs ih=>exact fun a hx ha=>ih _ (fun y hy=>hx y (by simp [hy])) (ZP o q ha (hx x (by simp)))
 exact fun {xs} h=>this xs _ h (ZH o.pr)
noncomputable def comm (p:Int) (n:Nat) (W:List (List Int)) (B:List (List (List Int))) (x y:List Int):List Int:=fold p n W B [lmul p W (-1) x,lmul p W (-1) y,x,y]
theorem Rg.brD (r:Rg p n W B c) {x y:List Int} (hx:El p n x):Lw p n W B 1 (at_ (br p W B n x y)):=r.bL (r.all hx)
theorem Rg.of_lie (hl:isLie p W B) (hz:isLz p W.length W B):∃c,Rg p W.length W B c∧(c:Int)<p:=by
 obtain⟨c,hc,hp⟩:=hz;exact⟨c,⟨hl.1.w,hl.1.b,hl.2,hc⟩,hp⟩
end Go.Proofs
namespace Go.Proofs
open Go.Ab Go.Lie
variable {σ:PHeap} {K:PV→PHeap→Prop} {p:Int} {n c:Nat} {W:List (List Int)} {B:List (List (List Int))} {vP vB vL:PV} {s:Nat} {x y:List Int} {vx vy:PV}
structure Lz (p:Int) (n:Nat) (W:List (List Int)) (B:List (List (List Int))) (c:Nat):Prop where
 r:Rg p n W B c
 hp:isP p
 hc:(c:Int)<p
 pow:ipow p n≤729
theorem Lz.of (hl:isLie p W B) (hz:isLz p W.length W B):∃c,Lz p W.length W B c:=by
 obtain⟨c,r,hc⟩:=Rg.of_lie hl hz;exact⟨c,r,hl.1.1,hc,hl.1.2.2.2.1⟩
theorem Lz.d2 (z:Lz p n W B c) (hx:El p n x):isZ (br p W B n x y)∨Cop p 2:=(z.r.two z.hp z.hc (br_el z.r.o z.r.q) (z.r.brD hx)).imp id (·.1)
theorem Lz.d12 (z:Lz p n W B c) (hx:El p n x):isZ (ZB p W B n x y)∨Cop p 12:=(z.r.twelve z.hp z.hc (Zb z.r.o z.r.q) (z.r.thd (z.r.brD hx))).imp id (·.1)
theorem zKl (z:Lz p n W B c) (hs:PtrR σ s p vP vB) (hR:IsR vP vB W B) (hx:El p n x) (hy:El p n y) (hvx:FI vx x) (hvy:FI vy y)
  (hk:∀a v1 v2 v3 t,FI v1 (ladd p W x y)→FI v2 (dv p n W 2 (br p W B n x y))→FI v3 (dv p n W 12 (ZB p W B n x y))→Own σ.top t (.fz true a 3 [v1,v2,v3])→σ.top≤t→K (.fz true a 3 [v1,v2,v3]) (σ.up t)):
  zA Tryz.prog 220 [.ptr s 0,vx,vy] σ K:=by
 have o:=z.r.o;have q:=z.r.q;have hxl:=hx.1;have hyl:=hy.1;obtain⟨wx,ax,rfl⟩:=hvx;obtain⟨wy,ay,rfl⟩:=hvy;refine zA.gh ?_;have bel:=br_el o q (a:=x) (b:=y);refine zC mix Tryz.func220 ?_
 conv=>arg 2;cbv
 refine zF rfl ?_;simp only [pwA,seval,-iQ0];refine qd hs hR o q hx hy rfl rfl fun v1=>?_
 simp only [pwA,seval,-iQ0];refine qd hs hR o q hx bel rfl bel.1.symm fun v2=>?_
 simp only [pwA,seval,-iQ0];refine Zy hs hR.P o bel bel.1.symm (by decide) fun v3=>?_
 have m1:El p n (lmul p W (-1) (br p W B n x y)):=zJ o bel bel;simp only [pwA,seval,-iQ0];refine qd hs hR o q hy m1 rfl m1.1.symm fun v4=>?_
 simp only [pwA,seval,-iQ0];have e2:El p n (br p W B n x (br p W B n x y)):=br_el o q;have e4:El p n (br p W B n y (lmul p W (-1) (br p W B n x y))):=br_el o q;refine Qi hs hR.P o e2 e4 e2.1.symm e4.1.symm fun v5=>?_
 simp only [pwA,seval,-iQ0];refine zA.fzIT (fun K'=>zCy hs hR.P o hx hy rfl rfl) fun w1 t1 f1 o1 ht1=>?_
 have hs1:PtrR (σ.up t1) s p vP vB:=⟨hs.obj,hs.lt⟩;simp only [pwA,seval,-iQ0];refine zA.fzITx (fun K'=>zCH hs1 hR.P o z.pow bel bel.1.symm) fun z2 w2 t2 d2 f2 o2 ht2=>?_
 have hs2:PtrR (σ.up t2) s p vP vB:=⟨hs.obj,hs.lt⟩;simp only [pwA,seval,-iQ0];have te:=Zb o q (x:=x) (y:=y);refine zA.fzITx (fun K'=>zCH hs2 hR.P o z.pow (x:=ZB p W B n x y) te te.1.symm) fun z3 w3 t3 d3 f3 o3 ht3=>?_
 rw [dv_eq o bel d2 (z.d2 hx)]at f2
 rw [dv_eq o te d3 (z.d12 hx)]at f3
 simp only [zJG]at o2 ht2 o3 ht3
 simp only [pwA,seval,-iQ0,f1.cells,f1.one,f2.cells,f2.one,f3.cells,f3.one];have hoo:=(((Owns.nil σ.top σ.top).snoc o1 (Nat.le_refl _) ht1).snoc o2 ht1 ht2).snoc o3 (Nat.le_trans ht1 ht2) ht3;exact Gh.own (cs:=[w1,w2,w3]) ((Keep.refl σ).new _ |>.up (by simp only [zGq];omega)) (by simp only [pwA,seval,-iQ0]) (Nat.le_refl _) ⟨f1.bel 0,f2.bel 0,f3.bel 0,trivial⟩ (by simp [capOK]) (hoo.mono (Nat.le_refl _) (Nat.le_refl _)) fun o4 t4 h1 h2=>hk _ w1 w2 w3 t4 f1 f2 f3 h1 h2
theorem zI6 (z:Lz p n W B c) (hs:PtrR σ s p vP vB) (hR:IsR vP vB W B) (hx:El p n x) (hy:El p n y) (hvx:FI vx x) (hvy:FI vy y)
  (hk:∀a v1 v2 v3,FI v1 (ladd p W x y)→FI v2 (dv p n W 2 (br p W B n x y))→FI v3 (dv p n W 12 (ZB p W B n x y))→K (.fz true a 3 [v1,v2,v3]) σ):
  zA Tryz.prog 220 [.ptr s 0,vx,vy] σ K:=
 zA.gh (zKl z hs hR hx hy hvx hvy fun a v1 v2 v3 t f1 f2 f3 _ ht=>Gh.fin0 ((Keep.refl σ).up ht) trivial (hk a v1 v2 v3 f1 f2 f3))
theorem zCu (z:Lz p n W B c) (hs:PtrR σ s p vP vB) (hR:IsR vP vB W B) (hx:El p n x) (hy:El p n y) (hvx:FI vx x) (hvy:FI vy y) (hk:ResI σ K (bch p n W B x y)):
  zA Tryz.prog 131 [.ptr s 0,vx,vy] σ K:=by
 have o:=z.r.o;have q:=z.r.q;refine zC mix Tryz.func131 ?_
 conv=>arg 2;cbv
 refine zF rfl ?_;simp only [pwA,seval,-iQ0];refine zI6 z hs hR hx hy hvx hvy fun a v1 v2 v3 f1 f2 f3=>?_
 obtain⟨w1,a1,rfl⟩:=f1;obtain⟨w2,a2,rfl⟩:=f2;obtain⟨w3,a3,rfl⟩:=f3;have e1:El p n (ladd p W x y):=zJ o hx hy;have e2:=dv_el o (k:=2) (br_el o q (a:=x) (b:=y));have e3:=dv_el o (k:=12) (Zb o q (x:=x) (y:=y));have e4:El p n (ladd p W (ladd p W x y) (dv p n W 2 (br p W B n x y))):=zJ o e1 e2;have c0:(0:Int)<((3:Nat):Int):=by decide
 have c1:(1:Int)<((3:Nat):Int):=by decide
 have c2:(2:Int)<((3:Nat):Int):=by decide
 simp only [pwA,seval,-iQ0,c0,c1,c2];refine Qi hs hR.P o e1 e2 rfl rfl fun v4=>?_
 simp only [pwA,seval,-iQ0];refine zCy hs hR.P o e4 e3 e4.1.symm rfl ⟨fun h0=>?_,fun cap hc=>?_⟩
 ·simp only [pwA,seval,-iQ0]
  exact hk.1 h0
 ·simp only [pwA,seval,-iQ0]
  exact hk.2 cap hc
theorem zIl (z:Lz p n W B c) (hR:IsR vP vB W B) (hx:El p n x) (hy:El p n y) (hvx:FI vx x) (hvy:FI vy y)
  (hk:∀a v1 v2 v3,FI v1 (ladd p W x y)→FI v2 (dv p n W 2 (br p W B n x y))→FI v3 (dv p n W 12 (ZB p W B n x y))→K (.fz true a 3 [v1,v2,v3]) σ):
  zA Tryz.prog 221 [.agg [.int .i64 p,vP,vB],vx,vy] σ K:=by
 have o:=z.r.o;have q:=z.r.q;have hxl:=hx.1;have hyl:=hy.1;have h1:=hR.P.one;have h2:=hR.B.one;obtain⟨wx,ax,rfl⟩:=hvx;obtain⟨wy,ay,rfl⟩:=hvy;refine zA.gh ?_;have bel:=br_el o q (a:=x) (b:=y);refine zC mix Tryz.func221 ?_
 conv=>arg 2;cbv
 refine zF rfl ?_;simp only [pwA,seval,-iQ0,h1,h2];refine qF hR o q hx hy rfl rfl fun v1=>?_
 simp only [pwA,seval,-iQ0];refine qF hR o q hx bel rfl bel.1.symm fun v2=>?_
 simp only [pwA,seval,-iQ0];refine qF hR o q hy bel rfl bel.1.symm fun v3=>?_
 simp only [pwA,seval,-iQ0];have e2:El p n (br p W B n x (br p W B n x y)):=br_el o q;have e3:El p n (br p W B n y (br p W B n x y)):=br_el o q;refine qN hR o e2 e3 e2.1.symm e3.1.symm (by decide) (by decide) fun v4=>?_
 have te:=Zb o q (x:=x) (y:=y);have hth:=third o q z.r.nf (x:=x) (y:=y) bel;rw [←hth];simp only [pwA,seval,-iQ0];refine qN hR o hx hy rfl rfl (by decide) (by decide) fun v5=>?_
 simp only [pwA,seval,-iQ0];refine zEi hR o z.pow bel bel.1.symm fun w6 v6 z2 d2=>?_
 simp only [pwA,seval,-iQ0];refine zEi hR o z.pow (x:=ZB p W B n x y) te te.1.symm fun w7 v7 z3 d3=>?_
 have hz2:=dv_eq o bel d2 (z.d2 hx);have hz3:=dv_eq o te d3 (z.d12 hx);subst hz2;subst hz3;simp only [pwA,seval,-iQ0];exact Gh.finF (s:=σ.next+1) (cs:=[.fz true v5 n (pis (ladd p W x y)),.fz w6 v6 n (pis (dv p n W 2 (br p W B n x y))),.fz w7 v7 n (pis (dv p n W 12 (ZB p W B n x y)))]) (((zD σ _).new _)) (by simp only [pwA,seval,-iQ0]) (by omega) ⟨trivial,trivial,trivial,trivial⟩ (by simp [capOK]) fun o4=>hk _ _ _ _ ⟨true,v5,by rw [show(ladd p W x y).length=n from(zJ o hx hy).1]⟩ ⟨w6,v6,by rw [d2.el.1]⟩ ⟨w7,v7,by rw [d3.el.1]⟩
theorem zCh (z:Lz p n W B c) (hR:IsR vP vB W B) (hx:El p n x) (hy:El p n y) (hvx:FI vx x) (hvy:FI vy y) (hk:∀v,FI v (bch p n W B x y)→K v σ):
  zA Tryz.prog 132 [.agg [.int .i64 p,vP,vB],vx,vy] σ K:=by
 have o:=z.r.o;have q:=z.r.q;have h1:=hR.P.one;have h2:=hR.B.one;refine zA.gh ?_;refine zC mix Tryz.func132 ?_
 conv=>arg 2;cbv
 refine zF rfl ?_;simp only [pwA,seval,-iQ0,h1,h2];refine zIl z hR hx hy hvx hvy fun a v1 v2 v3 f1 f2 f3=>?_
 obtain⟨w1,a1,rfl⟩:=f1;obtain⟨w2,a2,rfl⟩:=f2;obtain⟨w3,a3,rfl⟩:=f3;have e1:El p n (ladd p W x y):=zJ o hx hy;have e2:=dv_el o (k:=2) (br_el o q (a:=x) (b:=y));have e3:=dv_el o (k:=12) (Zb o q (x:=x) (y:=y));have e4:El p n (ladd p W (ladd p W x y) (dv p n W 2 (br p W B n x y))):=zJ o e1 e2;have c0:(0:Int)<((3:Nat):Int):=by decide
 have c1:(1:Int)<((3:Nat):Int):=by decide
 have c2:(2:Int)<((3:Nat):Int):=by decide
 simp only [pwA,seval,-iQ0,c0,c1,c2];refine qN hR o e1 e2 rfl rfl (by decide) (by decide) fun v4=>?_
 simp only [pwA,seval,-iQ0];refine qN hR o (a:=ladd p W (ladd p W x y) (dv p n W 2 (br p W B n x y))) e4 e3 e4.1.symm rfl (by decide) (by decide) fun v5=>?_
 simp only [pwA,seval,-iQ0];exact Gh.fin0 (zD σ _) trivial (hk _ ⟨true,v5,by rw [(ZP o q hx hy).1];rfl⟩)
theorem zL1 (o:OkW p n W) (hR:IsR vP vB W B) (hx:El p n x) (hvx:FI vx x) (hk:∀v,FI v (lmul p W (-1) x)→K v σ):
  zA Tryz.prog 275 [.agg [.int .i64 p,vP,vB],vx] σ K:=by
 have h1:=hR.P.one;have h2:=hR.B.one;have hxl:=hx.1;obtain⟨wx,ax,rfl⟩:=hvx;refine zA.gh ?_;refine zC mix Tryz.func275 ?_
 conv=>arg 2;cbv
 refine zF rfl ?_;simp only [pwA,seval,-iQ0,h1,h2];refine qN hR o hx hx rfl rfl (by decide) (by decide) fun v5=>?_
 simp only [pwA,seval,-iQ0];exact Gh.fin0 (zD σ _) trivial (hk _ ⟨true,v5,by rw [show(lmul p W (-1) x).length=n from(zJ o hx hx).1]⟩)
end Go.Proofs
namespace Go.Proofs
open Go.Ab Go.Lie
variable {σ:PHeap} {K:PV→PHeap→Prop} {p:Int} {n c:Nat} {W:List (List Int)} {B:List (List (List Int))} {vP vB vL:PV} {s:Nat} {x y:List Int} {vx vy:PV} {xs:List (List Int)}
theorem zKm (z:Lz p n W B c) (hs:PtrR σ s p vP vB) (hR:IsR vP vB W B) (hL:FII vL xs) (hx:Els p n xs) (hb:xs.length≤1048576) (hk:ResI σ K (fold p n W B xs)):zA Tryz.prog 192 [.ptr s 0,vL] σ K:=by
 have o:=z.r.o;have q:=z.r.q;have hn6:=o.le;have hWl:=o.len;have hR0:=hR;obtain⟨wl,al,rl,rfl,hrl⟩:=hL;obtain⟨⟨w1,a1,rP,rfl,hP⟩,hB⟩:=hR;refine zA.gh ?_;have hne:¬s=σ.next:=Nat.ne_of_lt hs.lt;refine zC mix Tryz.func192 ?_
 conv=>arg 2;cbv
 refine zF rfl ?_;simp only [pwA,seval,-iQ0,zI hs.obj,hne,List.length_replicate,qG,mk8 (n:=W.length) (by omega),mkL (n:=W.length) (by omega)]
 refine zG (fun m vs h'=>∃i v,i≤xs.length∧m=xs.length-i∧vs=[.ptr s 0,v,.fz wl al xs.length rl,.int .i64 xs.length,.int .i64 (i:Nat)]∧Keep σ h'∧PAcc σ.next 1 h' v n (pis (fold p n W B (xs.take i)))) xs.length ?_ ?_
 ·refine⟨0,_,by omega,by omega,rfl,zD σ _,.inr ?_⟩
  rw [hWl];exact PSl.new σ.next 1 (h:=σ) (n:=n) (cs:=pis (List.replicate n 0)) (by rw [zK];simp) (Nat.le_refl _)
 ·rintro m vs h' ⟨i,v,hi,rfl,rfl,hkp,ha⟩
  simp only [pwA,seval,-iQ0];refine iteI (fun hlt=>?_) fun hge=>?_
  ·obtain⟨w4,a4,hrk⟩:=hrl.rowI hlt
   have hel:=Q9 o q (xs:=xs.take i) fun y hy=>hx y (List.mem_of_mem_take hy)
   have hxi:=hx _ (List.getElem_mem hlt);have e:∀{v':PV} {H:PHeap},Keep σ H→PAcc σ.next 1 H v' n (pis (bch p n W B (fold p n W B (xs.take i)) xs[i]))→∃n',n'<xs.length-i∧∃i' v,i'≤xs.length∧n'=xs.length-i'∧[PV.ptr s 0,v',.fz wl al xs.length rl,.int .i64 xs.length,.int .i64 ((i+1:Nat):Int)]=[.ptr s 0,v,.fz wl al xs.length rl,.int .i64 xs.length,.int .i64 (i':Nat)]∧Keep σ H∧PAcc σ.next 1 H v n (pis (fold p n W B (xs.take i'))):=fun {v' H} k1 k2=>by
    refine⟨_,by omega,i+1,v',by omega,rfl,rfl,k1,?_⟩
    rw [zF3 xs hlt];exact k2
   have bl:=(ZP o q hel hxi).1;simp only [pwA,seval,-iQ0,hlt,hrk];rcases ha with ⟨rfl,h0,h1⟩|⟨s',cap,rfl,hc,q2,q3,q4,q5⟩
   ·refine zCu z (hs.keep hkp) hR0 hel hxi ⟨true,.nils,by rw [h1,show(fold p n W B (xs.take i)).length=0 by rw [hel.1];exact h0]⟩ ⟨_,_,rfl⟩ ⟨fun h2=>?_,fun cap hc=>?_⟩
    ·simp only [pwA,seval,-iQ0,wrapS hlt (by omega:xs.length≤4611686018427387904)]
     exact e hkp (.inl ⟨rfl,h0,by rw [h2];rfl⟩)
    ·simp only [pwA,seval,-iQ0,wrapS hlt (by omega:xs.length≤4611686018427387904)]
     refine e (hkp.new _) (.inr ⟨_,cap,by rw [bl],by rw [←bl];exact hc,by simp only [pwA,seval,-iQ0],by rw [zK,bl,Nat.mul_one],hkp.next,by simp [PHeap.new]⟩)
   ·refine zA.frz (s:=s') (cs:=pis (fold p n W B (xs.take i))) q2 (zM _ _) fun o1=>?_
    have hcok:=hc.ok;simp only [sbs,sb,hcok,and_self,if_true];have hk2:Keep σ (h'.kill s'):=hkp.kill q4;refine zCu z (hs.keep hk2) hR0 hel hxi ⟨true,_,by rw [hel.1]⟩ ⟨_,_,rfl⟩ ⟨fun h2=>?_,fun cap hc=>?_⟩
    ·simp only [pwA,seval,-iQ0,wrapS hlt (by omega:xs.length≤4611686018427387904)]
     exact e hk2 (.inl ⟨rfl,by rw [←bl,h2];rfl,by rw [h2];rfl⟩)
    ·simp only [pwA,seval,-iQ0,wrapS hlt (by omega:xs.length≤4611686018427387904)]
     refine e (hk2.new _) (.inr ⟨_,cap,by rw [bl];rfl,by rw [←bl];exact hc,by simp only [pwA,seval,-iQ0],by rw [zK,bl,Nat.mul_one],hk2.next,by simp [PHeap.new]⟩)
  ·have hie:i=xs.length:=by omega
   subst hie;rw [List.take_length]at ha
   exact ha.res hkp (Q9 o q hx).1.symm hk
theorem zKN (z:Lz p n W B c) (hR:IsR vP vB W B) (hL:FII vL xs) (hx:Els p n xs) (hb:xs.length≤1048576) (hk:∀v,FI v (fold p n W B xs)→K v σ):zA Tryz.prog 274 [.agg [.int .i64 p,vP,vB],vL] σ K:=by
 have o:=z.r.o;have q:=z.r.q;have hn6:=o.le;have hWl:=o.len;have h1:=hR.P.one;have h2:=hR.B.one;obtain⟨wl,al,rl,rfl,hrl⟩:=hL;refine zA.gh ?_;refine zC mix Tryz.func274 ?_
 conv=>arg 2;cbv
 refine zF rfl ?_;simp only [pwA,seval,-iQ0,h1,h2];refine zB2 hR hWl (by omega) fun v0=>?_
 simp only [pwA,seval,-iQ0];refine zG (fun m vs h'=>∃i v,i≤xs.length∧m=xs.length-i∧vs=[.fz wl al xs.length rl,.ptr σ.next 0,v,.int .i64 (i:Nat)]∧h'=σ.new [.int .i64 p,vP,vB]∧FI v (fold p n W B (xs.take i))) xs.length ?_ ?_
 ·exact⟨0,_,by omega,by omega,rfl,rfl,⟨true,v0,by rw [List.take_zero,show fold p n W B []=List.replicate n 0 from rfl,List.length_replicate];rfl⟩⟩
 ·rintro m vs h' ⟨i,v,hi,rfl,rfl,rfl,hv⟩
  simp only [pwA,seval,-iQ0];refine iteI (fun hlt=>?_) fun hge=>?_
  ·obtain⟨w4,a4,hrk⟩:=hrl.rowI hlt
   have hel:=Q9 o q (xs:=xs.take i) fun y hy=>hx y (List.mem_of_mem_take hy)
   have hxi:=hx _ (List.getElem_mem hlt);simp only [pwA,seval,-iQ0,hlt,hrk];refine zCh z hR hel hxi hv ⟨_,_,rfl⟩ fun v' hv'=>?_
   simp only [pwA,seval,-iQ0,wrapS hlt (by omega:xs.length≤4611686018427387904)]
   exact⟨_,by omega,i+1,v',by omega,rfl,rfl,by rw [zF3 xs hlt];exact hv'⟩
  ·have hie:i=xs.length:=by omega
   subst hie;rw [List.take_length]at hv
   exact Gh.fin0 (zD σ _) (hv.bel _) (hk v hv)
theorem rows3 {v1 v2 v3:PV} {x1 x2 x3:List Int} {w:Bool} {a:AV} (h1:FI v1 x1) (h2:FI v2 x2) (h3:FI v3 x3):FII (.fz w a 3 [v1,v2,v3]) [x1,x2,x3]:=⟨w,a,_,rfl,by simpa using (((All2.nil _).snoc h1).snoc h2).snoc h3⟩
theorem zAN (o:OkW p n W) (hx:El p n x):El p n (lmul p W (-1) x):=zJ o hx hx
theorem els4 {x1 x2 x3 x4:List Int} (h1:El p n x1) (h2:El p n x2) (h3:El p n x3) (h4:El p n x4):Els p n [x1,x2,x3,x4]:=fun y hy=>by simp at hy;rcases hy with rfl | rfl | rfl | rfl<;>assumption
theorem els3 {x1 x2 x3:List Int} (h1:El p n x1) (h2:El p n x2) (h3:El p n x3):Els p n [x1,x2,x3]:=fun y hy=>by simp at hy;rcases hy with rfl | rfl | rfl<;>assumption
theorem QM (o:OkW p n W) (hs:PtrR σ s p vP vB) (hP:FII vP W) (hx:El p n x) (hvx:FI vx x) {k:Int} (hkb:-1000000000≤k∧k≤1000000000) (hk:∀v,FI v (lmul p W k x)→K v σ):zA Tryz.prog 191 [.ptr s 0,.int .i64 k,vx] σ K:=by
 obtain⟨wx,ax,rfl⟩:=hvx;exact Zy hs hP o hx rfl hkb fun v=>hk _ ⟨_,_,by rw [show(lmul p W k x).length=n from(zJ o hx hx).1]⟩
noncomputable def conj (p:Int) (n:Nat) (W:List (List Int)) (B:List (List (List Int))) (x y:List Int):List Int:=fold p n W B [lmul p W (-1) y,x,y]
theorem zKP (z:Lz p n W B c) (hR:IsR vP vB W B) (hx:El p n x) (hy:El p n y) (hvx:FI vx x) (hvy:FI vy y) (hk:∀v,FI v (conj p n W B x y)→K v σ):
  zA Tryz.prog 186 [.agg [.int .i64 p,vP,vB],vx,vy] σ K:=by
 have o:=z.r.o;have q:=z.r.q;have h1:=hR.P.one;have h2:=hR.B.one;refine zA.gh ?_;refine zC mix Tryz.func186 ?_
 conv=>arg 2;cbv
 refine zF rfl ?_;simp only [pwA,seval,-iQ0,h1,h2];refine zL1 o hR hy hvy fun v1 f1=>?_
 simp only [pwA,seval,-iQ0,f1.one,f1.cells,hvx.one,hvx.cells,hvy.one,hvy.cells];refine zA.frz (s:=σ.next+1) (cs:=[v1,vx,vy]) (by simp only [pwA,seval,-iQ0]) ⟨f1.bel 0,hvx.bel 0,hvy.bel 0,trivial⟩ fun o1=>?_
 simp only [sbs,sb,capOK,and_self,if_true,decide_true,Nat.le_refl,hR.P.sb,hR.B.sb];refine zKN z hR (rows3 f1 hvx hvy) (els3 (zAN o hy) hx hy) (by simp) fun v hv=>?_
 simp only [pwA,seval,-iQ0];exact Gh.fin0 (((zD σ _).new _).kill (by omega)) (hv.bel _) (hk v hv)
end Go.Proofs
namespace Go.Proofs
open Go.Ab Go.Lie
variable {σ:PHeap} {K:PV→PHeap→Prop} {p:Int} {n c m k:Nat} {W:List (List Int)} {B:List (List (List Int))} {vP vB vL:PV} {s:Nat} {x y u v:List Int} {vx vy:PV} {xs:List (List Int)}
theorem zHp (f:Vec) (t:Nat):brv B n f f t=0:=by
 have:=zV (B:=B) (n:=n) f f t
 omega
theorem zOj (z:Lz p n W B c) (hx:El p n x) (hy:El p n y):El p n (comm p n W B x y):=Q9 z.r.o z.r.q (els4 (zAN z.r.o hx) (zAN z.r.o hy) hx hy)
def CodR (p:Int) (W:List (List Int)) (B:List (List (List Int))) (xs:List (List Int)) {α:Type} (nil val z:α) (c:Int):Prop:=
 (∃d,CodeL p W B xs d∧d≠0∧c=d∧z=nil)∨(CodeL p W B xs 0∧c=0∧z=val)
theorem CodR.unique {α:Type} {nil val z z':α} {c c':Int} (h:CodR p W B xs nil val z c) (g:CodR p W B xs nil val z' c'):z=z'∧c=c':=by
 rcases h with ⟨d,h1,h2,h3,h4⟩|⟨h1,h3,h4⟩<;>rcases g with ⟨d',g1,g2,g3,g4⟩|⟨g1,g3,g4⟩
 ·have:=h1.unique g1
  subst h4;subst g4;exact⟨rfl,by omega⟩
 ·exact absurd (h1.unique g1) h2
 ·exact absurd (g1.unique h1) g2
 ·subst h4;subst g4;exact⟨rfl,by omega⟩
end Go.Proofs
namespace Go.Proofs
open Go.Ab Go.Lie
variable {σ:PHeap} {K:PV→PHeap→Prop} {p:Int} {n c m k:Nat} {W:List (List Int)} {B:List (List (List Int))} {vP vB vL:PV} {s:Nat} {x y u v:List Int} {vx vy:PV} {xs:List (List Int)}
theorem zH8 (hR:IsR vP vB W B) (szr:SzR W B) (hx:FI vx x) (szx:x.length≤1048576) (hy:FI vy y) (szy:y.length≤1048576)
  (hk:∀v z c t,CodR p W B [x,y] [] (bch p W.length W B x y) z c→FI v z→Own σ.top t v→σ.top≤t→K (.tup [v,.int .i64 c]) (σ.up t)):zA Tryz.prog 44 [.agg [.int .i64 p,vP,vB],vx,vy] σ K:=by
 have h1:=hR.P.one;have h2:=hR.B.one;refine zA.gh ?_;refine zC mix Tryz.func44 ?_
 conv=>arg 2;cbv
 refine zF rfl ?_;simp only [pwA,seval,-iQ0,h1,h2,hx.one,hx.cells,hy.one,hy.cells];have hkp:Keep σ (((σ.new [.int .i64 p,vP,vB]).new [vx,vy]).kill (σ.next+1)):=((zD σ _).new _).kill (by omega)
 have hs:PtrR (((σ.new [.int .i64 p,vP,vB]).new [vx,vy]).kill (σ.next+1)) σ.next p vP vB:=⟨by simp only [pwA,seval,-iQ0],by simp only [pwA,seval,-iQ0];omega⟩
 refine zA.frz (s:=σ.next+1) (cs:=[vx,vy]) (by simp only [pwA,seval,-iQ0]) ⟨hx.bel 0,hy.bel 0,trivial⟩ fun o=>?_
 simp only [sbs,sb,capOK,and_self,if_true,decide_true,Nat.le_refl,hx.sb,hy.sb];refine QT (xs:=[x,y]) hs hR szr (zFC hx hy) (SzL.two szx szy) fun c hc=>?_
 by_cases hc0:c=0
 rotate_left
 ·simp only [pwA,seval,-iQ0,hc0]
  exact Gh.fin0T (t:=σ.top) hkp hkp.top ⟨trivial,trivial,trivial⟩ fun _=>hk _ [] _ σ.top (.inl ⟨c,hc,hc0,rfl,rfl⟩) ⟨_,_,rfl⟩ (Own.empty _ _ _ _ _) (Nat.le_refl _)
 subst hc0;obtain⟨⟨hl,he⟩,hz⟩:=hc.zero;obtain⟨cc,lz⟩:=Lz.of hl hz;have ow:=lz.r.o;have hx':=he x (by simp)
 have hy':=he y (by simp)
 simp only [pwA,seval,-iQ0];have hkp2:=hkp;refine zA.fzIT (fun K'=>zCu lz hs hR hx' hy' hx hy) fun v t hv ho ht=>?_
 simp only [pwA,seval,-iQ0];exact Gh.fin0T (t:=t) (hkp2.up ht) (Nat.le_refl _) ⟨hv.bel _,trivial,trivial⟩ fun _=>hk _ _ _ t (.inr ⟨hc,rfl,rfl⟩) hv ho ht
theorem zGJ (hR:IsR vP vB W B) (szr:SzR W B) (hx:FI vx x) (szx:x.length≤1048576) (hy:FI vy y) (szy:y.length≤1048576)
  (hk:∀v z c,CodR p W B [x,y] [] (bch p W.length W B x y) z c→FI v z→K (.tup [v,.int .i64 c]) σ):zA Tryz.prog 45 [.agg [.int .i64 p,vP,vB],vx,vy] σ K:=by
 have h1:=hR.P.one;have h2:=hR.B.one;refine zA.gh ?_;refine zC mix Tryz.func45 ?_
 conv=>arg 2;cbv
 refine zF rfl ?_;simp only [pwA,seval,-iQ0,h1,h2,hx.one,hx.cells,hy.one,hy.cells];have hkp:Keep σ (((σ.new [.int .i64 p,vP,vB]).new [vx,vy]).kill (σ.next+1)):=((zD σ _).new _).kill (by omega)
 refine zA.frz (s:=σ.next+1) (cs:=[vx,vy]) (by simp only [pwA,seval,-iQ0]) ⟨hx.bel 0,hy.bel 0,trivial⟩ fun o=>?_
 simp only [sbs,sb,capOK,and_self,if_true,decide_true,Nat.le_refl,hR.P.sb,hR.B.sb,hx.sb,hy.sb];refine zB1 (xs:=[x,y]) hR szr (zFC hx hy) (SzL.two szx szy) fun c hc=>?_
 by_cases hc0:c=0
 rotate_left
 ·simp only [pwA,seval,-iQ0,hc0]
  exact Gh.fin0 hkp ⟨trivial,trivial,trivial⟩ (hk _ [] _ (.inl ⟨c,hc,hc0,rfl,rfl⟩) ⟨_,_,rfl⟩)
 subst hc0;obtain⟨⟨hl,he⟩,hz⟩:=hc.zero;obtain⟨cc,lz⟩:=Lz.of hl hz;have ow:=lz.r.o;have hx':=he x (by simp)
 have hy':=he y (by simp)
 simp only [pwA,seval,-iQ0];have hkp2:=hkp;refine zCh lz hR hx' hy' hx hy fun v hv=>?_
 simp only [pwA,seval,-iQ0];exact Gh.fin0 hkp2 ⟨hv.bel _,trivial,trivial⟩ (hk _ _ _ (.inr ⟨hc,rfl,rfl⟩) hv)
end Go.Proofs
namespace Go.Proofs
open Go.Ab Go.Lie
variable {σ:PHeap} {K:PV→PHeap→Prop} {p:Int} {n c m k:Nat} {W:List (List Int)} {B:List (List (List Int))} {vP vB vL:PV} {s:Nat} {x y u v:List Int} {vx vy:PV} {xs:List (List Int)}
theorem lmix0 {k:Int} {a b:List Int} (h:b.length=a.length):lmix k a 0 b=lmix k a 0 a:=by
 unfold lmix;refine List.ext_getElem (by simp [h]) fun i h1 h2=>?_
 simp
theorem zHc (hx:El p n x) (hp:isP p) (i:Nat):0≤at_ x i∧at_ x i≤1000000:=by
 have:=hp.bd
 rcases Nat.lt_or_ge i x.length with h|h
 ·have:=hx.2 _ (List.getElem_mem h);rw [at_eq h];omega
 ·rw [at_ge h];omega
theorem pisA {i:Nat} (h:i<x.length):(pis x)[i]? = some (.int .i64 (at_ x i)):=by rw [zT,gi h,at_eq h];rfl
noncomputable def ptG (p:Int) (n:Nat) (W:List (List Int)) (B:List (List (List Int))) (e:List Int):Nat→List Int
 | 0=>List.replicate n 0
 | i+1=>bch p n W B (ptG p n W B e i) (lmul p W (at_ e i) (unitL n i))
theorem Ql (o:OkW p n W) (q:OkB p n B) (e:List Int):∀{i:Nat},i≤n→El p n (ptG p n W B e i)
 | 0,_=>ZH o.pr
 | i+1,hi=>ZP o q (Ql o q e (by omega)) (zJ o (zR o.pr (by omega)) (zR o.pr (by omega)))
theorem zGN (z:Lz p n W B c) (hs:PtrR σ s p vP vB) (hR:IsR vP vB W B) (hx:El p n x) (hvx:FI vx x) (hk:ResI σ K (ptG p n W B x n)):zA Tryz.prog 108 [.ptr s 0,vx] σ K:=by
 have o:=z.r.o;have q:=z.r.q;have hn6:=o.le;have hxl:=hx.1;obtain⟨wx,ax,rfl⟩:=hvx;refine zA.gh ?_;have hne:¬s=σ.next:=Nat.ne_of_lt hs.lt;refine zC mix Tryz.func108 ?_
 conv=>arg 2;cbv
 refine zF rfl ?_;simp only [pwA,seval,-iQ0,hxl,List.length_replicate,qG,mk8 (n:=n) (by omega),mkL (n:=n) (by omega)]
 refine zG (fun m vs h'=>∃i v,i≤n∧m=n-i∧vs=[.ptr s 0,.fz wx ax n (pis x),v,.fz wx ax n (pis x),.int .i64 n,.int .i64 (i:Nat)]∧Keep σ h'∧PAcc σ.next 1 h' v n (pis (ptG p n W B x i))) n ?_ ?_
 ·refine⟨0,_,by omega,by omega,rfl,zD σ _,.inr ?_⟩
  exact PSl.new σ.next 1 (h:=σ) (n:=n) (cs:=pis (List.replicate n 0)) (by rw [zK];simp) (Nat.le_refl _)
 ·rintro m vs h' ⟨i,v,hi,rfl,rfl,hkp,ha⟩
  simp only [pwA,seval,-iQ0];refine iteI (fun hlt=>?_) fun hge=>?_
  ·have hel:=Ql (B:=B) o q x hi
   have hu:=zR (n:=n) o.pr hlt;have hb:=zHc hx z.hp i;have hlx:i<x.length:=by omega
   have e:∀{v':PV} {H:PHeap},Keep σ H→PAcc σ.next 1 H v' n (pis (ptG p n W B x (i+1)))→∃n',n'<n-i∧∃i' v,i'≤n∧n'=n-i'∧[PV.ptr s 0,.fz wx ax n (pis x),v',.fz wx ax n (pis x),.int .i64 n,.int .i64 ((i+1:Nat):Int)]=[.ptr s 0,.fz wx ax n (pis x),v,.fz wx ax n (pis x),.int .i64 n,.int .i64 (i':Nat)]∧Keep σ H∧PAcc σ.next 1 H v n (pis (ptG p n W B x i')):=fun {v' H} k1 k2=>
    ⟨_,by omega,i+1,v',by omega,rfl,rfl,k1,k2⟩
   have ne:=zJ o (k:=at_ x i) (m:=0) hu hu;have bl:=(ZP o q hel ne).1;simp only [pwA,seval,-iQ0,hlt,pisA hlx];refine zn (by omega) hlt fun a1=>?_
   simp only [pwA,seval,-iQ0,pisA hlx];refine QM o (hs.keep hkp) hR.P hu ⟨true,a1,by rw [hu.1]⟩ (k:=at_ x i) (by omega) fun v1 f1=>?_
   simp only [pwA,seval,-iQ0];rcases ha with ⟨rfl,h0,h1⟩|⟨s',cap,rfl,hc,q2,q3,q4,q5⟩
   ·omega
   ·refine zA.frz (s:=s') (cs:=pis (ptG p n W B x i)) q2 (zM _ _) fun o1=>?_
    have hcok:=hc.ok;simp only [sbs,sb,hcok,and_self,if_true,f1.sb];have hk2:Keep σ (h'.kill s'):=hkp.kill q4;refine zCu z (hs.keep hk2) hR hel ne ⟨true,_,by rw [hel.1]⟩ f1 ⟨fun h2=>?_,fun cap hc=>?_⟩
    ·exact absurd bl (by rw [show bch p n W B (ptG p n W B x i) (norm p W (lmix (at_ x i) (unitL n i) 0 (unitL n i)))=[] from h2];simp;omega)
    ·simp only [pwA,seval,-iQ0,wrapS hlt (by omega:n≤4611686018427387904)]
     refine e (hk2.new _) (.inr ⟨_,cap,by rw [show(bch p n W B (ptG p n W B x i) (lmul p W (at_ x i) (unitL n i))).length=n from bl];rfl,by rw [←bl];exact hc,by simp only [pwA,seval,-iQ0];rfl,by rw [zK,Nat.mul_one];exact bl,hk2.next,by simp [PHeap.new]⟩)
  ·have hie:i=n:=by omega
   subst hie;exact ha.res hkp (Ql (B:=B) o q x (Nat.le_refl _)).1.symm hk
noncomputable def stG (p:Int) (n:Nat) (W:List (List Int)) (B:List (List (List Int))) (x:List Int):Nat→List Int×List Int
 | 0=>(List.replicate n 0,x)
 | i+1=>((stG p n W B x i).1.set i (at_ (stG p n W B x i).2 i),bch p n W B (lmul p W (-at_ (stG p n W B x i).2 i) (unitL n i)) (stG p n W B x i).2)
theorem ZF:∀i,(stG p n W B x i).1.length=n
 | 0=>List.length_replicate ..
 | i+1=>by rw [stG,List.length_set];exact ZF i
theorem zAI (o:OkW p n W) (q:OkB p n B) (hx:El p n x):∀{i:Nat},i≤n→El p n (stG p n W B x i).2
 | 0,_=>hx
 | i+1,hi=>ZP o q (zJ o (zR o.pr (by omega)) (zR o.pr (by omega))) (zAI o q hx (by omega))
noncomputable def vcG (p:Int) (n:Nat) (W:List (List Int)) (B:List (List (List Int))) (x:List Int):List Int:=(stG p n W B x n).1
theorem zAW (z:Lz p n W B c) (hs:PtrR σ s p vP vB) (hR:IsR vP vB W B) (hx:El p n x) (hvx:FI vx x) (hk:∀cap,full 1 cap n→K (.sl σ.next 0 n cap) (σ.new (pis (vcG p n W B x)))):zA Tryz.prog 95 [.ptr s 0,vx] σ K:=by
 have o:=z.r.o;have q:=z.r.q;have hn6:=o.le;have hxl:=hx.1;obtain⟨wx,ax,rfl⟩:=hvx;refine zA.gh ?_;have hne:¬s=σ.next:=Nat.ne_of_lt hs.lt;refine zC mix Tryz.func95 ?_
 conv=>arg 2;cbv
 refine zF rfl ?_;simp only [pwA,seval,-iQ0,hxl,List.length_replicate,qG,mk8 (n:=n) (by omega),mkL (n:=n) (by omega)]
 refine zG (fun m vs h'=>∃i v,i≤n∧m=n-i∧vs=[.ptr s 0,v,.int .i64 n,.sl σ.next 0 n (.known n),.int .i64 n,.int .i64 (i:Nat)]∧h'=σ.new (pis (stG p n W B x i).1)∧FI v (stG p n W B x i).2) n ?_ ?_
 ·exact⟨0,.fz wx ax n (pis x),by omega,by omega,rfl,rfl,⟨_,_,by rw [show(stG p n W B x 0).2=x from rfl,hxl]⟩⟩
 ·rintro m vs h' ⟨i,v,hi,rfl,rfl,rfl,hv⟩
  simp only [pwA,seval,-iQ0];refine iteI (fun hlt=>?_) fun hge=>?_
  ·have hel:=zAI (B:=B) o q hx hi
   have hu:=zR (n:=n) o.pr hlt;have hb:=zHc hel z.hp i;have hol:=ZF (p:=p) (n:=n) (W:=W) (B:=B) (x:=x) i;have hlx:i<(stG p n W B x i).2.length:=by rw [hel.1];exact hlt
   have hlo:i<(stG p n W B x i).1.length:=by omega
   obtain⟨w0,a0,rfl⟩:=hv;have hset:(pis (stG p n W B x i).1).take i++[.int .i64 (at_ (stG p n W B x i).2 i)]++(pis (stG p n W B x i).1).drop (i+1)=pis (stG p n W B x (i+1)).1:=zZ hlo;have hat:at_ (stG p n W B x (i+1)).1 i=at_ (stG p n W B x i).2 i:=by rw [stG,at_eq (by rw [List.length_set];exact hlo)];simp
   have hl2:i<(stG p n W B x (i+1)).1.length:=by rw [ZF];exact hlt
   have ne:=zJ o (k:=-at_ (stG p n W B x i).2 i) (m:=0) hu hu;have hneg:IntKind.i64.wrap (0-at_ (stG p n W B x i).2 i)=-at_ (stG p n W B x i).2 i:=by rw [wrap64 (by omega) (by omega)];omega
   have hs2:PtrR (σ.new (pis (stG p n W B x (i+1)).1)) s p vP vB:=hs.new _;simp only [pwA,seval,-iQ0,hlt,pisA hlx,hlx,hlo,Nat.succ_le_of_lt hlo,zK,hset,pisA hl2,hat,hneg];refine zn (by omega) hlt fun a1=>?_
   simp only [pwA,seval,-iQ0,pisA hl2,hat];refine QM o hs2 hR.P hu ⟨true,a1,by rw [hu.1]⟩ (k:=-at_ (stG p n W B x i).2 i) (by omega) fun v1 f1=>?_
   simp only [pwA,seval,-iQ0];refine zA.fzI (fun K'=>zCu z hs2 hR ne hel f1 ⟨_,_,rfl⟩) fun a2=>?_
   simp only [pwA,seval,-iQ0,wrapS hlt (by omega:n≤4611686018427387904)]
   exact⟨_,by omega,i+1,_,by omega,rfl,rfl,rfl,⟨_,_,rfl⟩⟩
  ·have hie:i=n:=by omega
   subst hie;exact Gh.finS (zD σ _) (by simp only [pwA,seval,-iQ0];rfl) (Nat.le_refl _) (zM _ _) (hk _ (.inr rfl))
theorem zA0 (z:Lz p n W B c) (hR:IsR vP vB W B) (hx:El p n x) (hvx:FI vx x) (hk:∀v,FI v (vcG p n W B x)→K v σ):zA Tryz.prog 86 [.agg [.int .i64 p,vP,vB],vx] σ K:=by
 have o:=z.r.o;have q:=z.r.q;have hn6:=o.le;have hWl:=o.len;have hxl:=hx.1;have h1:=hR.P.one;have h2:=hR.B.one;obtain⟨wx,ax,rfl⟩:=hvx;refine zA.gh ?_;refine zC mix Tryz.func86 ?_
 conv=>arg 2;cbv
 refine zF rfl ?_;simp only [pwA,seval,-iQ0,h1,h2,hxl];refine zDf hR hWl (by omega) fun cap hc=>?_
 simp only [pwA,seval,-iQ0];refine zG (fun m vs h'=>∃i v,i≤n∧m=n-i∧vs=[.fz wx ax n (pis x),.ptr σ.next 0,.sl (σ.next+1) 0 n cap,v,.int .i64 (i:Nat)]∧h'=(σ.new [.int .i64 p,vP,vB]).new (pis (stG p n W B x i).1)∧FI v (stG p n W B x i).2) n ?_ ?_
 ·exact⟨0,.fz wx ax n (pis x),by omega,by omega,rfl,rfl,⟨_,_,by rw [show(stG p n W B x 0).2=x from rfl,hxl]⟩⟩
 ·rintro m vs h' ⟨i,v,hi,rfl,rfl,rfl,hv⟩
  simp only [pwA,seval,-iQ0];refine iteI (fun hlt=>?_) fun hge=>?_
  ·have hel:=zAI (B:=B) o q hx hi
   have hu:=zR (n:=n) o.pr hlt;have hb:=zHc hel z.hp i;have hol:=ZF (p:=p) (n:=n) (W:=W) (B:=B) (x:=x) i;have hlx:i<(stG p n W B x i).2.length:=by rw [hel.1];exact hlt
   have hlo:i<(stG p n W B x i).1.length:=by omega
   obtain⟨w0,a0,rfl⟩:=hv;have hset:(pis (stG p n W B x i).1).take i++[.int .i64 (at_ (stG p n W B x i).2 i)]++(pis (stG p n W B x i).1).drop (i+1)=pis (stG p n W B x (i+1)).1:=zZ hlo;have hat:at_ (stG p n W B x (i+1)).1 i=at_ (stG p n W B x i).2 i:=by rw [stG,at_eq (by rw [List.length_set];exact hlo)];simp
   have hl2:i<(stG p n W B x (i+1)).1.length:=by rw [ZF];exact hlt
   have ne:=zJ o (k:=-at_ (stG p n W B x i).2 i) (m:=0) hu hu;have hneg:IntKind.i64.wrap (0-at_ (stG p n W B x i).2 i)=-at_ (stG p n W B x i).2 i:=by rw [wrap64 (by omega) (by omega)];omega
   simp only [pwA,seval,-iQ0,hlt,pisA hlx,hlx,hlo,Nat.succ_le_of_lt hlo,zK,hset,pisA hl2,hat,hneg];refine ZA hR hWl (by omega) hlt fun a1=>?_
   simp only [pwA,seval,-iQ0,pisA hl2,hat];refine qN hR o hu hel hu.1.symm rfl (k:=-at_ (stG p n W B x i).2 i) (m:=0) (by omega) (by decide) fun v1=>?_
   rw [lmix0 (hel.1.trans hu.1.symm)];simp only [pwA,seval,-iQ0];refine zCh z hR ne hel ⟨true,v1,by rw [ne.1]⟩ ⟨_,_,rfl⟩ fun v' hv'=>?_
   simp only [pwA,seval,-iQ0,wrapS hlt (by omega:n≤4611686018427387904)]
   exact⟨_,by omega,i+1,v',by omega,rfl,rfl,rfl,hv'⟩
  ·have hie:i=n:=by omega
   subst hie;exact Gh.finF (s:=σ.next+1) ((zD σ _).new _) (by simp only [pwA,seval,-iQ0];rfl) (by omega) (zM _ _) hc.ok fun o1=>hk _ ⟨true,.sl o1 0 i cap,by rw [show(vcG p i W B x).length=i from ZF i];rfl⟩
end Go.Proofs
namespace Go.Proofs
open Go.Ab Go.Lie
variable {σ:PHeap} {K:PV→PHeap→Prop} {p:Int} {n c m k:Nat} {W:List (List Int)} {B:List (List (List Int))} {vP vB vL:PV} {s:Nat} {x y u v:List Int} {vx vy:PV} {xs:List (List Int)}
theorem zA.fzLT {f:FuncId} {args:List PV} {xs:List Int} {n:Nat} (hl:xs.length=n) (c:∀K':PV→PHeap→Prop,(∀cap,full 1 cap n→K' (.sl σ.next 0 n cap) (σ.new (pis xs)))→zA Tryz.prog f args σ K') (k:∀v t,FI v xs→Own σ.top t v→σ.top≤t→K v (σ.up t)):zA Tryz.prog f args σ K:=
 zA.fzIT (fun K' h=>c K' (by rw [←hl];exact h.2)) k
theorem zH5 (hR:IsR vP vB W B) (szr:SzR W B) (hx:FI vx x) (szx:x.length≤1048576)
  (hk:∀v z c t,CodR p W B [x] [] (ptG p W.length W B x W.length) z c→FI v z→Own σ.top t v→σ.top≤t→K (.tup [v,.int .i64 c]) (σ.up t)):zA Tryz.prog 38 [.agg [.int .i64 p,vP,vB],vx] σ K:=by
 have h1:=hR.P.one;have h2:=hR.B.one;refine zA.gh ?_;refine zC mix Tryz.func38 ?_
 conv=>arg 2;cbv
 refine zF rfl ?_;simp only [pwA,seval,-iQ0,h1,h2,hx.one,hx.cells];have hkp:Keep σ (((σ.new [.int .i64 p,vP,vB]).new [vx]).kill (σ.next+1)):=((zD σ _).new _).kill (by omega)
 have hs:PtrR (((σ.new [.int .i64 p,vP,vB]).new [vx]).kill (σ.next+1)) σ.next p vP vB:=⟨by simp only [pwA,seval,-iQ0],by simp only [pwA,seval,-iQ0];omega⟩
 refine zA.frz (s:=σ.next+1) (cs:=[vx]) (by simp only [pwA,seval,-iQ0]) ⟨hx.bel 0,trivial⟩ fun o=>?_
 simp only [sbs,sb,capOK,and_self,if_true,decide_true,Nat.le_refl,hx.sb];refine QT (xs:=[x]) hs hR szr (zAh hx) (SzL.one szx) fun c hc=>?_
 by_cases hc0:c=0
 rotate_left
 ·simp only [pwA,seval,-iQ0,hc0]
  exact Gh.fin0T (t:=σ.top) hkp hkp.top ⟨trivial,trivial,trivial⟩ fun _=>hk _ [] _ σ.top (.inl ⟨c,hc,hc0,rfl,rfl⟩) ⟨_,_,rfl⟩ (Own.empty _ _ _ _ _) (Nat.le_refl _)
 subst hc0;obtain⟨⟨hl,he⟩,hz⟩:=hc.zero;obtain⟨cc,lz⟩:=Lz.of hl hz;have hx':=he x (by simp)
 simp only [pwA,seval,-iQ0];refine zA.fzIT (fun K'=>zGN lz hs hR hx' hx) fun v t hv ho ht=>?_
 simp only [pwA,seval,-iQ0];exact Gh.fin0T (t:=t) (hkp.up ht) (Nat.le_refl _) ⟨hv.bel _,trivial,trivial⟩ fun _=>hk _ _ _ t (.inr ⟨hc,rfl,rfl⟩) hv ho ht
theorem zA3 (hR:IsR vP vB W B) (szr:SzR W B) (hx:FI vx x) (szx:x.length≤1048576)
  (hk:∀v z c t,CodR p W B [x] [] (vcG p W.length W B x) z c→FI v z→Own σ.top t v→σ.top≤t→K (.tup [v,.int .i64 c]) (σ.up t)):zA Tryz.prog 31 [.agg [.int .i64 p,vP,vB],vx] σ K:=by
 have h1:=hR.P.one;have h2:=hR.B.one;refine zA.gh ?_;refine zC mix Tryz.func31 ?_
 conv=>arg 2;cbv
 refine zF rfl ?_;simp only [pwA,seval,-iQ0,h1,h2,hx.one,hx.cells];have hkp:Keep σ (((σ.new [.int .i64 p,vP,vB]).new [vx]).kill (σ.next+1)):=((zD σ _).new _).kill (by omega)
 have hs:PtrR (((σ.new [.int .i64 p,vP,vB]).new [vx]).kill (σ.next+1)) σ.next p vP vB:=⟨by simp only [pwA,seval,-iQ0],by simp only [pwA,seval,-iQ0];omega⟩
 refine zA.frz (s:=σ.next+1) (cs:=[vx]) (by simp only [pwA,seval,-iQ0]) ⟨hx.bel 0,trivial⟩ fun o=>?_
 simp only [sbs,sb,capOK,and_self,if_true,decide_true,Nat.le_refl,hx.sb];refine QT (xs:=[x]) hs hR szr (zAh hx) (SzL.one szx) fun c hc=>?_
 by_cases hc0:c=0
 rotate_left
 ·simp only [pwA,seval,-iQ0,hc0]
  exact Gh.fin0T (t:=σ.top) hkp hkp.top ⟨trivial,trivial,trivial⟩ fun _=>hk _ [] _ σ.top (.inl ⟨c,hc,hc0,rfl,rfl⟩) ⟨_,_,rfl⟩ (Own.empty _ _ _ _ _) (Nat.le_refl _)
 subst hc0;obtain⟨⟨hl,he⟩,hz⟩:=hc.zero;obtain⟨cc,lz⟩:=Lz.of hl hz;have hx':=he x (by simp)
 simp only [pwA,seval,-iQ0];refine zA.fzLT (ZF _) (fun K'=>zAW lz hs hR hx' hx) fun v t hv ho ht=>?_
 simp only [pwA,seval,-iQ0];exact Gh.fin0T (t:=t) (hkp.up ht) (Nat.le_refl _) ⟨hv.bel _,trivial,trivial⟩ fun _=>hk _ _ _ t (.inr ⟨hc,rfl,rfl⟩) hv ho ht
theorem zCE (hR:IsR vP vB W B) (szr:SzR W B) (hx:FI vx x) (szx:x.length≤1048576)
  (hk:∀v z c,CodR p W B [x] [] (vcG p W.length W B x) z c→FI v z→K (.tup [v,.int .i64 c]) σ):zA Tryz.prog 32 [.agg [.int .i64 p,vP,vB],vx] σ K:=by
 have h1:=hR.P.one;have h2:=hR.B.one;refine zA.gh ?_;refine zC mix Tryz.func32 ?_
 conv=>arg 2;cbv
 refine zF rfl ?_;simp only [pwA,seval,-iQ0,h1,h2,hx.one,hx.cells];have hkp:Keep σ (((σ.new [.int .i64 p,vP,vB]).new [vx]).kill (σ.next+1)):=((zD σ _).new _).kill (by omega)
 refine zA.frz (s:=σ.next+1) (cs:=[vx]) (by simp only [pwA,seval,-iQ0]) ⟨hx.bel 0,trivial⟩ fun o=>?_
 simp only [sbs,sb,capOK,and_self,if_true,decide_true,Nat.le_refl,hR.P.sb,hR.B.sb,hx.sb];refine zB1 (xs:=[x]) hR szr (zAh hx) (SzL.one szx) fun c hc=>?_
 by_cases hc0:c=0
 rotate_left
 ·simp only [pwA,seval,-iQ0,hc0]
  exact Gh.fin0 hkp ⟨trivial,trivial,trivial⟩ (hk _ [] _ (.inl ⟨c,hc,hc0,rfl,rfl⟩) ⟨_,_,rfl⟩)
 subst hc0;obtain⟨⟨hl,he⟩,hz⟩:=hc.zero;obtain⟨cc,lz⟩:=Lz.of hl hz;have hx':=he x (by simp)
 simp only [pwA,seval,-iQ0];refine zA0 lz hR hx' hx fun v hv=>?_
 simp only [pwA,seval,-iQ0];exact Gh.fin0 hkp ⟨hv.bel _,trivial,trivial⟩ (hk _ _ _ (.inr ⟨hc,rfl,rfl⟩) hv)
theorem vc_bd {z:List Int} {c:Int} (h:CodR p W B [x] [] (vcG p W.length W B x) z c):z.length≤6:=by
 rcases h with ⟨d,h1,h2,h3,rfl⟩|⟨h1,h3,rfl⟩
 ·simp
 ·have:=h1.zero.1.1.1.w.le;rw [show(vcG p W.length W B x).length=W.length from ZF _];omega
end Go.Proofs
namespace Go.Proofs
open Go.Ab Go.Lie
variable {σ:PHeap} {K:PV→PHeap→Prop} {n:Nat} {p:Int}
structure LS where
 s:Nat
 cap:Cap
 cs:List PV
def LS.pv (q:LS):PV:=.sl q.s 0 q.cs.length q.cap
def LS.ok (h:PHeap) (b:Nat) (q:LS):Prop:=full 1 q.cap q.cs.length∧h.obj q.s=some q.cs∧b≤q.s∧q.s<h.next
def LS.pvo:Option LS→PV
 | none=>.fz true .nils 0 []
 | some q=>q.pv
def LS.slots:List (Option LS)→List Nat
 | []=>[]
 | none::ls=>LS.slots ls
 | some q::ls=>q.s::LS.slots ls
theorem LS.slots_app:∀(a b:List (Option LS)),LS.slots (a++b)=LS.slots a++LS.slots b
 | [],b=>rfl
 | none::a,b=>by simp only [List.cons_append,LS.slots,LS.slots_app a b]
 | some q::a,b=>by simp only [List.cons_append,LS.slots,LS.slots_app a b]
theorem LS.mem_slots {s:Nat}:∀{ls:List (Option LS)},s∈LS.slots ls↔∃q,some q∈ls∧q.s=s
 | []=>by simp [LS.slots]
 | none::ls=>by simp [LS.slots,LS.mem_slots (ls:=ls)]
 | some q::ls=>by
  simp only [LS.slots,List.mem_cons,LS.mem_slots (ls:=ls)];constructor
  ·rintro (rfl | ⟨q',h1,h2⟩)
   ·exact⟨q,.inl rfl,rfl⟩
   ·exact⟨q',.inr h1,h2⟩
  ·rintro ⟨q',h1 | h1,h2⟩
   ·cases h1;exact .inl h2.symm
   ·exact .inr ⟨q',h1,h2⟩
theorem LS.ok.move {h h2:PHeap} {b:Nat} {q:LS} (a:q.ok h b) (ho:h2.obj q.s=h.obj q.s) (hn:h.next≤h2.next):q.ok h2 b:=⟨a.1,by rw [ho];exact a.2.1,a.2.2.1,Nat.lt_of_lt_of_le a.2.2.2 hn⟩
theorem zBB {b e m:Nat} {h h2:PHeap} {v:PV} {cs:List PV} (a:PAcc b e h v m cs) (ho:∀s off l c,v=.sl s off l c→h2.obj s=h.obj s) (hn:h.next≤h2.next):PAcc b e h2 v m cs:=by
 rcases a with a|⟨s,cap,rfl,h1,h2',h3,h4,h5⟩
 ·exact .inl a
 ·exact .inr ⟨s,cap,rfl,h1,by rw [ho s 0 _ cap rfl];exact h2',h3,h4,Nat.lt_of_lt_of_le h5 hn⟩
theorem Q7 {b e m:Nat} {h:PHeap} {v:PV} {cs:List PV} (a:PAcc b e h v m cs) {s off l:Nat} {c:Cap} (hv:v=.sl s off l c):s<h.next:=by
 rcases a with ⟨rfl,_⟩|⟨s',cap,rfl,h1,h2',h3,h4,h5⟩
 ·cases hv
 ·cases hv;exact h5
structure TI (σ h:PHeap) (p0 sO:Nat) (vO vP vC:PV) (cO pc:List PV) (ls:List (Option LS)):Prop where
 keep:Keep σ h
 obj:h.obj p0=some [vO,vP,vC]
 p0b:σ.next≤p0∧p0<h.next
 oO:h.obj sO=some cO
 sOb:σ.next≤sO∧sO<h.next
 pO:p0≠sO
 accP:PAcc σ.next 1 h vP pc.length pc
 accC:PAcc σ.next 1 h vC ls.length (ls.map LS.pvo)
 ok:∀q,some q∈ls→q.ok h σ.next
 nd:(LS.slots ls).Nodup
 neP:∀s,s∈LS.slots ls∨s=p0∨s=sO→∀off l c,vP≠.sl s off l c
 neC:∀s,s∈LS.slots ls∨s=p0∨s=sO→∀off l c,vC≠.sl s off l c
 neL:p0∉LS.slots ls∧sO∉LS.slots ls
 nePC:∀s off l c,vP=.sl s off l c→∀off l c,vC≠.sl s off l c
variable {h:PHeap} {p0 sO:Nat} {vO vP vC:PV} {cO pc:List PV} {ls:List (Option LS)}
theorem TI.lt (a:TI σ h p0 sO vO vP vC cO pc ls) {s:Nat} (hs:s∈LS.slots ls):σ.next≤s∧s<h.next:=by
 obtain⟨q,hq,rfl⟩:=LS.mem_slots.1 hs
 have:=a.ok q hq
 exact⟨this.2.2.1,this.2.2.2⟩
theorem TI.keepI {h2:PHeap} (a:TI σ h p0 sO vO vP vC cO pc ls) (k:Keep h h2):TI σ h2 p0 sO vO vP vC cO pc ls:=
  ⟨a.keep.trans k,by rw [k.obj _ a.p0b.2];exact a.obj,⟨a.p0b.1,Nat.lt_of_lt_of_le a.p0b.2 k.next⟩,by rw [k.obj _ a.sOb.2];exact a.oO,⟨a.sOb.1,Nat.lt_of_lt_of_le a.sOb.2 k.next⟩,a.pO,a.accP.keep k,a.accC.keep k,
   fun q hq=>(a.ok q hq).move (k.obj _ (a.ok q hq).2.2.2) k.next,a.nd,a.neP,a.neC,a.neL,a.nePC⟩
theorem TI.pushP {K:PV×PHeap→Prop} {row:PV} (a:TI σ h p0 sO vO vP vC cO pc ls) (hone:vO.one=true∧vC.one=true) (hb:pc.length≤1000)
  (k:∀v' h2,v'.one=true→v'.cells=[v']→h2.wr p0 1 [v']=some (h2.set p0 [vO,v',vC])→TI σ (h2.set p0 [vO,v',vC]) p0 sO vO v' vC cO (pc++[row]) ls→h.next<h2.next→K (v',h2)):
  optK (qH 1 24 (h.new [row]) vP (.sl h.next 0 1 (.known 1))) K:=by
 refine PAcc.pushS (σb:=σ) (bytes:=24) a.keep a.accP rfl (by omega) (by omega) fun v' h2 k2 a2 o2 n2 l2=>?_
 have hp:=a.p0b;have hs:=a.sOb;have hob:h2.obj p0=some [vO,vP,vC]:=by rw [o2 _ hp.2 (a.neP _ (.inr (.inl rfl)))];exact a.obj
 refine k v' h2 a2.one a2.cells (by rw [zq hob,if_pos ⟨by simp,by simp [a2.one]⟩];rfl) ⟨k2.set hp.1 _,by rw [zH,if_pos rfl],⟨hp.1,by show p0<h2.next;omega⟩,?_,⟨hs.1,by show sO<h2.next;omega⟩,a.pO,?_,?_,fun q hq=>?_,a.nd,fun s hs=>?_,a.neC,a.neL,fun s off l c e=>?_⟩ l2
 ·rw [zH,if_neg (Ne.symm a.pO),o2 _ hs.2 (a.neP _ (.inr (.inr rfl)))];exact a.oO
 ·have a3:PAcc σ.next 1 (h2.set p0 [vO,v',vC]) v' (pc.length+1) (pc++[row]):=zBB a2.acc (fun s off l c e=>by rw [zH,if_neg fun e2=>n2 p0 hp.2 off l c (by rw [e,e2])]) (Nat.le_refl _)
  simpa using a3
 ·refine zBB a.accC (fun s off l c e=>?_) (Nat.le_of_lt l2)
  have hsp:s≠p0:=fun e2=>a.neC p0 (.inr (.inl rfl)) off l c (by rw [e,e2])
  rw [zH,if_neg hsp,o2 s (Q7 a.accC e) fun off' l' c' e'=>a.nePC s off' l' c' e' off l c e]
 ·have hq':=a.ok q hq
  have hm:q.s∈LS.slots ls:=LS.mem_slots.2 ⟨q,hq,rfl⟩;refine hq'.move ?_ (Nat.le_of_lt l2);rw [zH,if_neg fun e=>a.neL.1 (by rw [←e];exact hm),o2 _ hq'.2.2.2 (a.neP _ (.inl hm))]
 ·have:s<h.next:=by
   rcases hs with hs|rfl|rfl
   ·exact(a.lt hs).2
   ·exact hp.2
   ·omega
  exact n2 s this
 ·intro off' l' c' e'
  exact n2 s (Q7 a.accC e') off l c e
theorem TI.pushC {K:PV×PHeap→Prop} {o:Option LS} (a:TI σ h p0 sO vO vP vC cO pc ls) (hone:vO.one=true∧vP.one=true) (hb:ls.length≤1000)
  (ho:∀q,o=some q→q.ok h σ.next∧q.s∉LS.slots ls∧q.s≠p0∧q.s≠sO∧(∀off l c,vP≠.sl q.s off l c)∧∀off l c,vC≠.sl q.s off l c)
  (k:∀v' h2,v'.one=true→v'.cells=[v']→h2.wr p0 2 [v']=some (h2.set p0 [vO,vP,v'])→TI σ (h2.set p0 [vO,vP,v']) p0 sO vO vP v' cO pc (ls++[o])→h.next<h2.next→K (v',h2)):
  optK (qH 1 24 (h.new [LS.pvo o]) vC (.sl h.next 0 1 (.known 1))) K:=by
 refine PAcc.pushS (σb:=σ) (bytes:=24) a.keep a.accC rfl (by omega) (by omega) fun v' h2 k2 a2 o2 n2 l2=>?_
 have hp:=a.p0b;have hs:=a.sOb;have hob:h2.obj p0=some [vO,vP,vC]:=by rw [o2 _ hp.2 (a.neC _ (.inr (.inl rfl)))];exact a.obj
 have mo:∀s,s∈LS.slots (ls++[o])→s∈LS.slots ls∨∃q,o=some q∧q.s=s:=fun s hs=>by
  rw [LS.slots_app,List.mem_append]at hs
  refine hs.imp id fun hs=>?_
  obtain⟨q,hq,e⟩:=LS.mem_slots.1 hs;exact⟨q,(List.mem_singleton.1 hq).symm,e⟩
 refine k v' h2 a2.one a2.cells (by rw [zq hob,if_pos ⟨by simp,by simp [a2.one]⟩];rfl) ⟨k2.set hp.1 _,by rw [zH,if_pos rfl],⟨hp.1,by show p0<h2.next;omega⟩,?_,⟨hs.1,by show sO<h2.next;omega⟩,a.pO,?_,?_,fun q hq=>?_,?_,fun s hs=>?_,fun s hs=>?_,⟨fun hm=>?_,fun hm=>?_⟩,fun s off l c e=>?_⟩ l2
 ·rw [zH,if_neg (Ne.symm a.pO),o2 _ hs.2 (a.neC _ (.inr (.inr rfl)))];exact a.oO
 ·refine zBB a.accP (fun s off l c e=>?_) (Nat.le_of_lt l2)
  have hsp:s≠p0:=fun e2=>a.neP p0 (.inr (.inl rfl)) off l c (by rw [e,e2])
  rw [zH,if_neg hsp,o2 s (Q7 a.accP e) (a.nePC s off l c e)]
 ·have a3:PAcc σ.next 1 (h2.set p0 [vO,vP,v']) v' (ls.length+1) (ls.map LS.pvo++[LS.pvo o]):=zBB a2.acc (fun s off l c e=>by rw [zH,if_neg fun e2=>n2 p0 hp.2 off l c (by rw [e,e2])]) (Nat.le_refl _)
  simpa using a3
 ·rcases List.mem_append.1 hq with hq | hq
  ·have hq':=a.ok q hq
   have hm:q.s∈LS.slots ls:=LS.mem_slots.2 ⟨q,hq,rfl⟩;refine hq'.move ?_ (Nat.le_of_lt l2);rw [zH,if_neg fun e=>a.neL.1 (by rw [←e];exact hm),o2 _ hq'.2.2.2 (a.neC _ (.inl hm))]
  ·obtain⟨h1,h3,h4,h5,h6,h7⟩:=ho q (List.mem_singleton.1 hq).symm
   refine h1.move ?_ (Nat.le_of_lt l2);rw [zH,if_neg h4,o2 _ h1.2.2.2 h7]
 ·rw [LS.slots_app,List.nodup_append]
  refine⟨a.nd,?_,fun x hx y hy e=>?_⟩
  ·cases o<;>simp [LS.slots]
  ·cases o with
   | none=>cases hy
   | some q=>
    simp only [LS.slots,List.mem_singleton]at hy
    exact(ho q rfl).2.1 (by rw [←hy,←e];exact hx)
 ·rcases hs with hs | hs
  ·rcases mo s hs with hs | ⟨q,e,rfl⟩
   ·exact a.neP s (.inl hs)
   ·exact(ho q e).2.2.2.2.1
  ·exact a.neP s (.inr hs)
 ·have:s<h.next:=by
   rcases hs with hs|rfl|rfl
   ·rcases mo s hs with hs | ⟨q,e,rfl⟩
    ·exact(a.lt hs).2
    ·exact(ho q e).1.2.2.2
   ·exact hp.2
   ·omega
  exact n2 s this
 ·rcases mo _ hm with hm | ⟨q,e,e2⟩
  ·exact a.neL.1 hm
  ·exact(ho q e).2.2.1 e2
 ·rcases mo _ hm with hm | ⟨q,e,e2⟩
  ·exact a.neL.2 hm
  ·exact(ho q e).2.2.2.1 e2
 ·exact n2 s (Q7 a.accP e)
end Go.Proofs
namespace Go.Proofs
open Go.Ab Go.Lie
variable {σ h:PHeap} {K:PV→PHeap→Prop} {n:Nat} {p:Int} {p0 sO:Nat} {vO vP vC:PV} {cO pc:List PV} {ls:List (Option LS)} {O:List Int}
theorem TI.res {X Y:List PV} (a:TI (σ.new X) h p0 sO vO vP vC cO pc ls):TI σ (h.set σ.next Y) p0 sO vO vP vC cO pc ls:=by
 have hn:(σ.new X).next=σ.next+1:=rfl;have hp:=a.p0b;have hs:=a.sOb;refine⟨((zD σ X).trans a.keep).set (Nat.le_refl _) _,by rw [zH,if_neg (by omega)];exact a.obj,⟨by omega,hp.2⟩,by rw [zH,if_neg (by omega)];exact a.oO,⟨by omega,hs.2⟩,a.pO,?_,?_,fun q hq=>?_,a.nd,a.neP,a.neC,a.neL,a.nePC⟩
 ·rcases a.accP with g | ⟨s,cap,e,h1,h2,h3,h4,h5⟩
  ·exact .inl g
  ·exact .inr ⟨s,cap,e,h1,by rw [zH,if_neg (by omega)];exact h2,h3,by omega,h5⟩
 ·rcases a.accC with g | ⟨s,cap,e,h1,h2,h3,h4,h5⟩
  ·exact .inl g
  ·exact .inr ⟨s,cap,e,h1,by rw [zH,if_neg (by omega)];exact h2,h3,by omega,h5⟩
 ·obtain⟨h1,h2,h3,h4⟩:=a.ok q hq
  exact⟨h1,by rw [zH,if_neg (by omega)];exact h2,by omega,h4⟩
def zC1 (n:Nat) (ls:List (Option LS)):Prop:=∀j (h:j<ls.length),(j+1=n→ls[j]=none)∧(j+1<n→∃q,ls[j]=some q∧q.cs.length=n-1-j)
theorem zC1.snoc {o:Option LS} (h:zC1 n ls) (h1:ls.length+1=n→o=none) (h2:ls.length+1<n→∃q,o=some q∧q.cs.length=n-1-ls.length):zC1 n (ls++[o]):=by
 intro j hj;rw [List.length_append,List.length_singleton]at hj
 rcases Nat.lt_or_ge j ls.length with x|x
 ·rw [List.getElem_append_left x];exact h j x
 ·have e:j=ls.length:=by omega
  subst e;rw [List.getElem_append_right (Nat.le_refl _)];simp only [Nat.sub_self,List.getElem_cons_zero];exact⟨h1,h2⟩
theorem zCN (hv:FI vO []) (hk:∀h,Keep σ h→K (.agg [.fz true .nils 0 [],.fz true .nils 0 [],.fz true .nils 0 []]) h)
  (hk2:∀h cap,full 1 cap 0→Keep σ h→h.obj (σ.next+1)=some []→σ.next+1<h.next→K (.agg [.sl (σ.next+1) 0 0 cap,.fz true .nils 0 [],.fz true .nils 0 []]) h):zA Tryz.prog 189 [vO] σ K:=by
 obtain⟨w,a,rfl⟩:=hv;refine zC mix Tryz.func189 ?_
 conv=>arg 2;cbv
 refine zF rfl ?_;simp only [pwA,seval,-iQ0];refine Zw rfl (by simp) ⟨fun h0=>?_,fun cap hc=>?_⟩
 ·simp only [pwA,seval,-iQ0]
  refine zG (fun m us h'=>m=0∧us=[.ptr σ.next 0,.int .i64 (0:Nat),.ptr (σ.next+1) 0,.int .i64 (0:Nat),.int .i64 (0:Nat)]∧h'=(σ.new [.fz true .nils 0 [],.fz true .nils 0 [],.fz true .nils 0 []]).new [.fz true .nils 0 [],.fz true .nils 0 [],.fz true .nils 0 []]) 0 ⟨rfl,rfl,rfl⟩ ?_
  rintro m us h' ⟨rfl,rfl,rfl⟩
  simp only [pwA,seval,-iQ0];exact hk _ ((zD σ _).new _)
 ·simp only [pwA,seval,-iQ0]
  refine zG (fun m us h'=>m=0∧us=[.ptr σ.next 0,.int .i64 (0:Nat),.ptr (σ.next+2) 0,.int .i64 (0:Nat),.int .i64 (0:Nat)]∧h'=((σ.new [.fz true .nils 0 [],.fz true .nils 0 [],.fz true .nils 0 []]).new []).new [.sl (σ.next+1) 0 0 cap,.fz true .nils 0 [],.fz true .nils 0 []]) 0 ⟨rfl,rfl,rfl⟩ ?_
  rintro m us h' ⟨rfl,rfl,rfl⟩
  simp only [pwA,seval,-iQ0];refine hk2 _ cap hc (((zD σ _).new _).new _) ?_ ?_
  ·simp only [pwA,seval,-iQ0]
  ·simp only [pwA,seval,-iQ0];omega
theorem zCJ (hv:FI vO O) (hn:O.length=n) (hn1:1≤n) (hn6:n≤6)
  (hk:∀cap vP vC pc ls h,full 1 cap n→TI σ h (σ.next+2) (σ.next+1) (.sl (σ.next+1) 0 n cap) vP vC (pis O) pc ls→pc.length=n→ls.length=n→zC1 n ls→K (.agg [.sl (σ.next+1) 0 n cap,vP,vC]) h):
  zA Tryz.prog 189 [vO] σ K:=by
 obtain⟨w,a,rfl⟩:=hv;subst hn;refine zC mix Tryz.func189 ?_
 conv=>arg 2;cbv
 refine zF rfl ?_;simp only [pwA,seval,-iQ0];refine Zw rfl (by omega) ⟨fun h0=>by rw [h0]at hn1;simp at hn1,fun cap hc=>?_⟩
 generalize hS:σ.new [.fz true .nils 0 [],.fz true .nils 0 [],.fz true .nils 0 []]=S;have hSn:S.next=σ.next+1:=by rw [←hS];rfl
 simp only [pwA,seval,-iQ0];refine zG (fun m us h'=>∃(i:Nat) (vP vC:PV) (pc:List PV) (ls:List (Option LS)),i≤O.length∧m=O.length-i∧us=[.ptr σ.next 0,.int .i64 O.length,.ptr (S.next+1) 0,.int .i64 O.length,.int .i64 i]∧TI S h' (S.next+1) S.next (.sl S.next 0 O.length cap) vP vC (pis O) pc ls∧pc.length=i∧ls.length=i∧zC1 O.length ls) O.length ?_ ?_
 ·exact⟨0,_,_,[],[],by omega,by omega,rfl,⟨(zD S _).new _,by simp only [pwA,seval,-iQ0],⟨by omega,by simp only [pwA,seval,-iQ0]⟩,by simp only [pwA,seval,-iQ0],⟨Nat.le_refl _,by simp only [pwA,seval,-iQ0];omega⟩,by omega,PAcc.nil _ _ _,PAcc.nil _ _ _,fun q hq=>(by cases hq),List.nodup_nil,fun s hs off l c e=>(by cases e),fun s hs off l c e=>(by cases e),⟨fun h=>(by cases h),fun h=>(by cases h)⟩,fun s off l c e=>(by cases e)⟩,rfl,rfl,fun j hj=>absurd hj (by simp)⟩
 as_aux_lemma=>
 rintro m us h' ⟨i,vP,vC,pc,ls,hi,rfl,rfl,a,hpl,hll,hsh⟩
 have hone:vP.one=true∧vC.one=true:=⟨a.accP.one,a.accC.one⟩;have q0:h'.rd1 (S.next+1) 1=some vP:=by rw [zI a.obj];rfl
 have q3:h'.rd (S.next+1) 0 3=some [.sl S.next 0 O.length cap,vP,vC]:=by rw [zh a.obj];rfl
 simp only [pwA,seval,-iQ0];refine iteI (fun hlt=>?_) fun hge=>?_
 rotate_left
 ·have hie:i=O.length:=by omega
  have hres:h'.obj σ.next=some [.fz true .nils 0 [],.fz true .nils 0 [],.fz true .nils 0 []]:=by rw [a.keep.obj _ (by omega),←hS];simp only [pwA,seval,-iQ0]
  have hwr:h'.wr σ.next 0 [.sl S.next 0 O.length cap,vP,vC]=some (h'.set σ.next [.sl S.next 0 O.length cap,vP,vC]):=by
   rw [zq hres,if_pos ⟨by simp,by simp only [List.all_cons,List.all_nil,hone.1,hone.2];rfl⟩];rfl
  have hrd:(h'.set σ.next [.sl S.next 0 O.length cap,vP,vC]).rd σ.next 0 3=some [.sl S.next 0 O.length cap,vP,vC]:=by rw [qo,if_pos rfl];rfl
  rw [←hS]at a
  have a2:=a.res (Y:=[.sl S.next 0 O.length cap,vP,vC]);rw [hS]at a2
  rw [hSn]at a2
  have:=hk cap vP vC pc ls _ hc a2 (by omega) (by omega) hsh
  simp only [pwA,seval,-iQ0,q3,hwr,hrd];rw [hSn];exact this
 have hlt':i<O.length:=by omega
 have mk:=mk8 (n:=O.length) (by omega)
 have hne1:¬S.next+1=h'.next:=by have:=a.p0b.2;omega
 have hne2:¬S.next=h'.next:=by have:=a.sOb.2;omega
 simp only [pwA,seval,-iQ0,q0,mk,mkL (n:=O.length) (by omega),List.length_replicate,hne1,hne2]
 refine TI.pushP (a.keepI (zD h' _)) ⟨rfl,hone.2⟩ (by omega) fun v2 h2 u1 u2 u3 a2 l2=>?_
 simp only [pwA,seval,-iQ0,u1,u2,u3];clear u1 u2 u3 q0 q3 hne1 hne2;generalize h2.set (S.next+1) [.sl S.next 0 O.length cap,v2,vC]=hb at *
 have wi1:IntKind.i64.wrap ((i:Int)+1)=((i+1:Nat):Int):=wrapS hlt' (by omega)
 simp only [pwA,seval,-iQ0,wi1];refine zG (fun m us h3=>∃(q:Nat) (vL:PV) (cells:List PV),i+(1+q)≤O.length∧m=O.length-(i+(1+q))∧us=[.ptr σ.next 0,.int .i64 O.length,.ptr (S.next+1) 0,vL,.int .i64 ((i+(1+q):Nat):Int),.int .i64 O.length,.int .i64 i]∧Keep hb h3∧PAcc hb.next 1 h3 vL q cells∧(q=0→vL=.fz true .nils 0 [])) (O.length-(i+1)) ⟨0,_,[],by omega,rfl,rfl,Keep.refl _,PAcc.nil _ _ _,fun _=>rfl⟩ ?_
 rintro m us h3 ⟨q,vL,cells,hq,rfl,rfl,k3,p3,hnil⟩
 have b:=a2.keepI k3;have q2:h3.rd1 (S.next+1) 2=some vC:=by rw [zI b.obj];rfl
 simp only [pwA,seval,-iQ0];refine iteI (fun hltq=>?_) fun hgeq=>?_
 ·have hq':i+(1+q)<O.length:=by omega
  have e5:IntKind.i64.wrap (((i+(1+q):Nat):Int)+1)=((i+(1+(q+1)):Nat):Int):=by rw [wrap64 (by omega) (by omega)];omega
  simp only [pwA,seval,-iQ0];refine zn (by omega) hq' fun av=>?_
  simp only [pwA,seval,-iQ0];refine PAcc.push (bytes:=24) (σb:=hb) k3 p3 (by omega) (by omega) fun v' h4 k4 p4=>?_
  simp only [pwA,seval,-iQ0,e5];exact⟨_,by omega,q+1,v',_,by omega,rfl,rfl,k4,p4.acc,fun h=>by omega⟩
 have hqe:q=O.length-1-i:=by omega
 have hne:¬S.next+1=h3.next:=by have:=b.p0b.2;omega
 have hL1:=p3.one;have hL2:=p3.cells;have hbn:hb.next≤h3.next:=k3.next;obtain⟨o,ho,hov⟩:∃o:Option LS,LS.pvo o=vL∧((o=none∧q=0)∨∃s c,o=some ⟨s,c,cells⟩∧cells.length=q∧0<q∧full 1 c q∧h3.obj s=some cells∧hb.next≤s∧s<h3.next):=by
  rcases Nat.eq_zero_or_pos q with e|e
  ·exact⟨none,(hnil e).symm,.inl ⟨rfl,e⟩⟩
  ·obtain⟨s,c,rfl,z1,z2,z3,z4,z5⟩:=p3.pos e
   exact⟨some ⟨s,c,cells⟩,by simp only [LS.pvo,LS.pv];rw [show cells.length=q by omega],.inr ⟨s,c,rfl,by omega,e,z1,z2,z4,z5⟩⟩
 subst ho;simp only [pwA,seval,-iQ0,q2,hL1,hL2,hne];refine TI.pushC b ⟨rfl,b.accP.one⟩ (by omega) (fun q' e=>?_) fun v5 h5 u1 u2 u3 a5 l5=>?_
 ·rcases hov with ⟨e1,_⟩ | ⟨s,c,e1,z0,z1,z2,z3,z4,z5⟩
  ·rw [e1]at e;cases e
  ·rw [e1]at e
   cases e;have hb0:=a2.p0b;have hb1:=a2.sOb;refine⟨⟨by rw [z0];exact z2,z3,by have:=a2.keep.next;show S.next≤s;omega,z5⟩,fun hm=>?_,by show s≠_;omega,by show s≠_;omega,fun off l c' e2=>?_,fun off l c' e2=>?_⟩
   ·have:=(a2.lt hm).2
    have:s<hb.next:=this
    omega
   ·have:s<hb.next:=Q7 a2.accP e2
    omega
   ·have:s<hb.next:=Q7 a2.accC e2
    omega
 simp only [pwA,seval,-iQ0,u1,u2,u3,wrapS hlt' (by omega:O.length≤4611686018427387904)]
 refine⟨_,by omega,i+1,v2,v5,_,ls++[o],by omega,rfl,rfl,a5,by rw [List.length_append];simp;omega,by rw [List.length_append];simp;omega,hsh.snoc (fun e=>?_) fun e=>?_⟩
 ·rcases hov with ⟨e1,_⟩ | ⟨s,c,e1,z0,z1,z2,z3,z4,z5⟩
  ·exact e1
  ·omega
 ·rcases hov with ⟨e1,e2⟩ | ⟨s,c,e1,z0,z1,z2,z3,z4,z5⟩
  ·omega
  ·exact⟨_,e1,by rw [hll];show cells.length=_;omega⟩
end Go.Proofs
namespace Go.Proofs
open Go.Ab Go.Lie
variable {σ H h:PHeap} {K:PV→PHeap→Prop} {n:Nat} {p:Int} {tp sO sP sC:Nat} {vO:PV} {pc cO:List PV} {ls:List (Option LS)} {O x:List Int} {capO capP capC cap:Cap} {rows cur:List SR} {Rs:List (List SR)}
structure BF (σ H:PHeap) (tp sO sP sC:Nat) (ls:List (Option LS)):Prop where
 b:∀s,s∈[tp,sO,sP,sC]++LS.slots ls→σ.next≤s∧s<H.next
 nd:([tp,sO,sP,sC]++LS.slots ls).Nodup
def cont (Rs:List (List SR)) (cur:List SR) (j:Nat) (q:LS):List PV:=
 if j<Rs.length then(Rs.getD j []).map SR.pv else if j=Rs.length then cur.map SR.pv++q.cs.drop cur.length else q.cs
structure LI (σ H h:PHeap) (tp sO sP sC:Nat) (vO:PV) (capP capC:Cap) (n:Nat) (cO:List PV) (pc:List PV) (ls:List (Option LS)) (rows:List SR) (Rs:List (List SR)) (cur:List SR):Prop where
 keep:Keep σ h
 nx:H.next≤h.next
 tpo:h.obj tp=some [vO,.sl sP 0 n capP,.sl sC 0 n capC]
 oO:h.obj sO=some cO
 oP:h.obj sP=some (rows.map SR.pv++pc.drop rows.length)
 oC:h.obj sC=some (ls.map LS.pvo)
 oL:∀j q,ls[j]? = some (some q)→h.obj q.s=some (cont Rs cur j q)
 ok:∀q,q∈rows∨q∈Rs.flatten∨q∈cur→q.ok h H.next
 nd:(qW (rows++(Rs.flatten++cur))).Nodup
theorem LS.mem_of_get {j:Nat} {q:LS} (h:ls[j]? = some (some q)):q.s∈LS.slots ls:=LS.mem_slots.2 ⟨q,List.mem_of_getElem? h,rfl⟩
theorem LI.keepI {h2:PHeap} (b:BF σ H tp sO sP sC ls) (a:LI σ H h tp sO sP sC vO capP capC n cO pc ls rows Rs cur) (k:Keep h h2):LI σ H h2 tp sO sP sC vO capP capC n cO pc ls rows Rs cur:=by
 have hn:=a.nx;have o:∀s,s∈[tp,sO,sP,sC]++LS.slots ls→h2.obj s=h.obj s:=fun s hs=>k.obj s (by have:=(b.b s hs).2;omega)
 refine⟨a.keep.trans k,Nat.le_trans a.nx k.next,by rw [o tp (by simp)];exact a.tpo,by rw [o sO (by simp)];exact a.oO,by rw [o sP (by simp)];exact a.oP,by rw [o sC (by simp)];exact a.oC,fun j q hq=>?_,fun q hq=>(a.ok q hq).keep k,a.nd⟩
 rw [o q.s (List.mem_append.2 (.inr (LS.mem_of_get hq)))];exact a.oL j q hq
theorem LS.slots_inj:∀{ls:List (Option LS)} {i j:Nat} {q q':LS},(LS.slots ls).Nodup→ls[i]? = some (some q)→ls[j]? = some (some q')→q.s=q'.s→i=j
 | [],i,j,q,q',_,h,_,_=>by simp at h
 | o::ls,0,0,q,q',_,_,_,_=>rfl
 | none::ls,0,j+1,q,q',_,h,_,_=>by simp at h
 | none::ls,i+1,0,q,q',_,_,h,_=>by simp at h
 | some r::ls,0,j+1,q,q',hn,h,g,e=>by
  simp only [List.getElem?_cons_zero,Option.some.injEq,List.getElem?_cons_succ,LS.slots,List.nodup_cons]at h g hn
  subst h;exact absurd (LS.mem_of_get g) (by rw [←e];exact hn.1)
 | some r::ls,i+1,0,q,q',hn,h,g,e=>by
  simp only [List.getElem?_cons_zero,Option.some.injEq,List.getElem?_cons_succ,LS.slots,List.nodup_cons]at h g hn
  subst g;exact absurd (LS.mem_of_get h) (by rw [e];exact hn.1)
 | none::ls,i+1,j+1,q,q',hn,h,g,e=>by have:=LS.slots_inj (ls:=ls) hn (by simpa using h) (by simpa using g) e;omega
 | some r::ls,i+1,j+1,q,q',hn,h,g,e=>by
  simp only [LS.slots,List.nodup_cons]at hn
  have:=LS.slots_inj (ls:=ls) hn.2 (by simpa using h) (by simpa using g) e
  omega
theorem zHg {a b:List PV}:(a++b).drop (a.length+1)=b.drop 1:=by
 rw [←List.drop_drop,List.drop_left'];rfl
theorem zAo {q:SR} {s:Nat} {cs:List PV} (a:q.ok h H.next) (hs:s<H.next):q.ok (h.set s cs) H.next:=⟨a.1,by rw [zH,if_neg (by have:=a.2.2.1;omega)];exact a.2.1,a.2.2.1,a.2.2.2⟩
theorem zNM {q:SR} (hq:q∈rows++(Rs.flatten++cur)):q∈rows∨q∈Rs.flatten∨q∈cur:=by
 simpa only [List.mem_append]using hq
theorem LI.fresh (a:LI σ H h tp sO sP sC vO capP capC n cO pc ls rows Rs cur):h.next∉qW (rows++(Rs.flatten++cur)):=fun hm=>by
 obtain⟨q,hq,e⟩:=List.mem_map.1 hm
 have:=(a.ok q (zNM hq)).2.2.2
 omega
theorem LI.putP (b:BF σ H tp sO sP sC ls) (a:LI σ H h tp sO sP sC vO capP capC n cO pc ls rows Rs cur) (hf:full 1 cap x.length) (hl:rows.length<pc.length):
  (h.new (pis x)).wr sP rows.length [.sl h.next 0 x.length cap]=some ((h.new (pis x)).set sP ((rows++[(⟨h.next,cap,x⟩:SR)]).map SR.pv++pc.drop (rows.length+1)))∧
  LI σ H ((h.new (pis x)).set sP ((rows++[(⟨h.next,cap,x⟩:SR)]).map SR.pv++pc.drop (rows.length+1))) tp sO sP sC vO capP capC n cO pc ls (rows++[(⟨h.next,cap,x⟩:SR)]) Rs cur:=by
 have a1:=a.keepI b (zD h (pis x));have hnx:=a.nx;have bP:=b.b sP (by simp)
 have nd:=b.nd;simp only [List.cons_append,List.nil_append,List.nodup_cons,List.mem_cons,not_or]at nd
 obtain⟨⟨n1,n2,n3,n4⟩,⟨n5,n6,n7⟩,⟨n8,n9⟩,_⟩:=nd;have ob:=a1.oP;refine⟨?_,a1.keep.set bP.1 _,a1.nx,by rw [zH,if_neg n2];exact a1.tpo,by rw [zH,if_neg n5];exact a1.oO,by rw [zH,if_pos rfl,List.length_append,List.length_singleton],by rw [zH,if_neg (Ne.symm n8)];exact a1.oC,fun j q hq=>?_,fun q hq=>?_,?_⟩
 ·rw [zq ob,if_pos ⟨by simp only [List.length_append,List.length_map,List.length_drop,List.length_singleton];omega,rfl⟩]
  congr 2
  have e1:(rows.map SR.pv++pc.drop rows.length).take rows.length=rows.map SR.pv:=by
   have:(rows.map SR.pv).length=rows.length:=List.length_map _
   rw [←this,List.take_left'];rfl
  have e2:(rows.map SR.pv++pc.drop rows.length).drop (rows.length+1)=pc.drop (rows.length+1):=by
   have:=zHg (a:=rows.map SR.pv) (b:=pc.drop rows.length)
   rwa [List.length_map,List.drop_drop]at this
  rw [List.length_singleton,e1,e2,List.map_append];rfl
 ·have hm:=LS.mem_of_get hq
  rw [zH,if_neg fun e=>n9 (by rw [←e];exact hm)]
  exact a1.oL j q hq
 ·have new:SR.ok (h.new (pis x)) H.next (⟨h.next,cap,x⟩:SR):=⟨hf,by rw [zP,if_pos rfl],hnx,Nat.lt_succ_self _⟩
  rcases hq with hq|hq
  ·rcases List.mem_append.1 hq with hq | hq
   ·exact zAo (a1.ok q (.inl hq)) bP.2
   ·rw [List.mem_singleton.1 hq];exact zAo new bP.2
  ·exact zAo (a1.ok q (.inr hq)) bP.2
 ·have hp:(qW ((rows++[(⟨h.next,cap,x⟩:SR)])++(Rs.flatten++cur))).Perm (h.next::qW (rows++(Rs.flatten++cur))):=by
   simp only [qW,List.append_assoc,List.map_append,List.map_cons,List.map_nil,List.cons_append,List.nil_append];exact List.perm_middle
  exact hp.nodup_iff.2 (List.nodup_cons.2 ⟨a.fresh,a.nd⟩)
theorem LI.putC {q0:LS} (b:BF σ H tp sO sP sC ls) (a:LI σ H h tp sO sP sC vO capP capC n cO pc ls rows Rs cur) (hf:full 1 cap x.length) (hq0:ls[Rs.length]? = some (some q0)) (hl:cur.length<q0.cs.length):
  (h.new (pis x)).wr q0.s cur.length [.sl h.next 0 x.length cap]=some ((h.new (pis x)).set q0.s ((cur++[(⟨h.next,cap,x⟩:SR)]).map SR.pv++q0.cs.drop (cur.length+1)))∧
  LI σ H ((h.new (pis x)).set q0.s ((cur++[(⟨h.next,cap,x⟩:SR)]).map SR.pv++q0.cs.drop (cur.length+1))) tp sO sP sC vO capP capC n cO pc ls rows Rs (cur++[(⟨h.next,cap,x⟩:SR)]):=by
 have a1:=a.keepI b (zD h (pis x));have hnx:=a.nx;have hm0:=LS.mem_of_get hq0;have bP:=b.b q0.s (List.mem_append.2 (.inr hm0));have nd:=b.nd;simp only [List.cons_append,List.nil_append,List.nodup_cons,List.mem_cons,not_or]at nd
 obtain⟨⟨n1,n2,n3,n4⟩,⟨n5,n6,n7⟩,⟨n8,n9⟩,n10,n11⟩:=nd;have ob:=a1.oL _ _ hq0;have hc:cont Rs cur Rs.length q0=cur.map SR.pv++q0.cs.drop cur.length:=by unfold cont;rw [if_neg (Nat.lt_irrefl _),if_pos rfl]
 rw [hc]at ob
 refine⟨?_,a1.keep.set bP.1 _,a1.nx,by rw [zH,if_neg fun e=>n4 (by rw [e];exact hm0)];exact a1.tpo,by rw [zH,if_neg fun e=>n7 (by rw [e];exact hm0)];exact a1.oO,by rw [zH,if_neg fun e=>n9 (by rw [e];exact hm0)];exact a1.oP,by rw [zH,if_neg fun e=>n10 (by rw [e];exact hm0)];exact a1.oC,fun j q hq=>?_,fun q hq=>?_,?_⟩
 ·rw [zq ob,if_pos ⟨by simp only [List.length_append,List.length_map,List.length_drop,List.length_singleton];omega,rfl⟩]
  congr 2
  have e1:(cur.map SR.pv++q0.cs.drop cur.length).take cur.length=cur.map SR.pv:=by
   have:(cur.map SR.pv).length=cur.length:=List.length_map _
   rw [←this,List.take_left'];rfl
  have e2:(cur.map SR.pv++q0.cs.drop cur.length).drop (cur.length+1)=q0.cs.drop (cur.length+1):=by
   have:=zHg (a:=cur.map SR.pv) (b:=q0.cs.drop cur.length)
   rwa [List.length_map,List.drop_drop]at this
  rw [List.length_singleton,e1,e2,List.map_append];rfl
 ·by_cases e:j=Rs.length
  ·subst e
   rw [hq0]at hq
   cases hq;rw [zH,if_pos rfl];unfold cont;rw [if_neg (Nat.lt_irrefl _),if_pos rfl,List.length_append,List.length_singleton]
  ·have hne:q.s≠q0.s:=fun es=>by
    exact e (LS.slots_inj n11 hq hq0 es)
   rw [zH,if_neg hne,a1.oL j q hq];unfold cont;rw [if_neg (show ¬j=Rs.length from e),if_neg (show ¬j=Rs.length from e)]
 ·have new:SR.ok (h.new (pis x)) H.next (⟨h.next,cap,x⟩:SR):=⟨hf,by rw [zP,if_pos rfl],hnx,Nat.lt_succ_self _⟩
  rcases hq with hq|hq|hq
  ·exact zAo (a1.ok q (.inl hq)) bP.2
  ·exact zAo (a1.ok q (.inr (.inl hq))) bP.2
  ·rcases List.mem_append.1 hq with hq | hq
   ·exact zAo (a1.ok q (.inr (.inr hq))) bP.2
   ·rw [List.mem_singleton.1 hq];exact zAo new bP.2
 ·have hp:(qW (rows++(Rs.flatten++(cur++[(⟨h.next,cap,x⟩:SR)])))).Perm (h.next::qW (rows++(Rs.flatten++cur))):=by
   simp only [qW,List.map_append,List.map_cons,List.map_nil];rw [←List.append_assoc,←List.append_assoc,List.append_assoc (List.map SR.s rows)];exact List.perm_append_singleton _ _
  exact hp.nodup_iff.2 (List.nodup_cons.2 ⟨a.fresh,a.nd⟩)
theorem LI.close (a:LI σ H h tp sO sP sC vO capP capC n cO pc ls rows Rs cur) (hl:∀q,ls[Rs.length]? = some (some q)→cur.length=q.cs.length):LI σ H h tp sO sP sC vO capP capC n cO pc ls rows (Rs++[cur]) []:=by
 refine⟨a.keep,a.nx,a.tpo,a.oO,a.oP,a.oC,fun j q hq=>?_,fun q hq=>a.ok q ?_,?_⟩
 ·rw [a.oL j q hq]
  unfold cont;rw [List.length_append,List.length_singleton];rcases Nat.lt_trichotomy j Rs.length with x|x|x
  ·rw [if_pos x,if_pos (by omega)]
   simp [List.getD_eq_getElem?_getD,List.getElem?_append_left x]
  ·subst x
   rw [if_neg (Nat.lt_irrefl _),if_pos rfl,if_pos (by omega),List.drop_of_length_le (by rw [hl q hq];exact Nat.le_refl _)]
   simp [List.getD_eq_getElem?_getD]
  ·rw [if_neg (by omega),if_neg (by omega),if_neg (by omega)]
   split<;>simp
 ·rcases hq with hq | hq | hq
  ·exact .inl hq
  ·simp only [List.flatten_append,List.flatten_cons,List.flatten_nil,List.append_nil,List.mem_append]at hq
   exact .inr hq
  ·cases hq
 ·have:=a.nd
  simpa [List.flatten_append]using this
end Go.Proofs
namespace Go.Proofs
open Go.Ab Go.Lie
variable {σ H h:PHeap} {K:PV→PHeap→Prop} {n:Nat} {a:Nat→Nat} {b:Nat} {tp sO sP sC:Nat} {vO:PV} {pc:List PV} {ls:List (Option LS)} {O x:List Int} {capO capP capC cap:Cap} {rows cur:List SR} {Rs:List (List SR)}
def lrT:Option LS→List SR→TR
 | none,_=>.nil
 | some q,R=>TR.rows q.s q.cap R
def Fit1:Option LS→List SR→Prop
 | none,R=>R=[]
 | some q,R=>R.length=q.cs.length
def Fits (ls:List (Option LS)) (Rs:List (List SR)):Prop:=All2 Fit1 ls Rs
theorem Fits.tl {o:Option LS} {R:List SR} (h:Fits (o::ls) (R::Rs)):Fit1 o R∧Fits ls Rs:=
 ⟨h.2 0 o R rfl rfl,by have:=h.1;simpa using this,fun k a b ha hb=>h.2 (k+1) a b (by simpa using ha) (by simpa using hb)⟩
theorem zHB:∀{ls:List (Option LS)} {Rs:List (List SR)},Fits ls Rs→TR.pvs (List.zipWith lrT ls Rs)=ls.map LS.pvo
 | [],[],_=>rfl
 | [],R::Rs,h=>by have:=h.1;simp at this
 | o::ls,[],h=>by have:=h.1;simp at this
 | none::ls,R::Rs,h=>by
  simp only [List.zipWith_cons_cons,TR.pvs,List.map_cons,zHB h.tl.2];rfl
 | some q::ls,R::Rs,h=>by
  have hl:R.length=q.cs.length:=h.tl.1;simp only [List.zipWith_cons_cons,TR.pvs,List.map_cons,zHB h.tl.2];simp only [lrT,TR.rows,TR.pv,LS.pvo,LS.pv,List.length_map,hl]
theorem zDv:∀{ls:List (Option LS)} {Rs:List (List SR)},Fits ls Rs→(TR.slotss (List.zipWith lrT ls Rs)).Perm (LS.slots ls++qW Rs.flatten)
 | [],[],_=>List.Perm.refl _
 | [],R::Rs,h=>by have:=h.1;simp at this
 | o::ls,[],h=>by have:=h.1;simp at this
 | none::ls,R::Rs,h=>by
  have hR:R=[]:=h.tl.1;subst hR;simp only [List.zipWith_cons_cons,TR.slotss,lrT,TR.slots,List.nil_append,List.flatten_cons,LS.slots];exact zDv h.tl.2
 | some q::ls,R::Rs,h=>by
  have ih:=zDv h.tl.2;simp only [List.zipWith_cons_cons,TR.slotss,lrT,TR.rows,TR.slots,TR.rows_slots,List.flatten_cons,LS.slots,List.cons_append];refine List.Perm.cons _ ?_;have e:qW (R++Rs.flatten)=qW R++qW Rs.flatten:=by simp [qW]
  rw [e];refine((ih.append_left (qW R)).trans ?_);rw [←List.append_assoc,←List.append_assoc];exact List.perm_append_comm.append_right _
theorem zLp:∀{ls:List (Option LS)} {Rs:List (List SR)},(∀(j:Nat) (o:Option LS) (R:List SR),ls[j]? = some o→Rs[j]? = some R→(lrT o R).ok h b)→TR.oks h b (List.zipWith lrT ls Rs)
 | [],_,_=>trivial
 | o::ls,[],_=>trivial
 | o::ls,R::Rs,k=>⟨k 0 o R rfl rfl,zLp fun j o' R' h1 h2=>k (j+1) o' R' (by simpa using h1) (by simpa using h2)⟩
theorem zJN:∀{ls:List (Option LS)} {Rs:List (List SR)},Fits ls Rs→All2 FII (TR.fzs a (List.zipWith lrT ls Rs)) (Rs.map fun R=>R.map SR.x)
 | [],[],_=>All2.nil _
 | [],R::Rs,h=>by have:=h.1;simp at this
 | o::ls,[],h=>by have:=h.1;simp at this
 | o::ls,R::Rs,h=>by
  have ih:=zJN h.tl.2;refine⟨by simp only [List.zipWith_cons_cons,TR.fzs,List.map_cons,List.length_cons,ih.1],fun k c y hc hy=>?_⟩
  cases k with
  | zero=>
   simp only [List.zipWith_cons_cons,TR.fzs,List.map_cons,List.getElem?_cons_zero,Option.some.injEq]at hc hy
   rw [←hc,←hy];cases o with
   | none=>
    have hR:R=[]:=h.tl.1;subst hR;exact⟨true,.nils,[],rfl,All2.nil _⟩
   | some q=>exact TR.rows_FII
  | succ k=>
   simp only [List.zipWith_cons_cons,TR.fzs,List.map_cons,List.getElem?_cons_succ]at hc hy
   exact ih.2 k c y hc hy
theorem LI.fin {σ0 T:PHeap} {Y:List PV} {res:Nat} (hT:Keep σ0 T) (hres:σ0.next≤res∧res<T.next) (hOc:full 1 capO O.length) (hPc:full 1 capP rows.length) (hCc:full 1 capC Rs.length) (hpc:pc.length=rows.length)
  (hfull:∀q,some q∈ls→full 1 q.cap q.cs.length) (bf:BF T H tp sO sP sC ls) (l:LI T H h tp sO sP sC vO capP capC n (pis O) pc ls rows Rs []) (hf:Fits ls Rs)
  (hk:∀vO vQ vC t,FI vO O→FII vQ (rows.map SR.x)→FIII vC (Rs.map fun R=>R.map SR.x)→Own σ0.top t (.agg [vO,vQ,vC])→σ0.top≤t→K (.agg [vO,vQ,vC]) (σ0.up t)):
  Gh σ0 K (.agg [.sl sO 0 O.length capO,.sl sP 0 rows.length capP,.sl sC 0 Rs.length capC]) (h.set res Y):=by
 have hTn:=hT.next;have bO:=bf.b sO (by simp)
 have bP:=bf.b sP (by simp)
 have bC:=bf.b sC (by simp)
 have hHn:=l.nx;have hlen:ls.length=Rs.length:=hf.1;have hzl:(List.zipWith lrT ls Rs).length=Rs.length:=by rw [List.length_zipWith];omega
 have e:(TR.agg [TR.row sO capO O,TR.rows sP capP rows,.lst sC capC (List.zipWith lrT ls Rs)]).pv=.agg [.sl sO 0 O.length capO,.sl sP 0 rows.length capP,.sl sC 0 Rs.length capC]:=by
  simp only [TR.pv,TR.pvs,TR.row_pv,TR.rows,List.length_map,hzl]
 rw [←e];have ob:∀s,s≠res→(h.set res Y).obj s=h.obj s:=fun s hs=>by rw [zH,if_neg hs]
 have rok:∀q:SR,q.ok h H.next→q.ok (h.set res Y) σ0.next:=fun q ⟨g1,g2,g3,g4⟩=>⟨g1,by rw [ob _ (by have:=(bf.b sO (by simp));omega)];exact g2,by have:=(bf.b sO (by simp));omega,g4⟩
 have okR:∀q∈rows,q.ok (h.set res Y) σ0.next:=fun q hq=>rok q (l.ok q (.inl hq))
 refine Gh.treeO ((hT.trans l.keep).set hres.1 _) ⟨TR.row_ok hOc (by rw [ob _ (by omega)];exact l.oO) (by omega) (by show sO<h.next;omega),TR.rows_ok hPc (by rw [ob _ (by omega),l.oP,List.drop_of_length_le (by omega),List.append_nil]) (by omega) (by show sP<h.next;omega) okR,⟨⟨by rw [hzl];exact hCc,by rw [ob _ (by omega),l.oC,zHB hf],by omega,by show sC<h.next;omega⟩,zLp fun j o R ho hR=>?_⟩,trivial⟩ ?_ fun a T' g1 g2=>?_
 ·cases o with
  | none=>trivial
  | some q=>
   have hm:=LS.mem_of_get ho;have bq:=bf.b q.s (List.mem_append.2 (.inr hm));have hRl:R.length=q.cs.length:=hf.2 j _ _ ho hR;obtain⟨hj,hje⟩:=List.getElem?_eq_some_iff.1 hR;refine TR.rows_ok (by rw [hRl];exact hfull q (List.mem_of_getElem? ho)) ?_ (by omega) (by show q.s<h.next;omega) fun q' hq'=>rok q' (l.ok q' (.inr (.inl (List.mem_flatten.2 ⟨R,List.mem_of_getElem? hR,hq'⟩))))
   rw [ob _ (by omega),l.oL j q ho]
   unfold cont;rw [if_pos hj,List.getD_eq_getElem?_getD,hR];rfl
 ·have nd:=bf.nd
  have nr:=l.nd;rw [List.append_nil]at nr
  have hp:((TR.agg [TR.row sO capO O,TR.rows sP capP rows,.lst sC capC (List.zipWith lrT ls Rs)]).slots).Perm (([sO,sP,sC]++LS.slots ls)++qW (rows++Rs.flatten)):=by
   have e2:qW (rows++Rs.flatten)=qW rows++qW Rs.flatten:=by simp [qW]
   simp only [TR.slots,TR.slotss,TR.row_slots,TR.rows,TR.rows_slots,List.append_nil,List.cons_append,List.nil_append,e2];refine List.Perm.cons _ (List.Perm.cons _ ?_);have h3:=(zDv hf).cons sC |>.append_left (qW rows);refine h3.trans ?_;simp only [←List.cons_append];rw [←List.append_assoc,←List.append_assoc];exact List.perm_append_comm.append_right _
  refine hp.nodup_iff.2 (List.nodup_append.2 ⟨?_,nr,fun x hx y hy e=>?_⟩)
  ·simp only [List.cons_append,List.nil_append,List.nodup_cons]at nd ⊢
   exact nd.2
  ·have h1:=(bf.b x (by simp only [List.cons_append,List.nil_append,List.mem_cons]at hx ⊢;exact .inr hx)).2
   obtain⟨q,hq,e3⟩:=List.mem_map.1 hy;have h2:=(l.ok q (by rcases List.mem_append.1 hq with hq | hq;exact .inl hq;exact .inr (.inl hq))).2.2.1
   omega
 ·exact hk _ _ _ T' TR.row_FI TR.rows_FII ⟨true,.sl (a sC) 0 Rs.length capC,TR.fzs a (List.zipWith lrT ls Rs),by simp only [TR.fz,hzl,List.length_map],zJN hf⟩ g1 g2
end Go.Proofs
namespace Go.Proofs
open Go.Ab Go.Lie
variable {σ:PHeap} {K:PV→PHeap→Prop} {p:Int} {n c m k:Nat} {W:List (List Int)} {B:List (List (List Int))} {vP vB vL:PV} {s:Nat} {x y u v:List Int} {vx vy:PV} {xs:List (List Int)}
def adj (p:Int) (n:Nat) (W:List (List Int)) (B:List (List (List Int))) (y x:List Int):Nat→List Int
 | 0=>x
 | j+1=>br p W B n (adj p n W B y x j) y
def fact:Nat→Int
 | 0=>1
 | j+1=>fact j*(j+1:Nat)
noncomputable def cterm (p:Int) (n:Nat) (W:List (List Int)) (B:List (List (List Int))) (y x:List Int) (j:Nat):List Int:=dv p n W (fact j) (adj p n W B y x j)
theorem zPe (o:OkW p n W) (q:OkB p n B) (hx:El p n x):∀j,El p n (adj p n W B y x j)
 | 0=>hx
 | j+1=>br_el o q
end Go.Proofs
namespace Go.Proofs
open Go.Ab Go.Lie
variable {p:Int} {n:Nat} {W:List (List Int)} {B:List (List (List Int))} {c k:Nat} {f g h:Vec}
theorem zAA (f g g':Vec) (t:Nat):brv B n f (fun j=>g j+g' j) t=brv B n f g t+brv B n f g' t:=by
 rw [zV,Zk,zV g f,zV g' f]
 grind
theorem zKj (f g:Vec) (t:Nat):brv B n f g t=sumN n fun k=>f k*brv B n (at_ (unitL n k)) g t:=by
 rw [zV,zBH f g,←ZN];refine qE fun k hk=>?_
 rw [zV g (at_ (unitL n k))]
 grind
theorem Zu {f f' g g':Vec} (h:∀j,f j=f' j) (h':∀j,g j=g' j) (t:Nat):brv B n f g t=brv B n f' g' t:=zAS (fun j _=>h j) (fun j _=>h' j) t
def jac (B:List (List (List Int))) (n:Nat) (f g h:Vec):Vec:=fun t=>brv B n (brv B n f g) h t+brv B n (brv B n g h) f t+brv B n (brv B n h f) g t
theorem zJR (f g h:Vec) (t:Nat):jac B n f g h t=jac B n g h f t:=by
 simp only [jac];omega
theorem zEB (f g h:Vec) (t:Nat):brv B n (brv B n f g) h t=-1*brv B n (brv B n g f) h t:=by
 rw [Zu (f':=fun j=>-1*brv B n g f j) (g':=h) (fun j=>zV f g j) (fun _=>rfl),qL]
theorem zHM (f g h:Vec) (t:Nat):jac B n f g h t=-1*jac B n g f h t:=by
 simp only [jac];rw [zEB f g,zEB g h,zEB h f];omega
theorem zNR (f h:Vec) (t:Nat):jac B n f f h t=0:=by
 have:=zHM (B:=B) (n:=n) f f h t
 omega
theorem zOX (f g h:Vec) (t:Nat):jac B n f g h t=sumN n fun k=>f k*jac B n (at_ (unitL n k)) g h t:=by
 simp only [jac];rw [Zu (f':=fun j=>sumN n fun k=>f k*brv B n (at_ (unitL n k)) g j) (g':=h) (fun j=>zKj f g j) (fun _=>rfl),zAl (t:=t) (g:=h) n (fun k j=>f k*brv B n (at_ (unitL n k)) g j),
  zBH f (brv B n g h),Zu (f':=fun j=>sumN n fun k=>f k*brv B n h (at_ (unitL n k)) j) (g':=g) (fun j=>zBH f h j) (fun _=>rfl),zAl (t:=t) (g:=g) n (fun k j=>f k*brv B n h (at_ (unitL n k)) j),←Z7,←Z7]
 refine qE fun k hk=>?_
 rw [qL,qL]
 grind
theorem zHN (hu:∀k,k<n→Eqv p n W (jac B n (at_ (unitL n k)) g h) fun _=>0):Eqv p n W (jac B n f g h) fun _=>0:=
 (Eqv.of_eq fun t=>zOX f g h t).trans (zB6 n (fun k t=>f k*jac B n (at_ (unitL n k)) g h t) fun k hk=>((hu k hk).mul (f k)).trans (Eqv.of_eq fun t=>by grind))
theorem Q8 (o:OkW p n W) (q:OkB p n B) (nf:qx p W B n) {i j k:Nat} (hij:i<j) (hjk:j<k) (hk:k<n):Eqv p n W (jac B n (at_ (unitL n i)) (at_ (unitL n j)) (at_ (unitL n k))) fun _=>0:=by
 have h:=nf.2 i j k hij hjk hk;unfold F2 at h
 have e:∀a b c:List Int,Eqv p n W (at_ (br p W B n (br p W B n a b) c)) (brv B n (brv B n (at_ a) (at_ b)) (at_ c)):=fun a b c=>(Zl o q _ _).trans (zAm o q nf _ (Zl o q a b))
 have ev2:=(((ql o (zJ o (br_el o q) (br_el o q)) (br_el o q)).symm.trans (Eqv.of_eq (ZW h))));refine Eqv.trans ?_ ev2;refine(Eqv.of_eq fun t=>rfl).trans (Eqv.add (Eqv.trans ?_ (ql o (br_el o q) (br_el o q)).symm) (e _ _ _).symm)
 exact Eqv.add (e _ _ _).symm (e _ _ _).symm
theorem zL7 (o:OkW p n W) (q:OkB p n B) (nf:qx p W B n) {i j k:Nat} (hi:i<n) (hj:j<n) (hk:k<n):Eqv p n W (jac B n (at_ (unitL n i)) (at_ (unitL n j)) (at_ (unitL n k))) fun _=>0:=by
 have cyc:∀{a b c:Vec},Eqv p n W (jac B n b c a) (fun _=>0)→Eqv p n W (jac B n a b c) fun _=>0:=fun h=>(Eqv.of_eq fun t=>zJR _ _ _ t).trans h
 have swp:∀{a b c:Vec},Eqv p n W (jac B n b a c) (fun _=>0)→Eqv p n W (jac B n a b c) fun _=>0:=fun h=>(Eqv.of_eq fun t=>zHM _ _ _ t).trans ((h.mul (-1)).trans (Eqv.of_eq fun t=>rfl))
 have sam:∀{a c:Vec},Eqv p n W (jac B n a a c) (fun _=>0):=Eqv.of_eq fun t=>zNR _ _ t
 rcases Nat.lt_trichotomy i j with h1|rfl|h1
 ·rcases Nat.lt_trichotomy j k with h2 | rfl | h2
  ·exact Q8 o q nf h1 h2 hk
  ·exact cyc sam
  ·rcases Nat.lt_trichotomy i k with h3 | rfl | h3
   ·exact cyc (swp (cyc (cyc (Q8 o q nf h3 h2 hj))))
   ·exact cyc (cyc sam)
   ·exact cyc (cyc (Q8 o q nf h3 h1 hj))
 ·exact sam
 ·rcases Nat.lt_trichotomy j k with h2 | rfl | h2
  ·rcases Nat.lt_trichotomy i k with h3 | rfl | h3
   ·exact swp (Q8 o q nf h1 h3 hk)
   ·exact cyc (cyc sam)
   ·exact cyc (Q8 o q nf h2 h3 hi)
  ·exact cyc sam
  ·exact swp (cyc (cyc (Q8 o q nf h2 h1 hi)))
theorem zHL (o:OkW p n W) (q:OkB p n B) (nf:qx p W B n) (f g h:Vec):Eqv p n W (jac B n f g h) fun _=>0:=by
 have cyc:∀{a b c:Vec},Eqv p n W (jac B n b c a) (fun _=>0)→Eqv p n W (jac B n a b c) fun _=>0:=fun h=>(Eqv.of_eq fun t=>zJR _ _ _ t).trans h
 refine zHN fun i hi=>cyc (zHN fun j hj=>cyc (zHN fun k hk=>cyc ?_))
 exact zL7 o q nf hi hj hk
theorem Rg.brk3 (r:Rg p n W B c) (hh:Lw p n W B k h) (f g:Vec):Lw p n W B (k+2) (brv B n (brv B n f g) h):=by
 have h1:=r.brk2 (r.brk2 hh g) f;have h2:=r.brk2 (r.brk2 hh f) g;refine(r.sub _).eqv _ _ ?_ ((r.sub _).add _ _ h1 ((r.sub _).mul (-1) _ h2));have h0:=zHL r.o r.q r.nf f g h;refine(Eqv.of_eq fun t=>?_).trans ((((Eqv.refl (fun t=>brv B n f (brv B n g h) t + -1*brv B n g (brv B n f h) t)).add h0)).trans (Eqv.of_eq fun t=>by omega))
 simp only [jac];have ev1:=zV (B:=B) (n:=n) (brv B n g h) f t;have ev2:=zV (B:=B) (n:=n) (brv B n h f) g t;have ev3:brv B n g (brv B n h f) t=-1*brv B n g (brv B n f h) t:=by
  rw [Zu (f':=g) (g':=fun j=>-1*brv B n f h j) (fun _=>rfl) (fun j=>zV h f j),Zt]
 omega
section
variable {X Y Z:Vec}
def ev1 (X Y Z:Vec) (a:List Int):Vec:=fun t=>at_ a 0*X t+at_ a 1*Y t+at_ a 2*Z t
def ev2 (B:List (List (List Int))) (n:Nat) (X Y Z:Vec) (a:List Int):Vec:=fun t=>at_ a 3*brv B n X Y t+at_ a 4*brv B n X Z t+at_ a 5*brv B n Y Z t
def ev3 (B:List (List (List Int))) (n:Nat) (X Y Z:Vec) (a:List Int):Vec:=fun t=>
 at_ a 6*brv B n X (brv B n X Y) t+at_ a 7*brv B n Y (brv B n X Y) t+at_ a 8*brv B n Z (brv B n X Y) t+at_ a 9*brv B n X (brv B n X Z) t
 + at_ a 10*brv B n Y (brv B n X Z) t+at_ a 11*brv B n Z (brv B n X Z) t+at_ a 12*brv B n Y (brv B n Y Z) t+at_ a 13*brv B n Z (brv B n Y Z) t
def evv (B:List (List (List Int))) (n:Nat) (X Y Z:Vec) (a:List Int):Vec:=fun t=>ev1 X Y Z a t+(ev2 B n X Y Z a t+ev3 B n X Y Z a t)
def tbl (a b:List Int):List Int:=
  [0,0,0,at_ a 0*at_ b 1-at_ a 1*at_ b 0,at_ a 0*at_ b 2-at_ a 2*at_ b 0,at_ a 1*at_ b 2-at_ a 2*at_ b 1,
   at_ a 0*at_ b 3-at_ b 0*at_ a 3,at_ a 1*at_ b 3-at_ b 1*at_ a 3,at_ a 2*at_ b 3-at_ a 0*at_ b 5-(at_ b 2*at_ a 3-at_ b 0*at_ a 5),
   at_ a 0*at_ b 4-at_ b 0*at_ a 4,at_ a 1*at_ b 4+at_ a 0*at_ b 5-(at_ b 1*at_ a 4+at_ b 0*at_ a 5),at_ a 2*at_ b 4-at_ b 2*at_ a 4,
   at_ a 1*at_ b 5-at_ b 1*at_ a 5,at_ a 2*at_ b 5-at_ b 2*at_ a 5]
theorem zCv (a b:List Int):at_ (tbl a b) 0=0∧at_ (tbl a b) 1=0∧at_ (tbl a b) 2=0∧at_ (tbl a b) 3=at_ a 0*at_ b 1-at_ a 1*at_ b 0∧at_ (tbl a b) 4=at_ a 0*at_ b 2-at_ a 2*at_ b 0
  ∧at_ (tbl a b) 5=at_ a 1*at_ b 2-at_ a 2*at_ b 1∧at_ (tbl a b) 6=at_ a 0*at_ b 3-at_ b 0*at_ a 3∧at_ (tbl a b) 7=at_ a 1*at_ b 3-at_ b 1*at_ a 3
  ∧at_ (tbl a b) 8=at_ a 2*at_ b 3-at_ a 0*at_ b 5-(at_ b 2*at_ a 3-at_ b 0*at_ a 5)∧at_ (tbl a b) 9=at_ a 0*at_ b 4-at_ b 0*at_ a 4
  ∧at_ (tbl a b) 10=at_ a 1*at_ b 4+at_ a 0*at_ b 5-(at_ b 1*at_ a 4+at_ b 0*at_ a 5)∧at_ (tbl a b) 11=at_ a 2*at_ b 4-at_ b 2*at_ a 4
  ∧at_ (tbl a b) 12=at_ a 1*at_ b 5-at_ b 1*at_ a 5∧at_ (tbl a b) 13=at_ a 2*at_ b 5-at_ b 2*at_ a 5:=⟨rfl,rfl,rfl,rfl,rfl,rfl,rfl,rfl,rfl,rfl,rfl,rfl,rfl,rfl⟩
theorem zML (a:List Int) (g:Vec) (t:Nat):brv B n (ev1 X Y Z a) g t=at_ a 0*brv B n X g t+at_ a 1*brv B n Y g t+at_ a 2*brv B n Z g t:=by
 unfold ev1;rw [Zk,Zk,qL,qL,qL]
theorem zPZ (a:List Int) (g:Vec) (t:Nat):brv B n g (ev1 X Y Z a) t=at_ a 0*brv B n g X t+at_ a 1*brv B n g Y t+at_ a 2*brv B n g Z t:=by
 unfold ev1;rw [zAA,zAA,Zt,Zt,Zt]
theorem zPY (a:List Int) (g:Vec) (t:Nat):brv B n g (ev2 B n X Y Z a) t=at_ a 3*brv B n g (brv B n X Y) t+at_ a 4*brv B n g (brv B n X Z) t+at_ a 5*brv B n g (brv B n Y Z) t:=by
 unfold ev2;rw [zAA,zAA,Zt,Zt,Zt]
theorem zPV (a:List Int) (g:Vec) (t:Nat):brv B n (ev2 B n X Y Z a) g t=at_ a 3*brv B n (brv B n X Y) g t+at_ a 4*brv B n (brv B n X Z) g t+at_ a 5*brv B n (brv B n Y Z) g t:=by
 unfold ev2;rw [Zk,Zk,qL,qL,qL]
theorem br11 (a b:List Int) (t:Nat):brv B n (ev1 X Y Z a) (ev1 X Y Z b) t=ev2 B n X Y Z (tbl a b) t:=by
 simp only [zML,zPZ,zHp,zV (B:=B) (n:=n) Y X,zV (B:=B) (n:=n) Z X,zV (B:=B) (n:=n) Z Y,ev2];obtain⟨_,_,_,h3,h4,h5,_⟩:=zCv a b;rw [h3,h4,h5]
 grind
theorem br123 (a b:List Int) (t:Nat):brv B n (ev1 X Y Z a) (ev2 B n X Y Z b) t+brv B n (ev2 B n X Y Z a) (ev1 X Y Z b) t
  = ev3 B n X Y Z (tbl a b) t+(at_ b 0*at_ a 5-at_ a 0*at_ b 5)*jac B n Z X Y t:=by
 rw [zV (ev2 B n X Y Z a)];simp only [zML,zPY,ev3,jac];obtain⟨_,_,_,_,_,_,h6,h7,h8,h9,h10,h11,h12,h13⟩:=zCv a b;rw [h6,h7,h8,h9,h10,h11,h12,h13,zV (brv B n Z X),zV (brv B n X Y),zV (brv B n Y Z),
  Zu (f:=Y) (f':=Y) (g':=fun j=>-1*brv B n X Z j) (fun _=>rfl) (fun j=>zV Z X j),Zt]
 grind
theorem Rg.e1_lw (r:Rg p n W B c) (hX:Lw p n W B 0 X) (hY:Lw p n W B 0 Y) (hZ:Lw p n W B 0 Z) (a:List Int):Lw p n W B 0 (ev1 X Y Z a):=
 (r.sub 0).add _ _ ((r.sub 0).add _ _ ((r.sub 0).mul _ _ hX) ((r.sub 0).mul _ _ hY)) ((r.sub 0).mul _ _ hZ)
theorem Rg.e2_lw (r:Rg p n W B c) (hY:Lw p n W B 0 Y) (hZ:Lw p n W B 0 Z) (a:List Int):Lw p n W B 1 (ev2 B n X Y Z a):=
 (r.sub 1).add _ _ ((r.sub 1).add _ _ ((r.sub 1).mul _ _ (r.brk2 hY _)) ((r.sub 1).mul _ _ (r.brk2 hZ _))) ((r.sub 1).mul _ _ (r.brk2 hZ _))
theorem Rg.e3_lw (r:Rg p n W B c) (hY:Lw p n W B 0 Y) (hZ:Lw p n W B 0 Z) (a:List Int):Lw p n W B 2 (ev3 B n X Y Z a):=by
 have b2:∀{e f g:Vec},Lw p n W B 0 g→Lw p n W B 2 (brv B n e (brv B n f g)):=fun h=>r.brk2 (r.brk2 h _) _
 have s:=r.sub 2;exact s.add _ _ (s.add _ _ (s.add _ _ (s.add _ _ (s.add _ _ (s.add _ _ (s.add _ _ (s.mul _ _ (b2 hY)) (s.mul _ _ (b2 hY))) (s.mul _ _ (b2 hY))) (s.mul _ _ (b2 hZ))) (s.mul _ _ (b2 hZ))) (s.mul _ _ (b2 hZ))) (s.mul _ _ (b2 hZ))) (s.mul _ _ (b2 hZ))
theorem Rg.evv_brv (r:Rg p n W B c) (hc:c≤3) (hX:Lw p n W B 0 X) (hY:Lw p n W B 0 Y) (hZ:Lw p n W B 0 Z) (a b:List Int):
  Eqv p n W (brv B n (evv B n X Y Z a) (evv B n X Y Z b)) (evv B n X Y Z (tbl a b)):=by
 have s:=fun k=>r.sub k
 have l1:=fun a=>r.e1_lw hX hY hZ a
 have l2:=fun a=>r.e2_lw (X:=X) hY hZ a
 have l3:=fun a=>r.e3_lw (X:=X) hY hZ a
 have z3:∀{f:Vec},Lw p n W B 3 f→Eqv p n W f fun _=>0:=fun h=>r.top hc h
 have y1:Eqv p n W (brv B n (ev3 B n X Y Z a) (evv B n X Y Z b)) fun _=>0:=z3 (r.brk (l3 a) _)
 have y2:Eqv p n W (brv B n (ev1 X Y Z a) (ev3 B n X Y Z b)) fun _=>0:=z3 (r.brk2 (l3 b) _)
 have y4:Eqv p n W (brv B n (ev2 B n X Y Z a) (fun j=>ev2 B n X Y Z b j+ev3 B n X Y Z b j)) fun _=>0:=by
  have hl:Lw p n W B 1 (fun j=>ev2 B n X Y Z b j+ev3 B n X Y Z b j):=(s 1).add _ _ (l2 b) (r.down (l3 b))
  refine z3 ((s 3).eqv _ _ (Eqv.of_eq fun t=>zPV a _ t) ?_)
  exact(s 3).add _ _ ((s 3).add _ _ ((s 3).mul _ _ (r.brk3 hl _ _)) ((s 3).mul _ _ (r.brk3 hl _ _))) ((s 3).mul _ _ (r.brk3 hl _ _))
 have yj:=(zHL r.o r.q r.nf Z X Y).mul (at_ b 0*at_ a 5-at_ a 0*at_ b 5);have all:=((y1.add y2).add y4).add yj;refine(Eqv.of_eq fun t=>?_).trans (((Eqv.refl (evv B n X Y Z (tbl a b))).add all).trans (Eqv.of_eq fun t=>by simp))
 have q1:=br11 (B:=B) (n:=n) (X:=X) (Y:=Y) (Z:=Z) a b t;have q2:=br123 (B:=B) (n:=n) (X:=X) (Y:=Y) (Z:=Z) a b t;have q3:brv B n (evv B n X Y Z a) (evv B n X Y Z b) t=brv B n (ev1 X Y Z a) (evv B n X Y Z b) t+(brv B n (ev2 B n X Y Z a) (evv B n X Y Z b) t+brv B n (ev3 B n X Y Z a) (evv B n X Y Z b) t):=by
  rw [show evv B n X Y Z a=fun j=>ev1 X Y Z a j+(fun j=>ev2 B n X Y Z a j+ev3 B n X Y Z a j) j from rfl,Zk,Zk]
 have q4:∀f:Vec,brv B n f (evv B n X Y Z b) t=brv B n f (ev1 X Y Z b) t+brv B n f (fun j=>ev2 B n X Y Z b j+ev3 B n X Y Z b j) t:=fun f=>by
  rw [show evv B n X Y Z b=fun j=>ev1 X Y Z b j+(fun j=>ev2 B n X Y Z b j+ev3 B n X Y Z b j) j from rfl,zAA]
 have q5:∀f:Vec,brv B n f (fun j=>ev2 B n X Y Z b j+ev3 B n X Y Z b j) t=brv B n f (ev2 B n X Y Z b) t+brv B n f (ev3 B n X Y Z b) t:=fun f=>zAA _ _ _ t
 have q6:=q4 (ev1 X Y Z a);have q7:=q4 (ev2 B n X Y Z a);have q8:=q5 (ev1 X Y Z a);have q9:ev1 X Y Z (tbl a b) t=0:=by
  obtain⟨h0,h1,h2,_⟩:=zCv a b;simp only [ev1];rw [h0,h1,h2];omega
 have q10:evv B n X Y Z (tbl a b) t=ev1 X Y Z (tbl a b) t+(ev2 B n X Y Z (tbl a b) t+ev3 B n X Y Z (tbl a b) t):=rfl;omega
end
end Go.Proofs
namespace Go.Proofs
open Go.Ab Go.Lie
variable {p:Int} {n m:Nat} {W:List (List Int)} {B:List (List (List Int))} {c:Nat} {X Y Z:Vec} {a b:List Int} {x y:List Int}
def kadd (a b:List Int):List Int:=[at_ a 0+at_ b 0,at_ a 1+at_ b 1,at_ a 2+at_ b 2,at_ a 3+at_ b 3,at_ a 4+at_ b 4,at_ a 5+at_ b 5,at_ a 6+at_ b 6,at_ a 7+at_ b 7,at_ a 8+at_ b 8,at_ a 9+at_ b 9,at_ a 10+at_ b 10,at_ a 11+at_ b 11,at_ a 12+at_ b 12,at_ a 13+at_ b 13]
def kmul (k:Int) (a:List Int):List Int:=[k*at_ a 0,k*at_ a 1,k*at_ a 2,k*at_ a 3,k*at_ a 4,k*at_ a 5,k*at_ a 6,k*at_ a 7,k*at_ a 8,k*at_ a 9,k*at_ a 10,k*at_ a 11,k*at_ a 12,k*at_ a 13]
def kdiv (a:List Int) (k:Int):List Int:=[at_ a 0 / k,at_ a 1 / k,at_ a 2 / k,at_ a 3 / k,at_ a 4 / k,at_ a 5 / k,at_ a 6 / k,at_ a 7 / k,at_ a 8 / k,at_ a 9 / k,at_ a 10 / k,at_ a 11 / k,at_ a 12 / k,at_ a 13 / k]
theorem at_lt {f:Nat→Int} {l:List Int} (h0:at_ l 0=f 0∧at_ l 1=f 1∧at_ l 2=f 2∧at_ l 3=f 3∧at_ l 4=f 4∧at_ l 5=f 5∧at_ l 6=f 6∧at_ l 7=f 7∧at_ l 8=f 8∧at_ l 9=f 9∧at_ l 10=f 10∧at_ l 11=f 11∧at_ l 12=f 12∧at_ l 13=f 13):∀i,i<14→at_ l i=f i:=fun i hi=>by
 obtain⟨h0,h1,h2,h3,h4,h5,h6,h7,h8,h9,h10,h11,h12,h13⟩:=h0
 match i,hi with
 | 0,_=>exact h0
 | 1,_=>exact h1
 | 2,_=>exact h2
 | 3,_=>exact h3
 | 4,_=>exact h4
 | 5,_=>exact h5
 | 6,_=>exact h6
 | 7,_=>exact h7
 | 8,_=>exact h8
 | 9,_=>exact h9
 | 10,_=>exact h10
 | 11,_=>exact h11
 | 12,_=>exact h12
 | 13,_=>exact h13
theorem zJe (a b:List Int):∀i,i<14→at_ (kadd a b) i=at_ a i+at_ b i:=at_lt (f:=fun i=>at_ a i+at_ b i) ⟨rfl,rfl,rfl,rfl,rfl,rfl,rfl,rfl,rfl,rfl,rfl,rfl,rfl,rfl⟩
theorem zFi (k:Int) (a:List Int):∀i,i<14→at_ (kmul k a) i=k*at_ a i:=at_lt (f:=fun i=>k*at_ a i) ⟨rfl,rfl,rfl,rfl,rfl,rfl,rfl,rfl,rfl,rfl,rfl,rfl,rfl,rfl⟩
theorem zFj (k:Int) (a:List Int):∀i,i<14→at_ (kdiv a k) i=at_ a i / k:=at_lt (f:=fun i=>at_ a i / k) ⟨rfl,rfl,rfl,rfl,rfl,rfl,rfl,rfl,rfl,rfl,rfl,rfl,rfl,rfl⟩
theorem zOf (t:Nat):evv B n X Y Z (kadd a b) t=evv B n X Y Z a t+evv B n X Y Z b t:=by
 have h:=zJe a b;simp only [evv,ev1,ev2,ev3];rw [h 0 (by omega),h 1 (by omega),h 2 (by omega),h 3 (by omega),h 4 (by omega),h 5 (by omega),h 6 (by omega),h 7 (by omega),h 8 (by omega),h 9 (by omega),h 10 (by omega),h 11 (by omega),h 12 (by omega),h 13 (by omega)]
 grind
theorem zJW (k:Int) (t:Nat):evv B n X Y Z (kmul k a) t=k*evv B n X Y Z a t:=by
 have h:=zFi k a;simp only [evv,ev1,ev2,ev3];rw [h 0 (by omega),h 1 (by omega),h 2 (by omega),h 3 (by omega),h 4 (by omega),h 5 (by omega),h 6 (by omega),h 7 (by omega),h 8 (by omega),h 9 (by omega),h 10 (by omega),h 11 (by omega),h 12 (by omega),h 13 (by omega)]
 grind
structure Md (p:Int) (c m:Nat):Prop where
 c3:c≤3
 cut:m=14∨(m=6∧c≤2)∨(m=3∧c≤1)
 d2:m≤3∨(Cop p 2∧Cop p (-2))
 d12:m≤6∨(Cop p 12∧Cop p (-12))
structure Cx (p:Int) (n:Nat) (W:List (List Int)) (B:List (List (List Int))) (c m:Nat) (X Y Z:Vec):Prop where
 z:Lz p n W B c
 md:Md p c m
 x:Lw p n W B 0 X
 y:Lw p n W B 0 Y
 w:Lw p n W B 0 Z
structure EV (p:Int) (n:Nat) (W:List (List Int)) (B:List (List (List Int))) (X Y Z:Vec) (a x:List Int):Prop where
 el:El p n x
 eqv:Eqv p n W (at_ x) (evv B n X Y Z a)
theorem Cx.cut (k:Cx p n W B c m X Y Z) (h:∀i,i<m→at_ a i=at_ b i):Eqv p n W (evv B n X Y Z a) (evv B n X Y Z b):=by
 have r:=k.z.r;rcases k.md.cut with rfl|⟨rfl,hc⟩|⟨rfl,hc⟩
 ·refine Eqv.of_eq fun t=>?_
  simp only [evv,ev1,ev2,ev3];rw [h 0 (by omega),h 1 (by omega),h 2 (by omega),h 3 (by omega),h 4 (by omega),h 5 (by omega),h 6 (by omega),h 7 (by omega),h 8 (by omega),h 9 (by omega),h 10 (by omega),h 11 (by omega),h 12 (by omega),h 13 (by omega)]
 ·have h3:∀a,Eqv p n W (ev3 B n X Y Z a) fun _=>0:=fun a=>r.top hc (r.e3_lw k.y k.w a)
  refine(((Eqv.refl (ev1 X Y Z a)).add ((Eqv.refl (ev2 B n X Y Z a)).add (h3 a))).trans (Eqv.of_eq fun t=>?_)).trans ((Eqv.refl (ev1 X Y Z b)).add ((Eqv.refl (ev2 B n X Y Z b)).add (h3 b))).symm
  simp only [ev1,ev2];rw [h 0 (by omega),h 1 (by omega),h 2 (by omega),h 3 (by omega),h 4 (by omega),h 5 (by omega)]
 ·have h3:∀a,Eqv p n W (ev3 B n X Y Z a) fun _=>0:=fun a=>r.top (by omega) (r.e3_lw k.y k.w a)
  have h2:∀a,Eqv p n W (ev2 B n X Y Z a) fun _=>0:=fun a=>r.top (by omega) (r.e2_lw k.y k.w a)
  refine(((Eqv.refl (ev1 X Y Z a)).add ((h2 a).add (h3 a))).trans (Eqv.of_eq fun t=>?_)).trans ((Eqv.refl (ev1 X Y Z b)).add ((h2 b).add (h3 b))).symm
  simp only [ev1];rw [h 0 (by omega),h 1 (by omega),h 2 (by omega)]
theorem zPO (k:Cx p n W B c m X Y Z) (a:List Int):Lw p n W B 0 (evv B n X Y Z a):=
 (k.z.r.sub 0).add _ _ (k.z.r.e1_lw k.x k.y k.w a) ((k.z.r.sub 0).add _ _ (k.z.r.le (by omega) (k.z.r.e2_lw k.y k.w a)) (k.z.r.le (by omega) (k.z.r.e3_lw k.y k.w a)))
theorem zPP (k:Cx p n W B c m X Y Z) (a:List Int):∃z,EV p n W B X Y Z a z:=by
 obtain⟨u,hu,hg⟩:=zPO k a;obtain⟨z,h1,h2,_⟩:=zJT k.z.r.o (hu.els k.z.r.o).1 hg;exact⟨z,h1,h2.symm⟩
theorem EV.same (k:Cx p n W B c m X Y Z) (h:EV p n W B X Y Z a x) (g:EV p n W B X Y Z b y) (e:∀i,i<m→at_ a i=at_ b i):x=y:=
 qJ k.z.r.o h.el.1 g.el.1 h.el.2 g.el.2 (h.eqv.trans ((k.cut e).trans g.eqv.symm))
theorem EV.to (k:Cx p n W B c m X Y Z) (h:EV p n W B X Y Z a x) (e:∀i,i<m→at_ a i=at_ b i):EV p n W B X Y Z b x:=⟨h.el,h.eqv.trans (k.cut e)⟩
theorem EV.add (k:Cx p n W B c m X Y Z) (h:EV p n W B X Y Z a x) (g:EV p n W B X Y Z b y):EV p n W B X Y Z (kadd a b) (ladd p W x y):=
 ⟨zJ k.z.r.o h.el g.el,(ql k.z.r.o h.el g.el).trans ((h.eqv.add g.eqv).trans (Eqv.of_eq fun t=>(zOf t).symm))⟩
theorem EV.mul (k:Cx p n W B c m X Y Z) (h:EV p n W B X Y Z a x) (q:Int):EV p n W B X Y Z (kmul q a) (lmul p W q x):=
 ⟨zJ k.z.r.o h.el h.el,(qP k.z.r.o h.el q).trans ((h.eqv.mul q).trans (Eqv.of_eq fun t=>(zJW q t).symm))⟩
theorem EV.brk (k:Cx p n W B c m X Y Z) (h:EV p n W B X Y Z a x) (g:EV p n W B X Y Z b y):EV p n W B X Y Z (tbl a b) (br p W B n x y):=
 ⟨br_el k.z.r.o k.z.r.q,(Zl k.z.r.o k.z.r.q x y).trans (((zAm k.z.r.o k.z.r.q k.z.r.nf _ h.eqv).trans (zHq k.z.r.o k.z.r.q k.z.r.nf _ g.eqv)).trans (k.z.r.evv_brv k.md.c3 k.x k.y k.w a b))⟩
theorem dv_of (o:OkW p n W) {k:Int} {x z:List Int} (hk:Cop p k) (hx:El p n x) (hz:El p n z) (h:Eqv p n W (fun j=>k*at_ z j) (at_ x)):z=dv p n W k x:=by
 refine dv_eq o hx ⟨hz,fun h0=>?_,fun _=>h⟩ (.inr hk)
 rcases Nat.eq_zero_or_pos n with hn|hn
 ·have ev1:=hz.1
  have ev2:=hx.1;rw [List.eq_nil_of_length_eq_zero (ev1.trans hn),List.eq_nil_of_length_eq_zero (ev2.trans hn)]
 ·obtain⟨a,w,ha⟩:=zAk (p:=p) hk hn
  have e:Eqv p n W (fun j=>k*at_ z j) (fun j=>0):=h.trans (Eqv.of_eq (ZW h0))
  have k1:=(QX o (f:=at_ z) (fun j hj=>hz.beyond hj)).mul w
  have k2:=(Eqv.refl (p:=p) (n:=n) (W:=W) (at_ z)).add k1;have ev3:Eqv p n W (at_ z) (at_ x):=(((Eqv.of_eq fun j=>(by omega)).trans k2.symm).trans (Eqv.of_eq fun j=>(by grind))).trans ((e.mul a).trans (Eqv.of_eq fun j=>(by rw [ZW h0,Int.mul_zero])))
  exact qJ o hz.1 hx.1 hz.2 hx.2 ev3
theorem EV.div (k:Cx p n W B c m X Y Z) (h:EV p n W B X Y Z a x) {q:Int} (e:∀i,i<m→at_ a i=q*at_ b i) (hq:Cop p q):EV p n W B X Y Z b (dv p n W q x):=by
 obtain⟨w,hw⟩:=zPP k b;rw [←dv_of k.z.r.o hq h.el hw.el]
 ·exact hw
 ·refine((hw.eqv.mul q).trans (Eqv.of_eq fun t=>(zJW q t).symm)).trans ((k.cut fun i hi=>?_).trans h.eqv.symm)
  have hm:m≤14:=by rcases k.md.cut with h | h | h<;>omega
  rw [zFi q b i (by omega),e i hi]
theorem EV.divZ (k:Cx p n W B c m X Y Z) (h:EV p n W B X Y Z a x) {q:Int} (e:∀i,i<m→at_ a i=0):EV p n W B X Y Z a (dv p n W q x):=by
 have h0:isZ x:=ZZ k.z.r.o h.el (h.eqv.trans ((k.cut (b:=[]) fun i hi=>e i hi).trans (Eqv.of_eq fun t=>by simp [evv,ev1,ev2,ev3])))
 rw [(Z4 k.z.r.o h.el (k:=q)).nil h0];exact h
def kallm (m:Nat) (f:Nat→Bool):Bool:=(List.range m).all f
theorem zEC {m:Nat} {f:Nat→Bool} (h:kallm m f=true):∀i,i<m→f i=true:=fun i hi=>by
 have:=List.all_eq_true.1 h i (List.mem_range.2 hi)
 exact this
def keqm (m:Nat) (a b:List Int):Bool:=kallm m fun i=>at_ a i == at_ b i
def kdvd (m:Nat) (a:List Int) (q:Int):Bool:=kallm m fun i=>at_ a i % q == 0
theorem EV.eq (k:Cx p n W B c m X Y Z) (h:EV p n W B X Y Z a x) (g:EV p n W B X Y Z b y) (e:keqm m a b=true):x=y:=h.same k g fun i hi=>by simpa using zEC e i hi
theorem EV.dvk (k:Cx p n W B c m X Y Z) (h:EV p n W B X Y Z a x) {q:Int} (e:kdvd m a q=true) (hq:Cop p q):EV p n W B X Y Z (kdiv a q) (dv p n W q x):=by
 have hm:m≤14:=by rcases k.md.cut with h | h | h<;>omega
 refine h.div k (fun i hi=>?_) hq
 rw [zFj q a i (by omega)]
 have:=zEC e i hi
 simp only [beq_iff_eq]at this
 exact(Int.mul_ediv_cancel' (Int.dvd_of_emod_eq_zero this)).symm
def zBc (a b:List Int):List Int:=kadd (tbl a (tbl a b)) (tbl b (kmul (-1) (tbl a b)))
def kbch (a b:List Int):List Int:=kadd (kadd (kadd a b) (kdiv (tbl a b) 2)) (kdiv (zBc a b) 12)
def kokb (m:Nat) (a b:List Int):Bool:=kdvd m (tbl a b) 2 && kdvd m (zBc a b) 12
theorem zFH (a b:List Int) {i:Nat} (hi:i<3):at_ (tbl a b) i=0:=by
 obtain⟨h0,h1,h2,_⟩:=zCv a b
 match i,hi with
 | 0,_=>exact h0
 | 1,_=>exact h1
 | 2,_=>exact h2
theorem zGb (a b:List Int) (hb:∀i,i<3→at_ b i=0) {i:Nat} (hi:i<6):at_ (tbl a b) i=0:=by
 obtain⟨h0,h1,h2,h3,h4,h5,_⟩:=zCv a b;have b0:=hb 0 (by omega)
 have b1:=hb 1 (by omega)
 have b2:=hb 2 (by omega)
 match i,hi with
 | 0,_=>exact h0
 | 1,_=>exact h1
 | 2,_=>exact h2
 | 3,_=>rw [h3,b0,b1];omega
 | 4,_=>rw [h4,b0,b2];omega
 | 5,_=>rw [h5,b1,b2];omega
theorem zKY (a b:List Int) {i:Nat} (hi:i<6):at_ (zBc a b) i=0:=by
 rw [zBc,zJe _ _ i (by omega),zGb _ _ (fun i hi=>zFH a b hi) hi,zGb _ _ (fun i hi=>by rw [zFi _ _ i (by omega),zFH a b hi];omega) hi]
 omega
theorem EV.third (k:Cx p n W B c m X Y Z) (h:EV p n W B X Y Z a x) (g:EV p n W B X Y Z b y):EV p n W B X Y Z (zBc a b) (ZB p W B n x y):=
 (h.brk k (h.brk k g)).add k (g.brk k ((h.brk k g).mul k (-1)))
theorem EV.bch (k:Cx p n W B c m X Y Z) (h:EV p n W B X Y Z a x) (g:EV p n W B X Y Z b y) (e:kokb m a b=true):EV p n W B X Y Z (kbch a b) (bch p n W B x y):=by
 have hm:m≤14:=by rcases k.md.cut with h | h | h<;>omega
 simp only [kokb,Bool.and_eq_true]at e
 have z0:∀{a:List Int} {q:Int} {v:List Int},(∀i,i<m→at_ a i=0)→EV p n W B X Y Z a v→EV p n W B X Y Z (kdiv a q) (dv p n W q v):=fun h0 hv=>(hv.divZ k h0).to k fun i hi=>by
  rw [zFj _ _ i (by omega),h0 i hi,Int.zero_ediv]
 have h2:EV p n W B X Y Z (kdiv (tbl a b) 2) (dv p n W 2 (br p W B n x y)):=by
  rcases k.md.d2 with hl|hc
  ·exact z0 (fun i hi=>zFH a b (by omega)) (h.brk k g)
  ·exact(h.brk k g).dvk k e.1 hc.1
 have h3:EV p n W B X Y Z (kdiv (zBc a b) 12) (dv p n W 12 (ZB p W B n x y)):=by
  rcases k.md.d12 with hl|hc
  ·exact z0 (fun i hi=>zKY a b (by omega)) (h.third k g)
  ·exact(h.third k g).dvk k e.2 hc.1
 exact((h.add k g).add k h2).add k h3
theorem EV.zero (k:Cx p n W B c m X Y Z):EV p n W B X Y Z [] (List.replicate n 0):=
 ⟨ZH k.z.r.o.pr,Eqv.of_eq fun t=>by rw [zm];simp [evv,ev1,ev2,ev3]⟩
theorem zNh (o:OkW p n W) (q:OkB p n B) (a b:List Int):∀j,j<2→at_ (br p W B n a b) j=0:=by
 have hs:∀t,t<2→at_ (bsum B a b n) t=0:=fun t ht=>by
  rw [bsum,bi_at q t (Nat.le_refl _)];refine qM _ fun i hi=>qM _ fun j hj=>?_
  rw [(q.get hi hj).2 t (by omega),Int.mul_zero]
 intro j hj;rcases Nat.lt_or_ge j n with x|x
 ·exact zAM o (qa q) (d:=min 2 n) (Nat.min_le_right _ _) (fun j hj=>hs j (by omega)) j (by omega)
 ·exact at_ge (by rw [(br_el o q).1];exact x)
theorem zHD (o:OkW p n W) (q:OkB p n B):∀{k:Nat} {u:List (List Int)},Low p n W B (k+1) u→∀x∈u,k+2≤dep x
 | 0,u,h,y,hy=>by
  cases h with
  | succ h hc=>
   have hl:=hc.base.led y hy;have hg:=(hc.gen _).2 (ze hy);have hz:=zB4 o (m:=min 2 n) (zDK o q _ _) (Nat.min_le_right _ _) (fun v hv j hj=>by
    obtain⟨x,hx,h⟩:=List.mem_flatMap.1 hv;obtain⟨e,he,rfl⟩:=List.mem_map.1 h;exact zNh o q _ _ j (by omega)) hl.1 hg
   have hd:=Qu (v:=y) (d:=min 2 n) (by rw [hl.1.1];exact Nat.min_le_right _ _) hz
   have:=hl.2.1
   omega
 | k+1,u,h,y,hy=>by
  cases h with
  | succ h hc=>exact zBn o q hc (zHD o q h) y hy
theorem zHQ {a b:Int} (hb:0≤b) (h:b≤a):∀k,ipow b k≤ipow a k∧0≤ipow b k
 | 0=>⟨Int.le_refl _,by show(0:Int)≤1;decide⟩
 | k+1=>by
  obtain⟨h1,h2⟩:=zHQ hb h k;rw [ipow,ipow];exact⟨Int.mul_le_mul h1 h hb (by omega),Int.mul_nonneg h2 hb⟩
theorem Lz.md (z:Lz p n W B c):∃m,Md p c m:=by
 have hc:=z.hc;have hp:=z.hp;have hw:=z.pow;have hn:=z.r.o.le
 by_cases h2:p=2
 ·exact⟨3,by omega,.inr (.inr ⟨rfl,by omega⟩),.inl (Nat.le_refl _),.inl (by omega)⟩
 ·by_cases h3:p=3
  ·exact⟨6,by omega,.inr (.inl ⟨rfl,by omega⟩),.inr (zFg hp h2),.inl (Nat.le_refl _)⟩
  ·refine⟨14,?_,.inl rfl,.inr (zFg hp h2),.inr (zE0 hp h2 h3)⟩
   have hn4:n≤4:=by
    rcases Nat.lt_or_ge 4 n with hx|hx
    ·exfalso
     have h5:(5:Int)≤p:=by rcases hp with h | h | h | h<;>omega
     have:=(zHQ (a:=p) (b:=5) (by omega) h5 n).1
     have e:n=5∨n=6:=by omega
     rcases e with rfl|rfl
     ·have:ipow 5 5=3125:=by decide
      omega
     ·have:ipow 5 6=15625:=by decide
      omega
    ·exact hx
   rcases Nat.lt_or_ge 3 c with hx|hx
   ·exfalso
    obtain⟨u,hu⟩:=z.r.low 3;have hne:=z.r.cls.2 3 u hx hu;cases u with
    | nil=>exact hne rfl
    | cons v t=>
     have hd:=zHD z.r.o z.r.q hu v (by simp)
     cases hu with
     | succ h hcan=>
      have:=(hcan.base.led v (by simp)).2.1
      omega
   ·exact hx
def scl (m:Nat):Int:=if m=14 then 1728 else if m=6 then 16 else 1
theorem Md.scl (h:Md p c m) (hp:isP p):Cop p (scl m):=by
 have one:Cop p 1:=⟨1,0,by omega⟩
 have mul:∀{a b:Int},Cop p a→Cop p b→Cop p (a*b):=fun {a b} ⟨e,t,h⟩ ⟨f,s,g⟩=>⟨e*f,t+s+p*t*s,by grind⟩
 rcases h.cut with rfl|⟨rfl,_⟩|⟨rfl,_⟩
 ·rcases h.d12 with h | h
  ·omega
  ·exact mul (mul h.1 h.1) h.1
 ·rcases h.d2 with h | h
  ·omega
  ·exact mul (mul (mul h.1 h.1) h.1) h.1
 ·exact one
theorem scaled (o:OkW p n W) {q:Int} (hq:Cop p q) (hx:El p n x):Eqv p n W (at_ x) fun j=>q*at_ (dv p n W q x) j:=((Z4 o hx).eqv hq).symm
theorem Lz.cx (z:Lz p n W B c) {x y w:List Int} (hx:El p n x) (hy:El p n y) (hw:El p n w):∃m X Y Z,Cx p n W B c m X Y Z∧EV p n W B X Y Z [scl m] x∧EV p n W B X Y Z [0,scl m] y∧EV p n W B X Y Z [0,0,scl m] w∧(m=14∨m=6∨m=3):=by
 obtain⟨m,md⟩:=z.md;have hq:=md.scl z.hp;have o:=z.r.o;refine⟨m,at_ (dv p n W (scl m) x),at_ (dv p n W (scl m) y),at_ (dv p n W (scl m) w),⟨z,md,z.r.all (dv_el o hx),z.r.all (dv_el o hy),z.r.all (dv_el o hw)⟩,⟨hx,(scaled o hq hx).trans (Eqv.of_eq fun t=>?_)⟩,⟨hy,(scaled o hq hy).trans (Eqv.of_eq fun t=>?_)⟩,⟨hw,(scaled o hq hw).trans (Eqv.of_eq fun t=>?_)⟩,by rcases md.cut with h | h | h<;>omega⟩
 all_goals simp [evv,ev1,ev2,ev3]
theorem Lz.assoc (z:Lz p n W B c) {x y w:List Int} (hx:El p n x) (hy:El p n y) (hw:El p n w):Go.Proofs.bch p n W B (Go.Proofs.bch p n W B x y) w=Go.Proofs.bch p n W B x (Go.Proofs.bch p n W B y w):=by
 obtain⟨m,X,Y,Z,k,ex,ey,ew,hm⟩:=z.cx hx hy hw;rcases hm with rfl|rfl|rfl<;>exact((ex.bch k ey (by decide)).bch k ew (by decide)).eq k (ex.bch k (ey.bch k ew (by decide)) (by decide)) (by decide)
end Go.Proofs
namespace Go.Proofs
open Go.Ab Go.Lie
variable {p:Int} {n m:Nat} {W:List (List Int)} {B:List (List (List Int))} {c:Nat} {X Y Z:Vec} {a b:List Int} {x y:List Int}
def kok2 (m:Nat) (a:List Int):Bool:=kdvd m a 2 && (decide (3<m) || keqm m a [])
theorem EV.dv0 (k:Cx p n W B c m X Y Z) (h:EV p n W B X Y Z a x) {q:Int} (e:keqm m a []=true):EV p n W B X Y Z (kdiv a q) (dv p n W q x):=by
 have hm:m≤14:=by rcases k.md.cut with h | h | h<;>omega
 have h0:∀i,i<m→at_ a i=0:=fun i hi=>by simpa using zEC e i hi
 exact(h.divZ k h0).to k fun i hi=>by rw [zFj _ _ i (by omega),h0 i hi,Int.zero_ediv]
theorem EV.dv2 (k:Cx p n W B c m X Y Z) (h:EV p n W B X Y Z a x) (e:kok2 m a=true):EV p n W B X Y Z (kdiv a 2) (dv p n W 2 x):=by
 simp only [kok2,Bool.and_eq_true,Bool.or_eq_true,decide_eq_true_eq]at e
 rcases e.2 with h3|h3
 ·rcases k.md.d2 with hl | hc
  ·omega
  ·exact h.dvk k e.1 hc.1
 ·exact h.dv0 k h3
def kf3 (a b d:List Int):List Int:=kbch (kbch (kbch [] a) b) d
def kok3 (m:Nat) (a b d:List Int):Bool:=kokb m [] a && kokb m (kbch [] a) b && kokb m (kbch (kbch [] a) b) d
theorem EV.fold3 (k:Cx p n W B c m X Y Z) {d w:List Int} (hx:EV p n W B X Y Z a x) (hy:EV p n W B X Y Z b y) (hw:EV p n W B X Y Z d w) (e:kok3 m a b d=true):EV p n W B X Y Z (kf3 a b d) (fold p n W B [x,y,w]):=by
 simp only [kok3,Bool.and_eq_true]at e
 exact(((EV.zero k).bch k hx e.1.1).bch k hy e.1.2).bch k hw e.2
def kf4 (a b d e:List Int):List Int:=kbch (kf3 a b d) e
def kok4 (m:Nat) (a b d e:List Int):Bool:=kok3 m a b d && kokb m (kf3 a b d) e
theorem EV.fold4 (k:Cx p n W B c m X Y Z) {d w d' w':List Int} (hx:EV p n W B X Y Z a x) (hy:EV p n W B X Y Z b y) (hw:EV p n W B X Y Z d w) (hv:EV p n W B X Y Z d' w') (e:kok4 m a b d d'=true):EV p n W B X Y Z (kf4 a b d d') (fold p n W B [x,y,w,w']):=by
 simp only [kok4,Bool.and_eq_true]at e
 exact(EV.fold3 k hx hy hw e.1).bch k hv e.2
def kcomm (a b:List Int):List Int:=kf4 (kmul (-1) a) (kmul (-1) b) a b
def kokc (m:Nat) (a b:List Int):Bool:=kok4 m (kmul (-1) a) (kmul (-1) b) a b
theorem EV.comm (k:Cx p n W B c m X Y Z) (hx:EV p n W B X Y Z a x) (hy:EV p n W B X Y Z b y) (e:kokc m a b=true):EV p n W B X Y Z (kcomm a b) (comm p n W B x y):=EV.fold4 k (hx.mul k _) (hy.mul k _) hx hy e
def kconj (a b:List Int):List Int:=kf3 (kmul (-1) b) a b
theorem EV.conj (k:Cx p n W B c m X Y Z) (hx:EV p n W B X Y Z a x) (hy:EV p n W B X Y Z b y) (e:kok3 m (kmul (-1) b) a b=true):EV p n W B X Y Z (kconj a b) (conj p n W B x y):=EV.fold3 k (hy.mul k _) hx hy e
theorem Lz.inv_l (z:Lz p n W B c) (hx:El p n x):bch p n W B (lmul p W (-1) x) x=List.replicate n 0:=by
 obtain⟨m,X,Y,Z,k,ex,ey,ew,hm⟩:=z.cx hx hx hx;rcases hm with rfl|rfl|rfl<;>exact((ex.mul k _).bch k ex (by decide)).eq k (EV.zero k) (by decide)
theorem Lz.inv_r (z:Lz p n W B c) (hx:El p n x):bch p n W B x (lmul p W (-1) x)=List.replicate n 0:=by
 obtain⟨m,X,Y,Z,k,ex,ey,ew,hm⟩:=z.cx hx hx hx;rcases hm with rfl|rfl|rfl<;>exact(ex.bch k (ex.mul k _) (by decide)).eq k (EV.zero k) (by decide)
theorem Lz.one_l (z:Lz p n W B c) (hx:El p n x):bch p n W B (List.replicate n 0) x=x:=by
 obtain⟨m,X,Y,Z,k,ex,ey,ew,hm⟩:=z.cx hx hx hx;rcases hm with rfl|rfl|rfl<;>exact((EV.zero k).bch k ex (by decide)).eq k ex (by decide)
theorem Lz.one_r (z:Lz p n W B c) (hx:El p n x):bch p n W B x (List.replicate n 0)=x:=by
 obtain⟨m,X,Y,Z,k,ex,ey,ew,hm⟩:=z.cx hx hx hx;rcases hm with rfl|rfl|rfl<;>exact(ex.bch k (EV.zero k) (by decide)).eq k ex (by decide)
end Go.Proofs
namespace Go.Proofs
open Go.Ab Go.Lie
variable {p:Int} {n m:Nat} {W:List (List Int)} {B:List (List (List Int))} {c:Nat} {X Y Z:Vec} {a b:List Int} {x y:List Int}
noncomputable def tsum (p:Int) (n:Nat) (W:List (List Int)) (B:List (List (List Int))) (y x:List Int):Nat→List Int
 | 0=>List.replicate n 0
 | j+1=>ladd p W (tsum p n W B y x j) (cterm p n W B y x j)
theorem zB7 (o:OkW p n W) (q:OkB p n B) (hx:El p n x) (j:Nat):El p n (cterm p n W B y x j):=dv_el o (zPe o q hx j)
theorem zFG (o:OkW p n W) (q:OkB p n B) (hx:El p n x):∀j,El p n (tsum p n W B y x j)
 | 0=>ZH o.pr
 | j+1=>zJ o (zFG o q hx j) (zB7 o q hx j)
theorem zLz (o:OkW p n W) {s z:List Int} (hs:El p n s) (hz:El p n z) (h0:isZ z):ladd p W s z=s:=
 qJ o (zJ o hs hz).1 hs.1 (zJ o hs hz).2 hs.2 ((ql o hs hz).trans (Eqv.of_eq fun t=>by rw [ZW h0,Int.add_zero]))
theorem EV.dv1 (k:Cx p n W B c m X Y Z) (h:EV p n W B X Y Z a x):EV p n W B X Y Z a (dv p n W 1 x):=by
 rw [←dv_of k.z.r.o ⟨1,0,by omega⟩ h.el h.el (Eqv.of_eq fun j=>Int.one_mul _)]
 exact h
theorem Lz.conj_sum3 (z:Lz p n W B c) (hx:El p n x) (hy:El p n y):tsum p n W B y x 3=Go.Proofs.conj p n W B x y:=by
 obtain⟨m,X,Y,Z,k,ex,ey,ew,hm⟩:=z.cx hx hy hx;rcases hm with rfl|rfl|rfl<;>
  exact((((EV.zero k).add k (ex.dv1 k)).add k ((ex.brk k ey).dv1 k)).add k (((ex.brk k ey).brk k ey).dv2 k (by decide))).eq k (ex.conj k ey (by decide)) (by decide)
theorem Lz.conj_move (z:Lz p n W B c) (hx:El p n x) (hy:El p n y):bch p n W B y (Go.Proofs.conj p n W B x y)=bch p n W B x y:=by
 obtain⟨m,X,Y,Z,k,ex,ey,ew,hm⟩:=z.cx hx hy hx;rcases hm with rfl|rfl|rfl<;>exact(ey.bch k (ex.conj k ey (by decide)) (by decide)).eq k (ex.bch k ey (by decide)) (by decide)
theorem Lz.conj_comm (z:Lz p n W B c) (hx:El p n x) (hy:El p n y):bch p n W B (lmul p W (-1) x) (Go.Proofs.conj p n W B x y)=Go.Proofs.comm p n W B x y:=by
 obtain⟨m,X,Y,Z,k,ex,ey,ew,hm⟩:=z.cx hx hy hx;rcases hm with rfl|rfl|rfl<;>exact((ex.mul k _).bch k (ex.conj k ey (by decide)) (by decide)).eq k (ex.comm k ey (by decide)) (by decide)
theorem Lz.pow_step (z:Lz p n W B c) (hx:El p n x) (j:Int):bch p n W B (lmul p W j x) x=lmul p W (j+1) x:=by
 have o:=z.r.o;have q:=z.r.q;have hj:=zJ o hx hx (k:=j) (m:=0);have hb:isZ (br p W B n (lmul p W j x) x):=by
  refine ZZ o (br_el o q) ((Zl o q _ _).trans ((zAm o q z.r.nf _ (qP o hx j)).trans (Eqv.of_eq fun t=>?_)))
  rw [qL,zHp,Int.mul_zero]
 have ht:isZ (ZB p W B n (lmul p W j x) x):=by
  refine ZZ o (Zb o q) ((ql o (br_el o q) (br_el o q)).trans (Eqv.of_eq fun t=>?_))
  have h2:isZ (br p W B n (lmul p W j x) (br p W B n (lmul p W j x) x)):=by
   refine ZZ o (br_el o q) ((Zl o q _ _).trans (Eqv.of_eq fun t=>?_))
   rw [zV,Zu (f':=fun j=>0*at_ x j) (g':=at_ (lmul p W j x)) (fun j=>by rw [ZW hb,Int.zero_mul]) (fun _=>rfl),qL,Int.zero_mul,Int.mul_zero]
  have h3:isZ (br p W B n x (lmul p W (-1) (br p W B n (lmul p W j x) x))):=by
   have hn:isZ (lmul p W (-1) (br p W B n (lmul p W j x) x)):=ZZ o (zJ o (br_el o q) (br_el o q)) ((qP o (br_el o q) (-1)).trans (Eqv.of_eq fun t=>by rw [ZW hb,Int.mul_zero]))
   refine ZZ o (br_el o q) ((Zl o q _ _).trans (Eqv.of_eq fun t=>?_))
   rw [zV,Zu (f':=fun j=>0*at_ x j) (g':=at_ x) (fun j=>by rw [ZW hn,Int.zero_mul]) (fun _=>rfl),qL,Int.zero_mul,Int.mul_zero]
  rw [ZW h2,ZW h3]
  rfl
 unfold Go.Proofs.bch;have hd2:isZ (dv p n W 2 (br p W B n (lmul p W j x) x)):=by rw [(Z4 o (br_el o q) (k:=2)).nil hb];exact hb
 have hd12:isZ (dv p n W 12 (ZB p W B n (lmul p W j x) x)):=by rw [(Z4 o (Zb o q) (k:=12)).nil ht];exact ht
 have hs:El p n (ladd p W (lmul p W j x) x):=zJ o hj hx;rw [zLz o hs (dv_el o (br_el o q)) hd2,zLz o hs (dv_el o (Zb o q)) hd12];refine qJ o hs.1 (zJ o hx hx).1 hs.2 (zJ o hx hx).2 ((ql o hj hx).trans (((qP o hx j).add (Eqv.refl _)).trans (Eqv.trans (Eqv.of_eq fun t=>?_) (qP o hx (j+1)).symm)))
 grind
end Go.Proofs
namespace Go.Grp
end Go.Grp
namespace Go.Proofs
open Go.Ab Go.Lie Go.Grp
variable {p:Int} {n c:Nat} {W:List (List Int)} {B:List (List (List Int))}
theorem Lz.gp (z:Lz p n W B c):Gp (El p n) (bch p n W B) (List.replicate n 0):=by
 have o:=z.r.o;have q:=z.r.q;refine⟨⟨⟨by simp,fun y hy=>by rw [List.eq_of_mem_replicate hy];have:=o.pr.1;omega⟩,fun ha hb=>ZP o q ha hb,fun ha hb hc=>z.assoc ha hb hc,fun ha=>z.one_l ha,fun ha=>z.one_r ha⟩,fun {a} ha=>⟨lmul p W (-1) a,zJ o ha ha,z.inv_r ha,z.inv_l ha⟩⟩
theorem Lz.pw_eq (z:Lz p n W B c) {x:List Int} (hx:El p n x):∀k:Nat,Grp.pw (bch p n W B) (List.replicate n 0) x k=lmul p W k x
 | 0=>by
  have o:=z.r.o;have hz:El p n (List.replicate n 0):=z.gp.one;have e:=(qP o hx ((0:Nat):Int));refine(qJ o hz.1 (zJ o hx hx).1 hz.2 (zJ o hx hx).2 ?_);refine Eqv.trans ?_ e.symm;exact Eqv.of_eq fun j=>by show at_ (List.replicate n (0:Int)) j=_;rw [zm];simp
 | k+1=>by
  show bch p n W B (Grp.pw (bch p n W B) (List.replicate n 0) x k) x=_;rw [z.pw_eq hx k,z.pow_step hx]
  rfl
end Go.Proofs
namespace Go.Grp
end Go.Grp
namespace Go.Proofs
open Go.Ab Go.Lie Go.Grp
variable {p:Int} {n c a:Nat} {W:List (List Int)} {B:List (List (List Int))} {x y:List Int} {f g:Vec}
def Dzv (p:Int) (n:Nat) (W:List (List Int)) (a:Nat) (f:Vec):Prop:=∃v:List Int,v.length=n∧(∀j,j<a→at_ v j=0)∧Eqv p n W f (at_ v)
theorem Dzv.sub (a:Nat):IsSub p n W (Dzv p n W a) where
 zero:=⟨List.replicate n 0,by simp,fun j _=>zm n j,Eqv.of_eq fun j=>(zm n j).symm⟩
 add:=fun f g ⟨v,h1,h2,h3⟩ ⟨w,g1,g2,g3⟩=>⟨lmix 1 v 1 w,by rw [zQ (h1.trans g1.symm)];exact h1,fun j hj=>by rw [zl (h1.trans g1.symm),h2 j hj,g2 j hj];rfl,(h3.add g3).trans (Eqv.of_eq fun j=>by rw [zl (h1.trans g1.symm)];omega)⟩
 mul:=fun k f ⟨v,h1,h2,h3⟩=>⟨lmix k v 0 v,by rw [zQ rfl];exact h1,fun j hj=>by rw [zl rfl,h2 j hj];simp,(h3.mul k).trans (Eqv.of_eq fun j=>by rw [zl rfl];simp)⟩
 eqv:=fun f g e ⟨v,h1,h2,h3⟩=>⟨v,h1,h2,e.trans h3⟩
theorem Dzv.of (hx:El p n x) (h:∀j,j<a→at_ x j=0):Dzv p n W a (at_ x):=⟨x,hx.1,h,Eqv.refl _⟩
theorem Dzv.mono {b:Nat} (h:Dzv p n W a f) (hb:b≤a):Dzv p n W b f:=by
 obtain⟨v,h1,h2,h3⟩:=h;exact⟨v,h1,fun j hj=>h2 j (by omega),h3⟩
theorem zPa (q:OkB p n B) {v:List Int} (h:∀j,j<a→at_ v j=0) (g:Vec):(∀t,t<a+1→brv B n (at_ v) g t=0)∧∀t,n≤t→brv B n (at_ v) g t=0:=by
 refine⟨fun t ht=>qM n fun i hi=>qM _ fun j hj=>?_,fun t ht=>qM n fun i hi=>qM _ fun j hj=>?_⟩
 ·obtain⟨e1,e2⟩:=q.get hi hj
  rcases Nat.lt_or_ge (i+1+j) a with h1|h1
  ·rw [h i (by omega),h (i+1+j) h1];simp
  ·rw [e2 t (by omega),Int.mul_zero]
 ·obtain⟨e1,e2⟩:=q.get hi hj
  rw [e1.beyond ht,Int.mul_zero]
theorem Dzv.brL (o:OkW p n W) (q:OkB p n B) (nf:qx p W B n) (h:Dzv p n W a f) (g:Vec):Dzv p n W (a+1) (brv B n f g):=by
 obtain⟨v,h1,h2,h3⟩:=h;obtain⟨k1,k2⟩:=zPa q h2 g;refine⟨tab n (brv B n (at_ v) g),Qj _,fun j hj=>by rw [zGe _ k2];exact k1 j hj,(zAm o q nf g h3).trans (Eqv.of_eq fun j=>(zGe _ k2 j).symm)⟩
structure Fil (p:Int) (n:Nat) (W:List (List Int)) (B:List (List (List Int))) (S:Nat→Vec→Prop):Prop where
 sub:∀k,IsSub p n W (S k)
 down:∀k f,S (k+1) f→S k f
 brL:∀k f g,S k f→S (k+1) (brv B n f g)
theorem Fil.brR {S:Nat→Vec→Prop} (F:Fil p n W B S) (k:Nat) (f g:Vec) (h:S k g):S (k+1) (brv B n f g):=
 (F.sub _).eqv _ _ (Eqv.of_eq fun t=>zV f g t) ((F.sub _).mul _ _ (F.brL k g f h))
theorem Fil.br {S:Nat→Vec→Prop} (F:Fil p n W B S) (o:OkW p n W) (q:OkB p n B) {k:Nat} (h:S k (at_ x)∨S k (at_ y)):S (k+1) (at_ (br p W B n x y)):=
 (F.sub _).eqv _ _ (Zl o q x y) (by
  rcases h with h|h
  ·exact F.brL _ _ _ h
  ·exact F.brR _ _ _ h)
theorem Lz.fil (z:Lz p n W B c):Fil p n W B (Lw p n W B):=⟨fun k=>z.r.sub k,fun k f h=>z.r.down h,fun k f g h=>z.r.brk h g⟩
theorem Lz.filD (z:Lz p n W B c):Fil p n W B (Dzv p n W):=⟨fun k=>Dzv.sub k,fun k f h=>h.mono (by omega),fun k f g h=>h.brL z.r.o z.r.q z.r.nf g⟩
theorem Lz.bch_fil (z:Lz p n W B c) {S:Nat→Vec→Prop} (F:Fil p n W B S) (hx:El p n x) (hy:El p n y):∃u:Vec,(∀k,S k (at_ x)∨S k (at_ y)→S (k+1) u)∧Eqv p n W (at_ (bch p n W B x y)) fun j=>at_ x j+at_ y j+u j:=by
 have o:=z.r.o;have q:=z.r.q;have hb:El p n (Go.Proofs.br p W B n x y):=br_el o q;have h3:El p n (ZB p W B n x y):=Zb o q;refine⟨fun j=>at_ (dv p n W 2 (Go.Proofs.br p W B n x y)) j+at_ (dv p n W 12 (ZB p W B n x y)) j,fun k h=>?_,?_⟩
 ·have d1:S (k+1) (at_ (Go.Proofs.br p W B n x y)):=F.br o q h
  have d2:S (k+1) (at_ (ZB p W B n x y)):=by
   refine(F.sub _).eqv _ _ (ql o (br_el o q) (br_el o q)) ((F.sub _).add _ _ ?_ ?_)
   ·exact F.down _ _ (F.br o q (.inr d1))
   ·exact F.down _ _ (F.br o q (.inr ((F.sub _).eqv _ _ (qP o hb (-1)) ((F.sub _).mul _ _ d1))))
  exact(F.sub _).add _ _ (zEy o (F.sub _) (Z4 o hb) (z.d2 hx) d1) (zEy o (F.sub _) (Z4 o h3) (z.d12 hx) d2)
 ·refine(ql o (zJ o (zJ o hx hy) (dv_el o hb)) (dv_el o h3)).trans ?_
  refine((ql o (zJ o hx hy) (dv_el o hb)).add (Eqv.refl _)).trans ?_;refine(((ql o hx hy).add (Eqv.refl _)).add (Eqv.refl _)).trans (Eqv.of_eq fun j=>?_)
  show _=at_ x j+at_ y j+(_+_);omega
theorem zJY:Cop p 1:=⟨1,0,by omega⟩
theorem zDI (o:OkW p n W) (q:OkB p n B) (hx:El p n x) (hy:El p n y):El p n (conj p n W B x y):=Q9 o q (els3 (zAN o hy) hx hy)
theorem Lz.conj_fil (z:Lz p n W B c) {S:Nat→Vec→Prop} (F:Fil p n W B S) (hx:El p n x) (hy:El p n y):∃u:Vec,(∀k,S k (at_ x)∨S k (at_ y)→S (k+1) u)∧Eqv p n W (at_ (conj p n W B x y)) fun j=>at_ x j+u j:=by
 have o:=z.r.o;have q:=z.r.q;have hb:El p n (Go.Proofs.br p W B n x y):=br_el o q;have hb2:El p n (Go.Proofs.br p W B n (Go.Proofs.br p W B n x y) y):=br_el o q;refine⟨fun j=>at_ (dv p n W 1 (Go.Proofs.br p W B n x y)) j+at_ (dv p n W 2 (Go.Proofs.br p W B n (Go.Proofs.br p W B n x y) y)) j,fun k h=>?_,?_⟩
 ·have d1:S (k+1) (at_ (Go.Proofs.br p W B n x y)):=F.br o q h
  exact(F.sub _).add _ _ (zEy o (F.sub _) (Z4 o hb) (.inr zJY) d1) (zEy o (F.sub _) (Z4 o hb2) (z.d2 hb) (F.down _ _ (F.br o q (.inl d1))))
 ·rw [←z.conj_sum3 hx hy]
  have c0:El p n (cterm p n W B y x 0):=zB7 o q hx 0;have c1:El p n (cterm p n W B y x 1):=zB7 o q hx 1;have c2:El p n (cterm p n W B y x 2):=zB7 o q hx 2;have t1:El p n (tsum p n W B y x 1):=zFG o q hx 1;have t2:El p n (tsum p n W B y x 2):=zFG o q hx 2;have e0:Eqv p n W (at_ (cterm p n W B y x 0)) (at_ x):=((Eqv.of_eq fun j=>by show _=1*at_ (dv p n W 1 x) j;rw [Int.one_mul];rfl).trans ((Z4 o hx (k:=1)).eqv zJY))
  refine(ql o t2 c2).trans (((ql o t1 c1).add (Eqv.refl _)).trans ?_);refine((((ql o (ZH o.pr) c0).trans ((Eqv.of_eq (fun j=>zm n j)).add e0)).add (Eqv.refl _)).add (Eqv.refl _)).trans (Eqv.of_eq fun j=>?_)
  show 0+at_ x j+at_ (dv p n W 1 (Go.Proofs.br p W B n x y)) j+at_ (dv p n W 2 (Go.Proofs.br p W B n (Go.Proofs.br p W B n x y) y)) j=at_ x j+(_+_);omega
theorem Lz.comm_fil (z:Lz p n W B c) {S:Nat→Vec→Prop} (F:Fil p n W B S) (hx:El p n x) (hy:El p n y) {k:Nat} (h:S k (at_ x)):S (k+1) (at_ (Go.Proofs.comm p n W B x y)):=by
 have o:=z.r.o;have q:=z.r.q;have hn:=zAN o hx;have hc:=zDI o q hx hy;obtain⟨u,hu,e⟩:=z.conj_fil F hx hy;obtain⟨v,hv,e2⟩:=z.bch_fil F hn hc;rw [←z.conj_comm hx hy];have hk:S (k+1) v:=hv k (.inl ((F.sub _).eqv _ _ (qP o hx (-1)) ((F.sub _).mul _ _ h)));refine(F.sub _).eqv _ _ e2 ((F.sub _).eqv _ _ (((qP o hx (-1)).add e).add (Eqv.refl v)) ((F.sub _).eqv _ _ (Eqv.of_eq fun j=>?_) ((F.sub _).add _ _ (hu k (.inl h)) hk)))
 show -1*at_ x j+(at_ x j+u j)+v j=u j+v j;omega
theorem Lz.bch_eqv (z:Lz p n W B c) (hx:El p n x) (hy:El p n y):∃u:Vec,(∀a,Dzv p n W a (at_ x)∨Dzv p n W a (at_ y)→Dzv p n W (a+1) u)∧Eqv p n W (at_ (bch p n W B x y)) fun j=>at_ x j+at_ y j+u j:=z.bch_fil z.filD hx hy
theorem zEe {A B k p:Int} (h:A=B-k*p) (h0:0≤A∧A≤p-1):A=B % p:=by
 have:B=A+k*p:=by omega
 rw [this,Int.add_mul_emod_self_right,Int.emod_eq_of_lt h0.1 (by omega)]
theorem Lz.head (z:Lz p n W B c) (hx:El p n x) (hy:El p n y) (ha:a<n) (h:Dzv p n W a (at_ x)∨Dzv p n W a (at_ y)) (hs:∀j,j<a→0≤at_ x j+at_ y j∧at_ x j+at_ y j≤p-1):
  (∀j,j<a→at_ (bch p n W B x y) j=at_ x j+at_ y j)∧at_ (bch p n W B x y) a=(at_ x a+at_ y a) % p:=by
 have o:=z.r.o;obtain⟨u,hu,e⟩:=z.bch_eqv hx hy;obtain⟨v,h1,h2,h3⟩:=hu a h;have hb:El p n (bch p n W B x y):=ZP o z.r.q hx hy;have e2:=e.trans ((Eqv.refl (fun j=>at_ x j+at_ y j)).add h3)
 obtain⟨k1,k,k2⟩:=Zr o e2 ha (fun j hj=>hb.at0 o j) (fun j hj=>by rw [h2 j (by omega)];have:=hs j hj;omega)
 refine⟨fun j hj=>by rw [k1 j hj,h2 j (by omega)];omega,?_⟩
 rw [h2 a (by omega)]at k2
 have:=zEe k2 (hb.at0 o a)
 rw [this,Int.add_zero]
theorem Lz.headL (z:Lz p n W B c) (hx:El p n x) (hy:El p n y) (ha:a<n) (h:∀j,j<a→at_ x j=0):
  (∀j,j<a→at_ (bch p n W B x y) j=at_ y j)∧at_ (bch p n W B x y) a=(at_ x a+at_ y a) % p:=by
 obtain⟨h1,h2⟩:=z.head hx hy ha (.inl (Dzv.of hx h)) fun j hj=>by rw [h j hj];have:=hy.at0 z.r.o j;omega
 exact⟨fun j hj=>by rw [h1 j hj,h j hj];omega,h2⟩
theorem zNK (o:OkW p n W) (hx:El p n x) (ha:a<n) (h:∀j,j<a→at_ x j=0) (k:Int):(∀j,j<a→at_ (lmul p W k x) j=0)∧at_ (lmul p W k x) a=(k*at_ x a) % p:=by
 have h0:∀j,j<a→at_ (lmix k x 0 x) j=0:=fun j hj=>by rw [zl rfl,h j hj];simp
 have hl:(lmix k x 0 x).length=n:=by rw [zQ rfl];exact hx.1
 refine⟨zAM o hl (by omega) h0,?_⟩
 rw [zCb o hl ha h0,zl rfl];simp
theorem zAH {i:Nat} (hi:i<n):(∀j,j<i→at_ (unitL n i) j=0)∧at_ (unitL n i) i=1:=⟨fun j hj=>by rw [qK hi,if_neg (by omega)],by rw [qK hi,if_pos rfl]⟩
theorem zBD (o:OkW p n W) {i:Nat} (hi:i<n) (k:Int):El p n (lmul p W k (unitL n i))∧(∀j,j<i→at_ (lmul p W k (unitL n i)) j=0)∧at_ (lmul p W k (unitL n i)) i=k % p:=by
 have hu:=zR (n:=n) o.pr hi;obtain⟨h1,h2⟩:=zNK o hu hi (zAH hi).1 k;exact⟨zJ o hu hu,h1,by rw [h2,(zAH hi).2,Int.mul_one]⟩
theorem zJB (z:Lz p n W B c) (hx:El p n x):∀{i:Nat},i≤n→∀j,j<i→at_ (stG p n W B x i).2 j=0
 | 0,_,j,hj=>by omega
 | i+1,hi,j,hj=>by
  have o:=z.r.o;obtain⟨e1,e2,e3⟩:=zBD o (show i<n by omega) (-at_ (stG p n W B x i).2 i)
  have hr:=zAI o z.r.q hx (i:=i) (by omega)
  obtain⟨k1,k2⟩:=z.headL e1 hr (by omega) e2
  show at_ (bch p n W B _ _) j=0;rcases Nat.lt_or_ge j i with h|h
  ·rw [k1 j h];exact zJB z hx (by omega) j h
  ·have hj:j=i:=by omega
   subst hj;rw [k2,e3,Int.emod_add_emod,show -at_ (stG p n W B x j).2 j+at_ (stG p n W B x j).2 j=0 by omega,Int.zero_emod]
theorem zKy {m:Nat}:∀{i:Nat},m<i→i≤n→at_ (stG p n W B x i).1 m=at_ (stG p n W B x m).2 m
 | 0,h,_=>by omega
 | i+1,h,hi=>by
  have hl:=ZF (p:=p) (n:=n) (W:=W) (B:=B) (x:=x) i;show at_ ((stG p n W B x i).1.set i _) m=_;rw [at_set (by omega)]
  split
  ·rename_i e;subst e;rfl
  ·exact zKy (by omega) (by omega)
theorem zEK {m:Nat} (hm:m<n):at_ (vcG p n W B x) m=at_ (stG p n W B x m).2 m:=zKy hm (Nat.le_refl _)
theorem zKv:(vcG p n W B x).length=n:=ZF n
theorem vc_el (z:Lz p n W B c) (hx:El p n x):El p n (vcG p n W B x):=by
 have o:=z.r.o;refine⟨zKv,fun y hy=>?_⟩
 obtain⟨i,hi,rfl⟩:=List.mem_iff_getElem.1 hy;have hin:i<n:=by rw [←zKv (p:=p) (n:=n) (W:=W) (B:=B) (x:=x)];exact hi
 rw [←at_eq hi,zEK hin];exact(zAI o z.r.q hx (by omega)).at0 o i
theorem zDw (o:OkW p n W) (hx:El p n x) (k l:Int):lmul p W k (lmul p W l x)=lmul p W (k*l) x:=by
 have hy:El p n (lmul p W l x):=zJ o hx hx;refine qJ o (zJ o hy hy).1 (zJ o hx hx).1 (zJ o hy hy).2 (zJ o hx hx).2 ?_;refine(qP o hy k).trans (((qP o hx l).mul k).trans (Eqv.trans (Eqv.of_eq fun j=>?_) (qP o hx (k*l)).symm))
 rw [Int.mul_assoc]
theorem zLq (o:OkW p n W) (hx:El p n x):lmul p W 0 x=List.replicate n 0:=by
 refine qJ o (zJ o hx hx).1 (by simp) (zJ o hx hx).2 (ZH o.pr).2 ?_
 exact(qP o hx 0).trans (Eqv.of_eq fun j=>by rw [zm];simp)
theorem zNO (o:OkW p n W) (hx:El p n x):lmul p W 1 x=x:=by
 refine qJ o (zJ o hx hx).1 hx.1 (zJ o hx hx).2 hx.2 ?_;exact(qP o hx 1).trans (Eqv.of_eq fun j=>by simp)
theorem zJC (z:Lz p n W B c) (hx:El p n x):∀{i:Nat},i≤n→bch p n W B (ptG p n W B (vcG p n W B x) i) (stG p n W B x i).2=x
 | 0,_=>z.one_l hx
 | i+1,hi=>by
  have o:=z.r.o;have q:=z.r.q;have hr:=zAI o q hx (i:=i) (by omega)
  have hp:=Ql o q (vcG p n W B x) (i:=i) (by omega)
  have e1:=fun k=>(zBD o (show i<n by omega) k).1
  show bch p n W B (bch p n W B (ptG p n W B (vcG p n W B x) i) (lmul p W (at_ (vcG p n W B x) i) (unitL n i))) (bch p n W B (lmul p W (-at_ (stG p n W B x i).2 i) (unitL n i)) (stG p n W B x i).2)=x;rw [zEK (by omega),z.assoc hp (e1 _) (ZP o q (e1 _) hr),←z.assoc (e1 _) (e1 _) hr]
  have e:lmul p W (-at_ (stG p n W B x i).2 i) (unitL n i)=lmul p W (-1) (lmul p W (at_ (stG p n W B x i).2 i) (unitL n i)):=by
   rw [zDw o (zR o.pr (by omega))]
   congr 1;omega
  rw [e,z.inv_r (e1 _),z.one_l hr,zJC z hx (by omega)]
theorem pt_vc (z:Lz p n W B c) (hx:El p n x):ptG p n W B (vcG p n W B x) n=x:=by
 have o:=z.r.o;have h:=zJC z hx (Nat.le_refl n);have e:(stG p n W B x n).2=List.replicate n 0:=Zj (by rw [(zAI o z.r.q hx (Nat.le_refl n)).1];simp) fun j hj=>by
  rw [(zAI o z.r.q hx (Nat.le_refl n)).1]at hj
  rw [zJB z hx (Nat.le_refl n) j hj,zm]
 rw [e,z.one_r (Ql o z.r.q _ (Nat.le_refl n))]at h
 exact h
theorem zFJ (z:Lz p n W B c) (hx:El p n x) (h:∀j,j<a→at_ x j=0):∀{i:Nat},i≤n→i≤a→(stG p n W B x i).2=x
 | 0,_,_=>rfl
 | i+1,hi,ha=>by
  have ih:=zFJ z hx h (i:=i) (by omega) (by omega)
  show bch p n W B (lmul p W (-at_ (stG p n W B x i).2 i) (unitL n i)) (stG p n W B x i).2=x;rw [ih,h i (by omega),Int.neg_zero,zLq z.r.o (zR z.r.o.pr (by omega)),z.one_l hx]
theorem zFB (z:Lz p n W B c) (hx:El p n x) (ha:a≤n) (h:∀j,j<a→at_ x j=0):(∀j,j<a→at_ (vcG p n W B x) j=0)∧(a<n→at_ (vcG p n W B x) a=at_ x a):=by
 refine⟨fun j hj=>by rw [zEK (by omega),zFJ z hx h (by omega) (by omega)];exact h j hj,fun hn=>by rw [zEK hn,zFJ z hx h (by omega) (Nat.le_refl _)]⟩
end Go.Proofs
