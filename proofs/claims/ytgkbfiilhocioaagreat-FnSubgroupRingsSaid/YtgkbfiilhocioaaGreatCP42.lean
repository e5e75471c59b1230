/- The presentation of a Lazard ring: the program's walk. -/
import Derived.Test.YtgkbfiilhocioaaGreatCP32
import Derived.Test.YtgkbfiilhocioaaGreatCAbPa
import Derived.Test.YtgkbfiilhocioaaGreatCP37
import Derived.Test.YtgkbfiilhocioaaGreatCP28
import Derived.Test.YtgkbfiilhocioaaGreatCP34
open Int renaming reduceNatCast'→iQ0
set_option maxRecDepth 100000
set_option linter.unusedSimpArgs false
set_option linter.unusedVariables false
namespace Go.Proofs
open Go.Ab Go.Lie
variable {σ:PHeap} {K:PV→PHeap→Prop} {n:Nat} {p:Int}
theorem u64_and {n:Nat} (hn:n≤6):pbin .and .other (.int .u64 n) (.int .u64 4294967295)=some (.int .u64 n):=by
 have hc:n=0∨n=1∨n=2∨n=3∨n=4∨n=5∨n=6:=by omega
 rcases hc with rfl|rfl|rfl|rfl|rfl|rfl|rfl<;>rfl
theorem zN1 {n:Nat} (hn:n≤6):pbin .shr .other (.int .u64 n) (.int .u64 32)=some (.int .u64 0):=by
 have hc:n=0∨n=1∨n=2∨n=3∨n=4∨n=5∨n=6:=by omega
 rcases hc with rfl|rfl|rfl|rfl|rfl|rfl|rfl<;>rfl
theorem zGa {n:Nat} (hn:n≤6):IntKind.u64.wrap (n:Int)=n:=by
 have hc:n=0∨n=1∨n=2∨n=3∨n=4∨n=5∨n=6:=by omega
 rcases hc with rfl|rfl|rfl|rfl|rfl|rfl|rfl<;>rfl
theorem zNv (hn:n≤6) (hk:K (.tup [.int .u64 0,.int .u64 n]) σ):zA Tryz.prog 318 [.int .u64 1,.int .u64 n] σ K:=by
 have a1:pbin .and .other (.int .u64 1) (.int .u64 4294967295)=some (.int .u64 1):=rfl;have a0:pbin .and .other (.int .u64 0) (.int .u64 4294967295)=some (.int .u64 0):=rfl;have s1:pbin .shr .other (.int .u64 1) (.int .u64 32)=some (.int .u64 0):=rfl;have s0:pbin .shr .other (.int .u64 0) (.int .u64 32)=some (.int .u64 0):=rfl;have w0:IntKind.u64.wrap 0=0:=rfl;refine zD mix Tryz.func318 ?_
 conv=>arg 2;cbv
 refine zF rfl ?_;simp only [pwA,seval,-iQ0,a1,a0,s1,s0,u64_and hn,zN1 hn,zGa hn,w0,Int.one_mul,Int.zero_mul,Int.mul_zero,Int.add_zero];exact hk
theorem zPl (hn:n≤6) (hk:K (.tup [.int .u64 0,.int .u64 n]) σ):zA Tryz.prog 278 [.int .u64 1,.int .u64 n] σ K:=by
 refine zD mix Tryz.func278 ?_
 conv=>arg 2;cbv
 refine zF rfl ?_;simp only [pwA,seval,-iQ0];refine zNv hn ?_;simp only [pwA,seval,-iQ0];exact hk
def fillR (p:Int) (n d:Nat):List Int:=List.replicate d p++List.replicate (n-d) 0
theorem zCt {d:Nat} (hd:d≤n):(fillR p n d).length=n:=by simp [fillR];omega
theorem zG0 {h:PHeap} {o d m len:Nat} {c1:Cap} {x:PV} {cs:List PV} (hx:plen x=some m) (hm:min m len≠0) (hf:Zj 1 h x (min m len)=some cs) {h':PHeap} (hw:h.wr o d cs=some h'):pcopy 1 h (.sl o d len c1) x=some (.int .i64 (min m len:Nat),h'):=by
 unfold pcopy;rw [show plen (.sl o d len c1)=some len from rfl,hx]
 simp only [Option.bind_some];rw [if_neg hm];simp only [hf,Option.bind_some,hw,Option.map_some]
theorem zMJ {d m:Nat} (hd:d+m≤n) (hm:m≤d):(pis (fillR p n d)).take d++(pis (fillR p n d)).take m++(pis (fillR p n d)).drop (d+m)=pis (fillR p n (d+m)):=by
 unfold fillR pis;simp only [←List.map_take,←List.map_drop,←List.map_append]
 congr 1
 refine List.ext_getElem (by simp;omega) fun i h1 h2=>?_
 simp only [List.getElem_append,List.getElem_take,List.getElem_drop,List.getElem_replicate,List.length_append,List.length_take,List.length_replicate]
 repeat' split
 all_goals first | rfl | (exfalso;simp at *;omega) | omega
theorem zMY {w:Bool} {a:AV} {l:Nat} (hl:l=1) (hn:n≤6) (hk:∀v,FI v (List.replicate n p)→K v σ):zA Tryz.prog 190 [.fz w a l (pis [p]),.int .i64 n] σ K:=by
 subst hl;have c1:IntKind.u64.wrap ((1:Nat):Int)=1:=rfl;have hneg:¬(n:Int)<0:=by omega
 have hbig:¬(n:Int) > 9223372036854775807:=by omega
 refine zA.gh ?_;refine zD mix Tryz.func190 ?_
 conv=>arg 2;cbv
 refine zF rfl ?_;simp only [pwA,seval,-iQ0,hneg,c1,zGa hn];refine zPl hn ?_;have w64:IntKind.i64.wrap (n:Int)=n:=wrap64 (by omega) (by omega)
 simp only [pwA,seval,-iQ0,hbig,w64,mk8 (n:=n) (by omega),mkL (n:=n) (by omega)]
 have fin:∀{h:PHeap},h=σ.new (pis (List.replicate n p))→Gh σ K (.sl σ.next 0 n (.known n)) h:=fun {h} e=>by
  subst e;exact Gh.finF (cs:=pis (List.replicate n p)) (zC σ _) (by simp only [pwA,seval,-iQ0]) (Nat.le_refl _) (zN _ _) (by simp [capOK]) fun o=>hk _ ⟨true,.sl o 0 n (.known n),by simp⟩
 rcases Nat.eq_zero_or_pos n with rfl|hpos
 ·have hc:pcopy 1 (σ.new []) (PV.sl σ.next 0 0 (Cap.known 0)) (PV.fz w a 1 (pis [p]))=some (.int .i64 0,σ.new []):=rfl
  simp only [pwA,seval,-iQ0,hc];refine zG (fun m us h'=>m=0∧us=[.sl σ.next 0 0 (.known 0),.int .i64 0]∧h'=σ.new []) 0 ⟨rfl,rfl,rfl⟩ ?_
  rintro m us h' ⟨rfl,rfl,rfl⟩
  simp only [pwA,seval,-iQ0];exact fin rfl
 have hc:pcopy 1 (σ.new (List.replicate n (PV.int IntKind.i64 0))) (PV.sl σ.next 0 n (Cap.known n)) (PV.fz w a 1 (pis [p]))=some (.int .i64 1,σ.new (pis (fillR p n 1))):=by
  refine(zG0 (m:=1) (len:=n) rfl (by rw [Nat.min_eq_left hpos];decide) (cs:=pis [p]) (by rw [Nat.min_eq_left hpos];rfl) (h':=σ.new (pis (fillR p n 1))) ?_).trans (by rw [Nat.min_eq_left hpos];rfl)
  have ho:(σ.new (List.replicate n (PV.int IntKind.i64 0))).obj σ.next=some (List.replicate n (PV.int IntKind.i64 0)):=by simp only [pwA,seval,-iQ0]
  rw [zn ho,if_pos ⟨by rw [List.length_replicate];show 0+1≤n;omega,rfl⟩]
  congr 1
  simp only [PHeap.set,PHeap.new,PHeap.mk.injEq,true_and]
  funext t
  split
  ·simp [fillR,pis,hpos]
  ·rfl
 simp only [pwA,seval,-iQ0,hc];refine zG (fun m us h'=>∃d:Nat,m=n-d∧us=[.sl σ.next 0 n (.known n),.int .i64 d]∧1≤d∧d≤n∧h'=σ.new (pis (fillR p n d))) (n-1) ⟨1,rfl,rfl,by omega,hpos,rfl⟩ ?_
 rintro m us h' ⟨d,rfl,rfl,hd1,hdn,rfl⟩
 simp only [pwA,seval,-iQ0];refine iteI (fun hlt=>?_) fun hge=>?_
 rotate_left
 ·refine fin ?_
  rw [show d=n by omega];simp [fillR]
 have hlt':d<n:=by omega
 have ps1:ZQ 1 (.sl σ.next 0 n (.known n)) (some (.int .i64 d)) none none=some (.sl σ.next d (n-d) (.known (n-d))):=by
  have h1:(0:Int)≤(d:Int)∧(d:Int)≤(n:Int):=by omega
  have h2:¬n=d:=by omega
  have h3:d≤n:=by omega
  simp [ZQ,ze,ZW,h1,h2,h3]
 have ps2:ZQ 1 (.sl σ.next 0 n (.known n)) none (some (.int .i64 d)) none=some (.sl σ.next 0 d (.known n)):=by
  have h1:(0:Int)≤(d:Int)∧(d:Int)≤(n:Int):=by omega
  have h2:d≤n:=by omega
  have h3:¬n=0:=by omega
  simp [ZQ,ze,ZW,h1,h2,h3]
 have ho:(σ.new (pis (fillR p n d))).obj σ.next=some (pis (fillR p n d)):=by simp only [pwA,seval,-iQ0]
 have hcp:pcopy 1 (σ.new (pis (fillR p n d))) (.sl σ.next d (n-d) (.known (n-d))) (.sl σ.next 0 d (.known n))=some (.int .i64 (min d (n-d):Nat),σ.new (pis (fillR p n (d+min d (n-d))))):=by
  refine zG0 (m:=d) (len:=n-d) rfl (by rw [Nat.min_def];split<;>omega) (cs:=(pis (fillR p n d)).take (min d (n-d))) ?_ ?_
  ·rw [Qd,if_neg (by omega),if_pos (by omega),zi ho,if_pos (by rw [zK,zCt (by omega)];omega)];simp
  ·rw [zn ho,if_pos ⟨by rw [List.length_take,zK,zCt (by omega)];omega,by simp [List.all_eq_true,pis];intro x hx;obtain⟨y,_,rfl⟩:=List.mem_map.1 (List.mem_of_mem_take hx);rfl⟩]
   congr 1
   have e:=zMJ (p:=p) (n:=n) (d:=d) (m:=min d (n-d)) (by omega) (by omega)
   have hl:((pis (fillR p n d)).take (min d (n-d))).length=min d (n-d):=by rw [List.length_take,zK,zCt (by omega)];omega
   rw [hl,e];simp only [PHeap.set,PHeap.new,PHeap.mk.injEq,true_and]
   funext t
   split<;>rfl
 have ew:IntKind.i64.wrap ((d:Int)+((min d (n-d):Nat):Int))=((d+min d (n-d):Nat):Int):=by rw [wrap64 (by omega) (by omega)];omega
 have hdle:d≤n:=by omega
 have hnd:¬n=d:=by omega
 have hn0:¬n=0:=by omega
 simp only [pwA,seval,-iQ0,hdle,hnd,hn0,hcp,ew,Nat.sub_zero,Option.isNone_none,Option.isSome_none,Option.isNone_some,Option.isSome_some,Bool.false_eq_true,and_false,false_and,if_false];have hmin:1≤min d (n-d)∧min d (n-d)≤n-d:=by rw [Nat.min_def];split<;>omega
 exact⟨_,by omega,d+min d (n-d),rfl,rfl,by omega,by omega,rfl⟩
end Go.Proofs
namespace Go.Proofs
open Go.Ab Go.Lie
variable {σ:PHeap} {K:PV→PHeap→Prop} {p:Int} {n c m k:Nat} {W:List (List Int)} {B:List (List (List Int))} {vP vB vL:PV} {s:Nat} {x y u v:List Int} {vx vy:PV} {xs:List (List Int)}
theorem lmix0 {k:Int} {a b:List Int} (h:b.length=a.length):lmix k a 0 b=lmix k a 0 a:=by
 unfold lmix;refine List.ext_getElem (by simp [h]) fun i h1 h2=>?_
 simp
theorem zE3 (hx:El p n x) (hp:isP p) (i:Nat):0≤at_ x i∧at_ x i≤1000000:=by
 have:=hp.bd
 rcases Nat.lt_or_ge i x.length with h|h
 ·have:=hx.2 _ (List.getElem_mem h);rw [at_eq h];omega
 ·rw [at_ge h];omega
theorem pisA {i:Nat} (h:i<x.length):(pis x)[i]? = some (.int .i64 (at_ x i)):=by rw [zU,gi h,at_eq h];rfl
noncomputable def ptG (p:Int) (n:Nat) (W:List (List Int)) (B:List (List (List Int))) (e:List Int):Nat→List Int
 | 0=>List.replicate n 0
 | i+1=>bch p n W B (ptG p n W B e i) (lmul p W (at_ e i) (unitL n i))
theorem QP (o:OkW p n W) (q:OkB p n B) (e:List Int):∀{i:Nat},i≤n→El p n (ptG p n W B e i)
 | 0,_=>ZV o.pr
 | i+1,hi=>Zq o q (QP o q e (by omega)) (zJ o (zT o.pr (by omega)) (zT o.pr (by omega)))
theorem zGN (z:Lz p n W B c) (hs:PtrR σ s p vP vB) (hR:IsR vP vB W B) (hx:El p n x) (hvx:FI vx x) (hk:ResI σ K (ptG p n W B x n)):zA Tryz.prog 108 [.ptr s 0,vx] σ K:=by
 have o:=z.r.o;have q:=z.r.q;have hn6:=o.le;have hxl:=hx.1;obtain⟨wx,ax,rfl⟩:=hvx;refine zA.gh ?_;have hne:¬s=σ.next:=Nat.ne_of_lt hs.lt;refine zD mix Tryz.func108 ?_
 conv=>arg 2;cbv
 refine zF rfl ?_;simp only [pwA,seval,-iQ0,hxl,List.length_replicate,qH,mk8 (n:=n) (by omega),mkL (n:=n) (by omega)]
 refine zG (fun m vs h'=>∃i v,i≤n∧m=n-i∧vs=[.ptr s 0,.fz wx ax n (pis x),v,.fz wx ax n (pis x),.int .i64 n,.int .i64 (i:Nat)]∧Keep σ h'∧PAcc σ.next 1 h' v n (pis (ptG p n W B x i))) n ?_ ?_
 ·refine⟨0,_,by omega,by omega,rfl,zC σ _,.inr ?_⟩
  exact PSl.new σ.next 1 (h:=σ) (n:=n) (cs:=pis (List.replicate n 0)) (by rw [zK];simp) (Nat.le_refl _)
 ·rintro m vs h' ⟨i,v,hi,rfl,rfl,hkp,ha⟩
  simp only [pwA,seval,-iQ0];refine iteI (fun hlt=>?_) fun hge=>?_
  ·have hel:=QP (B:=B) o q x hi
   have hu:=zT (n:=n) o.pr hlt;have hb:=zE3 hx z.hp i;have hlx:i<x.length:=by omega
   have e:∀{v':PV} {H:PHeap},Keep σ H→PAcc σ.next 1 H v' n (pis (ptG p n W B x (i+1)))→∃n',n'<n-i∧∃i' v,i'≤n∧n'=n-i'∧[PV.ptr s 0,.fz wx ax n (pis x),v',.fz wx ax n (pis x),.int .i64 n,.int .i64 ((i+1:Nat):Int)]=[.ptr s 0,.fz wx ax n (pis x),v,.fz wx ax n (pis x),.int .i64 n,.int .i64 (i':Nat)]∧Keep σ H∧PAcc σ.next 1 H v n (pis (ptG p n W B x i')):=fun {v' H} k1 k2=>
    ⟨_,by omega,i+1,v',by omega,rfl,rfl,k1,k2⟩
   have ne:=zJ o (k:=at_ x i) (m:=0) hu hu;have bl:=(Zq o q hel ne).1;simp only [pwA,seval,-iQ0,hlt,pisA hlx];refine z8 (by omega) hlt fun a1=>?_
   simp only [pwA,seval,-iQ0,pisA hlx];refine zAB o (hs.keep hkp) hR.P hu ⟨true,a1,by rw [hu.1]⟩ (k:=at_ x i) (by omega) fun v1 f1=>?_
   simp only [pwA,seval,-iQ0];rcases ha with ⟨rfl,h0,h1⟩|⟨s',cap,rfl,hc,q2,q3,q4,q5⟩
   ·omega
   ·refine zA.frz (s:=s') (cs:=pis (ptG p n W B x i)) q2 (zN _ _) fun o1=>?_
    have hcok:=hc.ok;simp only [sbs,sb,hcok,and_self,if_true,f1.sb];have hk2:Keep σ (h'.kill s'):=hkp.kill q4;refine zE9 z (hs.keep hk2) hR hel ne ⟨true,_,by rw [hel.1]⟩ f1 ⟨fun h2=>?_,fun cap hc=>?_⟩
    ·exact absurd bl (by rw [show bch p n W B (ptG p n W B x i) (norm p W (lmix (at_ x i) (unitL n i) 0 (unitL n i)))=[] from h2];simp;omega)
    ·simp only [pwA,seval,-iQ0,wrapS hlt (by omega:n≤4611686018427387904)]
     refine e (hk2.new _) (.inr ⟨_,cap,by rw [show(bch p n W B (ptG p n W B x i) (lmul p W (at_ x i) (unitL n i))).length=n from bl];rfl,by rw [←bl];exact hc,by simp only [pwA,seval,-iQ0];rfl,by rw [zK,Nat.mul_one];exact bl,hk2.next,by simp [PHeap.new]⟩)
  ·have hie:i=n:=by omega
   subst hie;exact ha.res hkp (QP (B:=B) o q x (Nat.le_refl _)).1.symm hk
theorem zIi (z:Lz p n W B c) (hR:IsR vP vB W B) (hx:El p n x) (hvx:FI vx x) (hk:∀v,FI v (ptG p n W B x n)→K v σ):zA Tryz.prog 104 [.agg [.int .i64 p,vP,vB],vx] σ K:=by
 have o:=z.r.o;have q:=z.r.q;have hn6:=o.le;have hWl:=o.len;have hxl:=hx.1;have h1:=hR.P.one;have h2:=hR.B.one;obtain⟨wx,ax,rfl⟩:=hvx;refine zA.gh ?_;refine zD mix Tryz.func104 ?_
 conv=>arg 2;cbv
 refine zF rfl ?_;simp only [pwA,seval,-iQ0,h1,h2,hxl];refine zAZ hR hWl (by omega) fun v0=>?_
 simp only [pwA,seval,-iQ0];refine zG (fun m vs h'=>∃i v,i≤n∧m=n-i∧vs=[.fz wx ax n (pis x),.ptr σ.next 0,v,.int .i64 (i:Nat)]∧h'=σ.new [.int .i64 p,vP,vB]∧FI v (ptG p n W B x i)) n ?_ ?_
 ·exact⟨0,_,by omega,by omega,rfl,rfl,⟨true,v0,by rw [show ptG p n W B x 0=List.replicate n 0 from rfl,List.length_replicate];rfl⟩⟩
 ·rintro m vs h' ⟨i,v,hi,rfl,rfl,rfl,hv⟩
  simp only [pwA,seval,-iQ0];refine iteI (fun hlt=>?_) fun hge=>?_
  ·have hel:=QP (B:=B) o q x hi
   have hu:=zT (n:=n) o.pr hlt;have hb:=zE3 hx z.hp i;have hlx:i<x.length:=by omega
   have ne:=zJ o (k:=at_ x i) (m:=0) hu hu;simp only [pwA,seval,-iQ0,hlt,pisA hlx];refine qo hR hWl (by omega) hlt fun a1=>?_
   simp only [pwA,seval,-iQ0,pisA hlx];obtain⟨w0,a0,rfl⟩:=hv;refine qG hR o hu hel hu.1.symm rfl (k:=at_ x i) (m:=0) (by omega) (by decide) fun v1=>?_
   rw [lmix0 (hel.1.trans hu.1.symm)];simp only [pwA,seval,-iQ0];refine zCp z hR hel ne ⟨_,_,rfl⟩ ⟨true,v1,by rw [ne.1]⟩ fun v' hv'=>?_
   simp only [pwA,seval,-iQ0,wrapS hlt (by omega:n≤4611686018427387904)]
   exact⟨_,by omega,i+1,v',by omega,rfl,rfl,hv'⟩
  ·have hie:i=n:=by omega
   subst hie;exact Gh.fin0 (zC σ _) (hv.bel _) (hk v hv)
noncomputable def stG (p:Int) (n:Nat) (W:List (List Int)) (B:List (List (List Int))) (x:List Int):Nat→List Int×List Int
 | 0=>(List.replicate n 0,x)
 | i+1=>((stG p n W B x i).1.set i (at_ (stG p n W B x i).2 i),bch p n W B (lmul p W (-at_ (stG p n W B x i).2 i) (unitL n i)) (stG p n W B x i).2)
theorem ZM:∀i,(stG p n W B x i).1.length=n
 | 0=>List.length_replicate ..
 | i+1=>by rw [stG,List.length_set];exact ZM i
theorem zAI (o:OkW p n W) (q:OkB p n B) (hx:El p n x):∀{i:Nat},i≤n→El p n (stG p n W B x i).2
 | 0,_=>hx
 | i+1,hi=>Zq o q (zJ o (zT o.pr (by omega)) (zT o.pr (by omega))) (zAI o q hx (by omega))
noncomputable def vcG (p:Int) (n:Nat) (W:List (List Int)) (B:List (List (List Int))) (x:List Int):List Int:=(stG p n W B x n).1
theorem QV (z:Lz p n W B c) (hs:PtrR σ s p vP vB) (hR:IsR vP vB W B) (hx:El p n x) (hvx:FI vx x) (hk:∀cap,full 1 cap n→K (.sl σ.next 0 n cap) (σ.new (pis (vcG p n W B x)))):zA Tryz.prog 95 [.ptr s 0,vx] σ K:=by
 have o:=z.r.o;have q:=z.r.q;have hn6:=o.le;have hxl:=hx.1;obtain⟨wx,ax,rfl⟩:=hvx;refine zA.gh ?_;have hne:¬s=σ.next:=Nat.ne_of_lt hs.lt;refine zD mix Tryz.func95 ?_
 conv=>arg 2;cbv
 refine zF rfl ?_;simp only [pwA,seval,-iQ0,hxl,List.length_replicate,qH,mk8 (n:=n) (by omega),mkL (n:=n) (by omega)]
 refine zG (fun m vs h'=>∃i v,i≤n∧m=n-i∧vs=[.ptr s 0,v,.int .i64 n,.sl σ.next 0 n (.known n),.int .i64 n,.int .i64 (i:Nat)]∧h'=σ.new (pis (stG p n W B x i).1)∧FI v (stG p n W B x i).2) n ?_ ?_
 ·exact⟨0,.fz wx ax n (pis x),by omega,by omega,rfl,rfl,⟨_,_,by rw [show(stG p n W B x 0).2=x from rfl,hxl]⟩⟩
 ·rintro m vs h' ⟨i,v,hi,rfl,rfl,rfl,hv⟩
  simp only [pwA,seval,-iQ0];refine iteI (fun hlt=>?_) fun hge=>?_
  ·have hel:=zAI (B:=B) o q hx hi
   have hu:=zT (n:=n) o.pr hlt;have hb:=zE3 hel z.hp i;have hol:=ZM (p:=p) (n:=n) (W:=W) (B:=B) (x:=x) i;have hlx:i<(stG p n W B x i).2.length:=by rw [hel.1];exact hlt
   have hlo:i<(stG p n W B x i).1.length:=by omega
   obtain⟨w0,a0,rfl⟩:=hv;have hset:(pis (stG p n W B x i).1).take i++[.int .i64 (at_ (stG p n W B x i).2 i)]++(pis (stG p n W B x i).1).drop (i+1)=pis (stG p n W B x (i+1)).1:=zY hlo;have hat:at_ (stG p n W B x (i+1)).1 i=at_ (stG p n W B x i).2 i:=by rw [stG,at_eq (by rw [List.length_set];exact hlo)];simp
   have hl2:i<(stG p n W B x (i+1)).1.length:=by rw [ZM];exact hlt
   have ne:=zJ o (k:=-at_ (stG p n W B x i).2 i) (m:=0) hu hu;have hneg:IntKind.i64.wrap (0-at_ (stG p n W B x i).2 i)=-at_ (stG p n W B x i).2 i:=by rw [wrap64 (by omega) (by omega)];omega
   have hs2:PtrR (σ.new (pis (stG p n W B x (i+1)).1)) s p vP vB:=hs.new _;simp only [pwA,seval,-iQ0,hlt,pisA hlx,hlx,hlo,Nat.succ_le_of_lt hlo,zK,hset,pisA hl2,hat,hneg];refine z8 (by omega) hlt fun a1=>?_
   simp only [pwA,seval,-iQ0,pisA hl2,hat];refine zAB o hs2 hR.P hu ⟨true,a1,by rw [hu.1]⟩ (k:=-at_ (stG p n W B x i).2 i) (by omega) fun v1 f1=>?_
   simp only [pwA,seval,-iQ0];refine zA.fzI (fun K'=>zE9 z hs2 hR ne hel f1 ⟨_,_,rfl⟩) fun a2=>?_
   simp only [pwA,seval,-iQ0,wrapS hlt (by omega:n≤4611686018427387904)]
   exact⟨_,by omega,i+1,_,by omega,rfl,rfl,rfl,⟨_,_,rfl⟩⟩
  ·have hie:i=n:=by omega
   subst hie;exact Gh.finS (zC σ _) (by simp only [pwA,seval,-iQ0];rfl) (Nat.le_refl _) (zN _ _) (hk _ (.inr rfl))
theorem zA0 (z:Lz p n W B c) (hR:IsR vP vB W B) (hx:El p n x) (hvx:FI vx x) (hk:∀v,FI v (vcG p n W B x)→K v σ):zA Tryz.prog 86 [.agg [.int .i64 p,vP,vB],vx] σ K:=by
 have o:=z.r.o;have q:=z.r.q;have hn6:=o.le;have hWl:=o.len;have hxl:=hx.1;have h1:=hR.P.one;have h2:=hR.B.one;obtain⟨wx,ax,rfl⟩:=hvx;refine zA.gh ?_;refine zD mix Tryz.func86 ?_
 conv=>arg 2;cbv
 refine zF rfl ?_;simp only [pwA,seval,-iQ0,h1,h2,hxl];refine zBX hR hWl (by omega) fun cap hc=>?_
 simp only [pwA,seval,-iQ0];refine zG (fun m vs h'=>∃i v,i≤n∧m=n-i∧vs=[.fz wx ax n (pis x),.ptr σ.next 0,.sl (σ.next+1) 0 n cap,v,.int .i64 (i:Nat)]∧h'=(σ.new [.int .i64 p,vP,vB]).new (pis (stG p n W B x i).1)∧FI v (stG p n W B x i).2) n ?_ ?_
 ·exact⟨0,.fz wx ax n (pis x),by omega,by omega,rfl,rfl,⟨_,_,by rw [show(stG p n W B x 0).2=x from rfl,hxl]⟩⟩
 ·rintro m vs h' ⟨i,v,hi,rfl,rfl,rfl,hv⟩
  simp only [pwA,seval,-iQ0];refine iteI (fun hlt=>?_) fun hge=>?_
  ·have hel:=zAI (B:=B) o q hx hi
   have hu:=zT (n:=n) o.pr hlt;have hb:=zE3 hel z.hp i;have hol:=ZM (p:=p) (n:=n) (W:=W) (B:=B) (x:=x) i;have hlx:i<(stG p n W B x i).2.length:=by rw [hel.1];exact hlt
   have hlo:i<(stG p n W B x i).1.length:=by omega
   obtain⟨w0,a0,rfl⟩:=hv;have hset:(pis (stG p n W B x i).1).take i++[.int .i64 (at_ (stG p n W B x i).2 i)]++(pis (stG p n W B x i).1).drop (i+1)=pis (stG p n W B x (i+1)).1:=zY hlo;have hat:at_ (stG p n W B x (i+1)).1 i=at_ (stG p n W B x i).2 i:=by rw [stG,at_eq (by rw [List.length_set];exact hlo)];simp
   have hl2:i<(stG p n W B x (i+1)).1.length:=by rw [ZM];exact hlt
   have ne:=zJ o (k:=-at_ (stG p n W B x i).2 i) (m:=0) hu hu;have hneg:IntKind.i64.wrap (0-at_ (stG p n W B x i).2 i)=-at_ (stG p n W B x i).2 i:=by rw [wrap64 (by omega) (by omega)];omega
   simp only [pwA,seval,-iQ0,hlt,pisA hlx,hlx,hlo,Nat.succ_le_of_lt hlo,zK,hset,pisA hl2,hat,hneg];refine qo hR hWl (by omega) hlt fun a1=>?_
   simp only [pwA,seval,-iQ0,pisA hl2,hat];refine qG hR o hu hel hu.1.symm rfl (k:=-at_ (stG p n W B x i).2 i) (m:=0) (by omega) (by decide) fun v1=>?_
   rw [lmix0 (hel.1.trans hu.1.symm)];simp only [pwA,seval,-iQ0];refine zCp z hR ne hel ⟨true,v1,by rw [ne.1]⟩ ⟨_,_,rfl⟩ fun v' hv'=>?_
   simp only [pwA,seval,-iQ0,wrapS hlt (by omega:n≤4611686018427387904)]
   exact⟨_,by omega,i+1,v',by omega,rfl,rfl,rfl,hv'⟩
  ·have hie:i=n:=by omega
   subst hie;exact Gh.finF (s:=σ.next+1) ((zC σ _).new _) (by simp only [pwA,seval,-iQ0];rfl) (by omega) (zN _ _) hc.ok fun o1=>hk _ ⟨true,.sl o1 0 i cap,by rw [show(vcG p i W B x).length=i from ZM i];rfl⟩
end Go.Proofs
namespace Go.Proofs
open Go.Ab Go.Lie
variable {σ:PHeap} {K:PV→PHeap→Prop} {p:Int} {n c m k:Nat} {W:List (List Int)} {B:List (List (List Int))} {vP vB vL:PV} {s:Nat} {x y u v:List Int} {vx vy:PV} {xs:List (List Int)}
theorem zA.fzLT {f:FuncId} {args:List PV} {xs:List Int} {n:Nat} (hl:xs.length=n) (c:∀K':PV→PHeap→Prop,(∀cap,full 1 cap n→K' (.sl σ.next 0 n cap) (σ.new (pis xs)))→zA Tryz.prog f args σ K') (k:∀v t,FI v xs→Own σ.top t v→σ.top≤t→K v (σ.up t)):zA Tryz.prog f args σ K:=
 zA.fzIT (fun K' h=>c K' (by rw [←hl];exact h.2)) k
theorem zH1 (hR:IsR vP vB W B) (szr:SzR W B) (hx:FI vx x) (szx:x.length≤1048576)
  (hk:∀v z c t,CodR p W B [x] [] (vcG p W.length W B x) z c→FI v z→Own σ.top t v→σ.top≤t→K (.tup [v,.int .i64 c]) (σ.up t)):zA Tryz.prog 31 [.agg [.int .i64 p,vP,vB],vx] σ K:=by
 have h1:=hR.P.one;have h2:=hR.B.one;refine zA.gh ?_;refine zD mix Tryz.func31 ?_
 conv=>arg 2;cbv
 refine zF rfl ?_;simp only [pwA,seval,-iQ0,h1,h2,hx.one,hx.cells];have hkp:Keep σ (((σ.new [.int .i64 p,vP,vB]).new [vx]).kill (σ.next+1)):=((zC σ _).new _).kill (by omega)
 have hs:PtrR (((σ.new [.int .i64 p,vP,vB]).new [vx]).kill (σ.next+1)) σ.next p vP vB:=⟨by simp only [pwA,seval,-iQ0],by simp only [pwA,seval,-iQ0];omega⟩
 refine zA.frz (s:=σ.next+1) (cs:=[vx]) (by simp only [pwA,seval,-iQ0]) ⟨hx.bel 0,trivial⟩ fun o=>?_
 simp only [sbs,sb,capOK,and_self,if_true,decide_true,Nat.le_refl,hx.sb];refine zCN (xs:=[x]) hs hR szr (zJL hx) (SzL.one szx) fun c hc=>?_
 by_cases hc0:c=0
 rotate_left
 ·simp only [pwA,seval,-iQ0,hc0]
  exact Gh.fin0T (t:=σ.top) hkp hkp.top ⟨trivial,trivial,trivial⟩ fun _=>hk _ [] _ σ.top (.inl ⟨c,hc,hc0,rfl,rfl⟩) ⟨_,_,rfl⟩ (Own.empty _ _ _ _ _) (Nat.le_refl _)
 subst hc0;obtain⟨⟨hl,he⟩,hz⟩:=hc.zero;obtain⟨cc,lz⟩:=Lz.of hl hz;have hx':=he x (by simp)
 simp only [pwA,seval,-iQ0];refine zA.fzLT (ZM _) (fun K'=>QV lz hs hR hx' hx) fun v t hv ho ht=>?_
 simp only [pwA,seval,-iQ0];exact Gh.fin0T (t:=t) (hkp.up ht) (Nat.le_refl _) ⟨hv.bel _,trivial,trivial⟩ fun _=>hk _ _ _ t (.inr ⟨hc,rfl,rfl⟩) hv ho ht
theorem zGM (hR:IsR vP vB W B) (szr:SzR W B) (hx:FI vx x) (szx:x.length≤1048576)
  (hk:∀v z c,CodR p W B [x] [] (vcG p W.length W B x) z c→FI v z→K (.tup [v,.int .i64 c]) σ):zA Tryz.prog 32 [.agg [.int .i64 p,vP,vB],vx] σ K:=by
 have h1:=hR.P.one;have h2:=hR.B.one;refine zA.gh ?_;refine zD mix Tryz.func32 ?_
 conv=>arg 2;cbv
 refine zF rfl ?_;simp only [pwA,seval,-iQ0,h1,h2,hx.one,hx.cells];have hkp:Keep σ (((σ.new [.int .i64 p,vP,vB]).new [vx]).kill (σ.next+1)):=((zC σ _).new _).kill (by omega)
 refine zA.frz (s:=σ.next+1) (cs:=[vx]) (by simp only [pwA,seval,-iQ0]) ⟨hx.bel 0,trivial⟩ fun o=>?_
 simp only [sbs,sb,capOK,and_self,if_true,decide_true,Nat.le_refl,hR.P.sb,hR.B.sb,hx.sb];refine zB8 (xs:=[x]) hR szr (zJL hx) (SzL.one szx) fun c hc=>?_
 by_cases hc0:c=0
 rotate_left
 ·simp only [pwA,seval,-iQ0,hc0]
  exact Gh.fin0 hkp ⟨trivial,trivial,trivial⟩ (hk _ [] _ (.inl ⟨c,hc,hc0,rfl,rfl⟩) ⟨_,_,rfl⟩)
 subst hc0;obtain⟨⟨hl,he⟩,hz⟩:=hc.zero;obtain⟨cc,lz⟩:=Lz.of hl hz;have hx':=he x (by simp)
 simp only [pwA,seval,-iQ0];refine zA0 lz hR hx' hx fun v hv=>?_
 simp only [pwA,seval,-iQ0];exact Gh.fin0 hkp ⟨hv.bel _,trivial,trivial⟩ (hk _ _ _ (.inr ⟨hc,rfl,rfl⟩) hv)
end Go.Proofs
namespace Go.Proofs
open Go.Ab Go.Lie
variable {σ:PHeap} {K:PV→PHeap→Prop} {n:Nat} {p:Int}
structure LS where
 s:Nat
 cap:Cap
 cs:List PV
def LS.pv (q:LS):PV:=.sl q.s 0 q.cs.length q.cap
def LS.ok (h:PHeap) (b:Nat) (q:LS):Prop:=full 1 q.cap q.cs.length∧h.obj q.s=some q.cs∧b≤q.s∧q.s<h.next
def LS.pvo:Option LS→PV
 | none=>.fz true .nils 0 []
 | some q=>q.pv
def LS.slots:List (Option LS)→List Nat
 | []=>[]
 | none::ls=>LS.slots ls
 | some q::ls=>q.s::LS.slots ls
theorem LS.slots_app:∀(a b:List (Option LS)),LS.slots (a++b)=LS.slots a++LS.slots b
 | [],b=>rfl
 | none::a,b=>by simp only [List.cons_append,LS.slots,LS.slots_app a b]
 | some q::a,b=>by simp only [List.cons_append,LS.slots,LS.slots_app a b]
theorem LS.mem_slots {s:Nat}:∀{ls:List (Option LS)},s∈LS.slots ls↔∃q,some q∈ls∧q.s=s
 | []=>by simp [LS.slots]
 | none::ls=>by simp [LS.slots,LS.mem_slots (ls:=ls)]
 | some q::ls=>by
  simp only [LS.slots,List.mem_cons,LS.mem_slots (ls:=ls)];constructor
  ·rintro (rfl | ⟨q',h1,h2⟩)
   ·exact⟨q,.inl rfl,rfl⟩
   ·exact⟨q',.inr h1,h2⟩
  ·rintro ⟨q',h1 | h1,h2⟩
   ·cases h1;exact .inl h2.symm
   ·exact .inr ⟨q',h1,h2⟩
theorem LS.ok.move {h h2:PHeap} {b:Nat} {q:LS} (a:q.ok h b) (ho:h2.obj q.s=h.obj q.s) (hn:h.next≤h2.next):q.ok h2 b:=⟨a.1,by rw [ho];exact a.2.1,a.2.2.1,Nat.lt_of_lt_of_le a.2.2.2 hn⟩
theorem zBE {b e m:Nat} {h h2:PHeap} {v:PV} {cs:List PV} (a:PAcc b e h v m cs) (ho:∀s off l c,v=.sl s off l c→h2.obj s=h.obj s) (hn:h.next≤h2.next):PAcc b e h2 v m cs:=by
 rcases a with a|⟨s,cap,rfl,h1,h2',h3,h4,h5⟩
 ·exact .inl a
 ·exact .inr ⟨s,cap,rfl,h1,by rw [ho s 0 _ cap rfl];exact h2',h3,h4,Nat.lt_of_lt_of_le h5 hn⟩
theorem Q0 {b e m:Nat} {h:PHeap} {v:PV} {cs:List PV} (a:PAcc b e h v m cs) {s off l:Nat} {c:Cap} (hv:v=.sl s off l c):s<h.next:=by
 rcases a with ⟨rfl,_⟩|⟨s',cap,rfl,h1,h2',h3,h4,h5⟩
 ·cases hv
 ·cases hv;exact h5
structure TI (σ h:PHeap) (p0 sO:Nat) (vO vP vC:PV) (cO pc:List PV) (ls:List (Option LS)):Prop where
 keep:Keep σ h
 obj:h.obj p0=some [vO,vP,vC]
 p0b:σ.next≤p0∧p0<h.next
 oO:h.obj sO=some cO
 sOb:σ.next≤sO∧sO<h.next
 pO:p0≠sO
 accP:PAcc σ.next 1 h vP pc.length pc
 accC:PAcc σ.next 1 h vC ls.length (ls.map LS.pvo)
 ok:∀q,some q∈ls→q.ok h σ.next
 nd:(LS.slots ls).Nodup
 neP:∀s,s∈LS.slots ls∨s=p0∨s=sO→∀off l c,vP≠.sl s off l c
 neC:∀s,s∈LS.slots ls∨s=p0∨s=sO→∀off l c,vC≠.sl s off l c
 neL:p0∉LS.slots ls∧sO∉LS.slots ls
 nePC:∀s off l c,vP=.sl s off l c→∀off l c,vC≠.sl s off l c
variable {h:PHeap} {p0 sO:Nat} {vO vP vC:PV} {cO pc:List PV} {ls:List (Option LS)}
theorem TI.lt (a:TI σ h p0 sO vO vP vC cO pc ls) {s:Nat} (hs:s∈LS.slots ls):σ.next≤s∧s<h.next:=by
 obtain⟨q,hq,rfl⟩:=LS.mem_slots.1 hs
 have:=a.ok q hq
 exact⟨this.2.2.1,this.2.2.2⟩
theorem TI.keepI {h2:PHeap} (a:TI σ h p0 sO vO vP vC cO pc ls) (k:Keep h h2):TI σ h2 p0 sO vO vP vC cO pc ls:=
  ⟨a.keep.trans k,by rw [k.obj _ a.p0b.2];exact a.obj,⟨a.p0b.1,Nat.lt_of_lt_of_le a.p0b.2 k.next⟩,by rw [k.obj _ a.sOb.2];exact a.oO,⟨a.sOb.1,Nat.lt_of_lt_of_le a.sOb.2 k.next⟩,a.pO,a.accP.keep k,a.accC.keep k,
   fun q hq=>(a.ok q hq).move (k.obj _ (a.ok q hq).2.2.2) k.next,a.nd,a.neP,a.neC,a.neL,a.nePC⟩
theorem TI.pushP {K:PV×PHeap→Prop} {row:PV} (a:TI σ h p0 sO vO vP vC cO pc ls) (hone:vO.one=true∧vC.one=true) (hb:pc.length≤1000)
  (k:∀v' h2,v'.one=true→v'.cells=[v']→h2.wr p0 1 [v']=some (h2.set p0 [vO,v',vC])→TI σ (h2.set p0 [vO,v',vC]) p0 sO vO v' vC cO (pc++[row]) ls→h.next<h2.next→K (v',h2)):
  optK (qW 1 24 (h.new [row]) vP (.sl h.next 0 1 (.known 1))) K:=by
 refine PAcc.pushS (σb:=σ) (bytes:=24) a.keep a.accP rfl (by omega) (by omega) fun v' h2 k2 a2 o2 n2 l2=>?_
 have hp:=a.p0b;have hs:=a.sOb;have hob:h2.obj p0=some [vO,vP,vC]:=by rw [o2 _ hp.2 (a.neP _ (.inr (.inl rfl)))];exact a.obj
 refine k v' h2 a2.one a2.cells (by rw [zn hob,if_pos ⟨by simp,by simp [a2.one]⟩];rfl) ⟨k2.set hp.1 _,by rw [zH,if_pos rfl],⟨hp.1,by show p0<h2.next;omega⟩,?_,⟨hs.1,by show sO<h2.next;omega⟩,a.pO,?_,?_,fun q hq=>?_,a.nd,fun s hs=>?_,a.neC,a.neL,fun s off l c e=>?_⟩ l2
 ·rw [zH,if_neg (Ne.symm a.pO),o2 _ hs.2 (a.neP _ (.inr (.inr rfl)))];exact a.oO
 ·have a3:PAcc σ.next 1 (h2.set p0 [vO,v',vC]) v' (pc.length+1) (pc++[row]):=zBE a2.acc (fun s off l c e=>by rw [zH,if_neg fun e2=>n2 p0 hp.2 off l c (by rw [e,e2])]) (Nat.le_refl _)
  simpa using a3
 ·refine zBE a.accC (fun s off l c e=>?_) (Nat.le_of_lt l2)
  have hsp:s≠p0:=fun e2=>a.neC p0 (.inr (.inl rfl)) off l c (by rw [e,e2])
  rw [zH,if_neg hsp,o2 s (Q0 a.accC e) fun off' l' c' e'=>a.nePC s off' l' c' e' off l c e]
 ·have hq':=a.ok q hq
  have hm:q.s∈LS.slots ls:=LS.mem_slots.2 ⟨q,hq,rfl⟩;refine hq'.move ?_ (Nat.le_of_lt l2);rw [zH,if_neg fun e=>a.neL.1 (by rw [←e];exact hm),o2 _ hq'.2.2.2 (a.neP _ (.inl hm))]
 ·have:s<h.next:=by
   rcases hs with hs|rfl|rfl
   ·exact(a.lt hs).2
   ·exact hp.2
   ·omega
  exact n2 s this
 ·intro off' l' c' e'
  exact n2 s (Q0 a.accC e') off l c e
theorem TI.pushC {K:PV×PHeap→Prop} {o:Option LS} (a:TI σ h p0 sO vO vP vC cO pc ls) (hone:vO.one=true∧vP.one=true) (hb:ls.length≤1000)
  (ho:∀q,o=some q→q.ok h σ.next∧q.s∉LS.slots ls∧q.s≠p0∧q.s≠sO∧(∀off l c,vP≠.sl q.s off l c)∧∀off l c,vC≠.sl q.s off l c)
  (k:∀v' h2,v'.one=true→v'.cells=[v']→h2.wr p0 2 [v']=some (h2.set p0 [vO,vP,v'])→TI σ (h2.set p0 [vO,vP,v']) p0 sO vO vP v' cO pc (ls++[o])→h.next<h2.next→K (v',h2)):
  optK (qW 1 24 (h.new [LS.pvo o]) vC (.sl h.next 0 1 (.known 1))) K:=by
 refine PAcc.pushS (σb:=σ) (bytes:=24) a.keep a.accC rfl (by omega) (by omega) fun v' h2 k2 a2 o2 n2 l2=>?_
 have hp:=a.p0b;have hs:=a.sOb;have hob:h2.obj p0=some [vO,vP,vC]:=by rw [o2 _ hp.2 (a.neC _ (.inr (.inl rfl)))];exact a.obj
 have mo:∀s,s∈LS.slots (ls++[o])→s∈LS.slots ls∨∃q,o=some q∧q.s=s:=fun s hs=>by
  rw [LS.slots_app,List.mem_append]at hs
  refine hs.imp id fun hs=>?_
  obtain⟨q,hq,e⟩:=LS.mem_slots.1 hs;exact⟨q,(List.mem_singleton.1 hq).symm,e⟩
 refine k v' h2 a2.one a2.cells (by rw [zn hob,if_pos ⟨by simp,by simp [a2.one]⟩];rfl) ⟨k2.set hp.1 _,by rw [zH,if_pos rfl],⟨hp.1,by show p0<h2.next;omega⟩,?_,⟨hs.1,by show sO<h2.next;omega⟩,a.pO,?_,?_,fun q hq=>?_,?_,fun s hs=>?_,fun s hs=>?_,⟨fun hm=>?_,fun hm=>?_⟩,fun s off l c e=>?_⟩ l2
 ·rw [zH,if_neg (Ne.symm a.pO),o2 _ hs.2 (a.neC _ (.inr (.inr rfl)))];exact a.oO
 ·refine zBE a.accP (fun s off l c e=>?_) (Nat.le_of_lt l2)
  have hsp:s≠p0:=fun e2=>a.neP p0 (.inr (.inl rfl)) off l c (by rw [e,e2])
  rw [zH,if_neg hsp,o2 s (Q0 a.accP e) (a.nePC s off l c e)]
 ·have a3:PAcc σ.next 1 (h2.set p0 [vO,vP,v']) v' (ls.length+1) (ls.map LS.pvo++[LS.pvo o]):=zBE a2.acc (fun s off l c e=>by rw [zH,if_neg fun e2=>n2 p0 hp.2 off l c (by rw [e,e2])]) (Nat.le_refl _)
  simpa using a3
 ·rcases List.mem_append.1 hq with hq | hq
  ·have hq':=a.ok q hq
   have hm:q.s∈LS.slots ls:=LS.mem_slots.2 ⟨q,hq,rfl⟩;refine hq'.move ?_ (Nat.le_of_lt l2);rw [zH,if_neg fun e=>a.neL.1 (by rw [←e];exact hm),o2 _ hq'.2.2.2 (a.neC _ (.inl hm))]
  ·obtain⟨h1,h3,h4,h5,h6,h7⟩:=ho q (List.mem_singleton.1 hq).symm
   refine h1.move ?_ (Nat.le_of_lt l2);rw [zH,if_neg h4,o2 _ h1.2.2.2 h7]
 ·rw [LS.slots_app,List.nodup_append]
  refine⟨a.nd,?_,fun x hx y hy e=>?_⟩
  ·cases o<;>simp [LS.slots]
  ·cases o with
   | none=>cases hy
   | some q=>
    simp only [LS.slots,List.mem_singleton]at hy
    exact(ho q rfl).2.1 (by rw [←hy,←e];exact hx)
 ·rcases hs with hs | hs
  ·rcases mo s hs with hs | ⟨q,e,rfl⟩
   ·exact a.neP s (.inl hs)
   ·exact(ho q e).2.2.2.2.1
  ·exact a.neP s (.inr hs)
 ·have:s<h.next:=by
   rcases hs with hs|rfl|rfl
   ·rcases mo s hs with hs | ⟨q,e,rfl⟩
    ·exact(a.lt hs).2
    ·exact(ho q e).1.2.2.2
   ·exact hp.2
   ·omega
  exact n2 s this
 ·rcases mo _ hm with hm | ⟨q,e,e2⟩
  ·exact a.neL.1 hm
  ·exact(ho q e).2.2.1 e2
 ·rcases mo _ hm with hm | ⟨q,e,e2⟩
  ·exact a.neL.2 hm
  ·exact(ho q e).2.2.2.1 e2
 ·exact n2 s (Q0 a.accP e)
end Go.Proofs
namespace Go.Proofs
open Go.Ab Go.Lie
variable {σ h:PHeap} {K:PV→PHeap→Prop} {n:Nat} {p:Int} {p0 sO:Nat} {vO vP vC:PV} {cO pc:List PV} {ls:List (Option LS)} {O:List Int}
theorem TI.res {X Y:List PV} (a:TI (σ.new X) h p0 sO vO vP vC cO pc ls):TI σ (h.set σ.next Y) p0 sO vO vP vC cO pc ls:=by
 have hn:(σ.new X).next=σ.next+1:=rfl;have hp:=a.p0b;have hs:=a.sOb;refine⟨((zC σ X).trans a.keep).set (Nat.le_refl _) _,by rw [zH,if_neg (by omega)];exact a.obj,⟨by omega,hp.2⟩,by rw [zH,if_neg (by omega)];exact a.oO,⟨by omega,hs.2⟩,a.pO,?_,?_,fun q hq=>?_,a.nd,a.neP,a.neC,a.neL,a.nePC⟩
 ·rcases a.accP with g | ⟨s,cap,e,h1,h2,h3,h4,h5⟩
  ·exact .inl g
  ·exact .inr ⟨s,cap,e,h1,by rw [zH,if_neg (by omega)];exact h2,h3,by omega,h5⟩
 ·rcases a.accC with g | ⟨s,cap,e,h1,h2,h3,h4,h5⟩
  ·exact .inl g
  ·exact .inr ⟨s,cap,e,h1,by rw [zH,if_neg (by omega)];exact h2,h3,by omega,h5⟩
 ·obtain⟨h1,h2,h3,h4⟩:=a.ok q hq
  exact⟨h1,by rw [zH,if_neg (by omega)];exact h2,by omega,h4⟩
def zC9 (n:Nat) (ls:List (Option LS)):Prop:=∀j (h:j<ls.length),(j+1=n→ls[j]=none)∧(j+1<n→∃q,ls[j]=some q∧q.cs.length=n-1-j)
theorem zC9.snoc {o:Option LS} (h:zC9 n ls) (h1:ls.length+1=n→o=none) (h2:ls.length+1<n→∃q,o=some q∧q.cs.length=n-1-ls.length):zC9 n (ls++[o]):=by
 intro j hj;rw [List.length_append,List.length_singleton]at hj
 rcases Nat.lt_or_ge j ls.length with x|x
 ·rw [List.getElem_append_left x];exact h j x
 ·have e:j=ls.length:=by omega
  subst e;rw [List.getElem_append_right (Nat.le_refl _)];simp only [Nat.sub_self,List.getElem_cons_zero];exact⟨h1,h2⟩
theorem zCY (hv:FI vO []) (hk:∀h,Keep σ h→K (.agg [.fz true .nils 0 [],.fz true .nils 0 [],.fz true .nils 0 []]) h)
  (hk2:∀h cap,full 1 cap 0→Keep σ h→h.obj (σ.next+1)=some []→σ.next+1<h.next→K (.agg [.sl (σ.next+1) 0 0 cap,.fz true .nils 0 [],.fz true .nils 0 []]) h):zA Tryz.prog 189 [vO] σ K:=by
 obtain⟨w,a,rfl⟩:=hv;refine zD mix Tryz.func189 ?_
 conv=>arg 2;cbv
 refine zF rfl ?_;simp only [pwA,seval,-iQ0];refine Zf rfl (by simp) ⟨fun h0=>?_,fun cap hc=>?_⟩
 ·simp only [pwA,seval,-iQ0]
  refine zG (fun m us h'=>m=0∧us=[.ptr σ.next 0,.int .i64 (0:Nat),.ptr (σ.next+1) 0,.int .i64 (0:Nat),.int .i64 (0:Nat)]∧h'=(σ.new [.fz true .nils 0 [],.fz true .nils 0 [],.fz true .nils 0 []]).new [.fz true .nils 0 [],.fz true .nils 0 [],.fz true .nils 0 []]) 0 ⟨rfl,rfl,rfl⟩ ?_
  rintro m us h' ⟨rfl,rfl,rfl⟩
  simp only [pwA,seval,-iQ0];exact hk _ ((zC σ _).new _)
 ·simp only [pwA,seval,-iQ0]
  refine zG (fun m us h'=>m=0∧us=[.ptr σ.next 0,.int .i64 (0:Nat),.ptr (σ.next+2) 0,.int .i64 (0:Nat),.int .i64 (0:Nat)]∧h'=((σ.new [.fz true .nils 0 [],.fz true .nils 0 [],.fz true .nils 0 []]).new []).new [.sl (σ.next+1) 0 0 cap,.fz true .nils 0 [],.fz true .nils 0 []]) 0 ⟨rfl,rfl,rfl⟩ ?_
  rintro m us h' ⟨rfl,rfl,rfl⟩
  simp only [pwA,seval,-iQ0];refine hk2 _ cap hc (((zC σ _).new _).new _) ?_ ?_
  ·simp only [pwA,seval,-iQ0]
  ·simp only [pwA,seval,-iQ0];omega
theorem zCS (hv:FI vO O) (hn:O.length=n) (hn1:1≤n) (hn6:n≤6)
  (hk:∀cap vP vC pc ls h,full 1 cap n→TI σ h (σ.next+2) (σ.next+1) (.sl (σ.next+1) 0 n cap) vP vC (pis O) pc ls→pc.length=n→ls.length=n→zC9 n ls→K (.agg [.sl (σ.next+1) 0 n cap,vP,vC]) h):
  zA Tryz.prog 189 [vO] σ K:=by
 obtain⟨w,a,rfl⟩:=hv;subst hn;refine zD mix Tryz.func189 ?_
 conv=>arg 2;cbv
 refine zF rfl ?_;simp only [pwA,seval,-iQ0];refine Zf rfl (by omega) ⟨fun h0=>by rw [h0]at hn1;simp at hn1,fun cap hc=>?_⟩
 generalize hS:σ.new [.fz true .nils 0 [],.fz true .nils 0 [],.fz true .nils 0 []]=S;have hSn:S.next=σ.next+1:=by rw [←hS];rfl
 simp only [pwA,seval,-iQ0];refine zG (fun m us h'=>∃(i:Nat) (vP vC:PV) (pc:List PV) (ls:List (Option LS)),i≤O.length∧m=O.length-i∧us=[.ptr σ.next 0,.int .i64 O.length,.ptr (S.next+1) 0,.int .i64 O.length,.int .i64 i]∧TI S h' (S.next+1) S.next (.sl S.next 0 O.length cap) vP vC (pis O) pc ls∧pc.length=i∧ls.length=i∧zC9 O.length ls) O.length ?_ ?_
 ·exact⟨0,_,_,[],[],by omega,by omega,rfl,⟨(zC S _).new _,by simp only [pwA,seval,-iQ0],⟨by omega,by simp only [pwA,seval,-iQ0]⟩,by simp only [pwA,seval,-iQ0],⟨Nat.le_refl _,by simp only [pwA,seval,-iQ0];omega⟩,by omega,PAcc.nil _ _ _,PAcc.nil _ _ _,fun q hq=>(by cases hq),List.nodup_nil,fun s hs off l c e=>(by cases e),fun s hs off l c e=>(by cases e),⟨fun h=>(by cases h),fun h=>(by cases h)⟩,fun s off l c e=>(by cases e)⟩,rfl,rfl,fun j hj=>absurd hj (by simp)⟩
 as_aux_lemma=>
 rintro m us h' ⟨i,vP,vC,pc,ls,hi,rfl,rfl,a,hpl,hll,hsh⟩
 have hone:vP.one=true∧vC.one=true:=⟨a.accP.one,a.accC.one⟩;have q0:h'.rd1 (S.next+1) 1=some vP:=by rw [zI a.obj];rfl
 have q3:h'.rd (S.next+1) 0 3=some [.sl S.next 0 O.length cap,vP,vC]:=by rw [zi a.obj];rfl
 simp only [pwA,seval,-iQ0];refine iteI (fun hlt=>?_) fun hge=>?_
 rotate_left
 ·have hie:i=O.length:=by omega
  have hres:h'.obj σ.next=some [.fz true .nils 0 [],.fz true .nils 0 [],.fz true .nils 0 []]:=by rw [a.keep.obj _ (by omega),←hS];simp only [pwA,seval,-iQ0]
  have hwr:h'.wr σ.next 0 [.sl S.next 0 O.length cap,vP,vC]=some (h'.set σ.next [.sl S.next 0 O.length cap,vP,vC]):=by
   rw [zn hres,if_pos ⟨by simp,by simp only [List.all_cons,List.all_nil,hone.1,hone.2];rfl⟩];rfl
  have hrd:(h'.set σ.next [.sl S.next 0 O.length cap,vP,vC]).rd σ.next 0 3=some [.sl S.next 0 O.length cap,vP,vC]:=by rw [qx,if_pos rfl];rfl
  rw [←hS]at a
  have a2:=a.res (Y:=[.sl S.next 0 O.length cap,vP,vC]);rw [hS]at a2
  rw [hSn]at a2
  have:=hk cap vP vC pc ls _ hc a2 (by omega) (by omega) hsh
  simp only [pwA,seval,-iQ0,q3,hwr,hrd];rw [hSn];exact this
 have hlt':i<O.length:=by omega
 have mk:=mk8 (n:=O.length) (by omega)
 have hne1:¬S.next+1=h'.next:=by have:=a.p0b.2;omega
 have hne2:¬S.next=h'.next:=by have:=a.sOb.2;omega
 simp only [pwA,seval,-iQ0,q0,mk,mkL (n:=O.length) (by omega),List.length_replicate,hne1,hne2]
 refine TI.pushP (a.keepI (zC h' _)) ⟨rfl,hone.2⟩ (by omega) fun v2 h2 u1 u2 u3 a2 l2=>?_
 simp only [pwA,seval,-iQ0,u1,u2,u3];clear u1 u2 u3 q0 q3 hne1 hne2;generalize h2.set (S.next+1) [.sl S.next 0 O.length cap,v2,vC]=hb at *
 have wi1:IntKind.i64.wrap ((i:Int)+1)=((i+1:Nat):Int):=wrapS hlt' (by omega)
 simp only [pwA,seval,-iQ0,wi1];refine zG (fun m us h3=>∃(q:Nat) (vL:PV) (cells:List PV),i+(1+q)≤O.length∧m=O.length-(i+(1+q))∧us=[.ptr σ.next 0,.int .i64 O.length,.ptr (S.next+1) 0,vL,.int .i64 ((i+(1+q):Nat):Int),.int .i64 O.length,.int .i64 i]∧Keep hb h3∧PAcc hb.next 1 h3 vL q cells∧(q=0→vL=.fz true .nils 0 [])) (O.length-(i+1)) ⟨0,_,[],by omega,rfl,rfl,Keep.refl _,PAcc.nil _ _ _,fun _=>rfl⟩ ?_
 rintro m us h3 ⟨q,vL,cells,hq,rfl,rfl,k3,p3,hnil⟩
 have b:=a2.keepI k3;have q2:h3.rd1 (S.next+1) 2=some vC:=by rw [zI b.obj];rfl
 simp only [pwA,seval,-iQ0];refine iteI (fun hltq=>?_) fun hgeq=>?_
 ·have hq':i+(1+q)<O.length:=by omega
  have e5:IntKind.i64.wrap (((i+(1+q):Nat):Int)+1)=((i+(1+(q+1)):Nat):Int):=by rw [wrap64 (by omega) (by omega)];omega
  simp only [pwA,seval,-iQ0];refine z8 (by omega) hq' fun av=>?_
  simp only [pwA,seval,-iQ0];refine PAcc.push (bytes:=24) (σb:=hb) k3 p3 (by omega) (by omega) fun v' h4 k4 p4=>?_
  simp only [pwA,seval,-iQ0,e5];exact⟨_,by omega,q+1,v',_,by omega,rfl,rfl,k4,p4.acc,fun h=>by omega⟩
 have hqe:q=O.length-1-i:=by omega
 have hne:¬S.next+1=h3.next:=by have:=b.p0b.2;omega
 have hL1:=p3.one;have hL2:=p3.cells;have hbn:hb.next≤h3.next:=k3.next;obtain⟨o,ho,hov⟩:∃o:Option LS,LS.pvo o=vL∧((o=none∧q=0)∨∃s c,o=some ⟨s,c,cells⟩∧cells.length=q∧0<q∧full 1 c q∧h3.obj s=some cells∧hb.next≤s∧s<h3.next):=by
  rcases Nat.eq_zero_or_pos q with e|e
  ·exact⟨none,(hnil e).symm,.inl ⟨rfl,e⟩⟩
  ·obtain⟨s,c,rfl,z1,z2,z3,z4,z5⟩:=p3.pos e
   exact⟨some ⟨s,c,cells⟩,by simp only [LS.pvo,LS.pv];rw [show cells.length=q by omega],.inr ⟨s,c,rfl,by omega,e,z1,z2,z4,z5⟩⟩
 subst ho;simp only [pwA,seval,-iQ0,q2,hL1,hL2,hne];refine TI.pushC b ⟨rfl,b.accP.one⟩ (by omega) (fun q' e=>?_) fun v5 h5 u1 u2 u3 a5 l5=>?_
 ·rcases hov with ⟨e1,_⟩ | ⟨s,c,e1,z0,z1,z2,z3,z4,z5⟩
  ·rw [e1]at e;cases e
  ·rw [e1]at e
   cases e;have hb0:=a2.p0b;have hb1:=a2.sOb;refine⟨⟨by rw [z0];exact z2,z3,by have:=a2.keep.next;show S.next≤s;omega,z5⟩,fun hm=>?_,by show s≠_;omega,by show s≠_;omega,fun off l c' e2=>?_,fun off l c' e2=>?_⟩
   ·have:=(a2.lt hm).2
    have:s<hb.next:=this
    omega
   ·have:s<hb.next:=Q0 a2.accP e2
    omega
   ·have:s<hb.next:=Q0 a2.accC e2
    omega
 simp only [pwA,seval,-iQ0,u1,u2,u3,wrapS hlt' (by omega:O.length≤4611686018427387904)]
 refine⟨_,by omega,i+1,v2,v5,_,ls++[o],by omega,rfl,rfl,a5,by rw [List.length_append];simp;omega,by rw [List.length_append];simp;omega,hsh.snoc (fun e=>?_) fun e=>?_⟩
 ·rcases hov with ⟨e1,_⟩ | ⟨s,c,e1,z0,z1,z2,z3,z4,z5⟩
  ·exact e1
  ·omega
 ·rcases hov with ⟨e1,e2⟩ | ⟨s,c,e1,z0,z1,z2,z3,z4,z5⟩
  ·omega
  ·exact⟨_,e1,by rw [hll];show cells.length=_;omega⟩
end Go.Proofs
namespace Go.Proofs
open Go.Ab Go.Lie
variable {σ H h:PHeap} {K:PV→PHeap→Prop} {n:Nat} {p:Int} {tp sO sP sC:Nat} {vO:PV} {pc cO:List PV} {ls:List (Option LS)} {O x:List Int} {capO capP capC cap:Cap} {rows cur:List SR} {Rs:List (List SR)}
structure BF (σ H:PHeap) (tp sO sP sC:Nat) (ls:List (Option LS)):Prop where
 b:∀s,s∈[tp,sO,sP,sC]++LS.slots ls→σ.next≤s∧s<H.next
 nd:([tp,sO,sP,sC]++LS.slots ls).Nodup
def cont (Rs:List (List SR)) (cur:List SR) (j:Nat) (q:LS):List PV:=
 if j<Rs.length then(Rs.getD j []).map SR.pv else if j=Rs.length then cur.map SR.pv++q.cs.drop cur.length else q.cs
structure LI (σ H h:PHeap) (tp sO sP sC:Nat) (vO:PV) (capP capC:Cap) (n:Nat) (cO:List PV) (pc:List PV) (ls:List (Option LS)) (rows:List SR) (Rs:List (List SR)) (cur:List SR):Prop where
 keep:Keep σ h
 nx:H.next≤h.next
 tpo:h.obj tp=some [vO,.sl sP 0 n capP,.sl sC 0 n capC]
 oO:h.obj sO=some cO
 oP:h.obj sP=some (rows.map SR.pv++pc.drop rows.length)
 oC:h.obj sC=some (ls.map LS.pvo)
 oL:∀j q,ls[j]? = some (some q)→h.obj q.s=some (cont Rs cur j q)
 ok:∀q,q∈rows∨q∈Rs.flatten∨q∈cur→q.ok h H.next
 nd:(qX (rows++(Rs.flatten++cur))).Nodup
theorem LS.mem_of_get {j:Nat} {q:LS} (h:ls[j]? = some (some q)):q.s∈LS.slots ls:=LS.mem_slots.2 ⟨q,List.mem_of_getElem? h,rfl⟩
theorem LI.keepI {h2:PHeap} (b:BF σ H tp sO sP sC ls) (a:LI σ H h tp sO sP sC vO capP capC n cO pc ls rows Rs cur) (k:Keep h h2):LI σ H h2 tp sO sP sC vO capP capC n cO pc ls rows Rs cur:=by
 have hn:=a.nx;have o:∀s,s∈[tp,sO,sP,sC]++LS.slots ls→h2.obj s=h.obj s:=fun s hs=>k.obj s (by have:=(b.b s hs).2;omega)
 refine⟨a.keep.trans k,Nat.le_trans a.nx k.next,by rw [o tp (by simp)];exact a.tpo,by rw [o sO (by simp)];exact a.oO,by rw [o sP (by simp)];exact a.oP,by rw [o sC (by simp)];exact a.oC,fun j q hq=>?_,fun q hq=>(a.ok q hq).keep k,a.nd⟩
 rw [o q.s (List.mem_append.2 (.inr (LS.mem_of_get hq)))];exact a.oL j q hq
theorem LS.slots_inj:∀{ls:List (Option LS)} {i j:Nat} {q q':LS},(LS.slots ls).Nodup→ls[i]? = some (some q)→ls[j]? = some (some q')→q.s=q'.s→i=j
 | [],i,j,q,q',_,h,_,_=>by simp at h
 | o::ls,0,0,q,q',_,_,_,_=>rfl
 | none::ls,0,j+1,q,q',_,h,_,_=>by simp at h
 | none::ls,i+1,0,q,q',_,_,h,_=>by simp at h
 | some r::ls,0,j+1,q,q',hn,h,g,e=>by
  simp only [List.getElem?_cons_zero,Option.some.injEq,List.getElem?_cons_succ,LS.slots,List.nodup_cons]at h g hn
  subst h;exact absurd (LS.mem_of_get g) (by rw [←e];exact hn.1)
 | some r::ls,i+1,0,q,q',hn,h,g,e=>by
  simp only [List.getElem?_cons_zero,Option.some.injEq,List.getElem?_cons_succ,LS.slots,List.nodup_cons]at h g hn
  subst g;exact absurd (LS.mem_of_get h) (by rw [e];exact hn.1)
 | none::ls,i+1,j+1,q,q',hn,h,g,e=>by have:=LS.slots_inj (ls:=ls) hn (by simpa using h) (by simpa using g) e;omega
 | some r::ls,i+1,j+1,q,q',hn,h,g,e=>by
  simp only [LS.slots,List.nodup_cons]at hn
  have:=LS.slots_inj (ls:=ls) hn.2 (by simpa using h) (by simpa using g) e
  omega
theorem zHf {a b:List PV}:(a++b).drop (a.length+1)=b.drop 1:=by
 rw [←List.drop_drop,List.drop_left'];rfl
theorem zAp {q:SR} {s:Nat} {cs:List PV} (a:q.ok h H.next) (hs:s<H.next):q.ok (h.set s cs) H.next:=⟨a.1,by rw [zH,if_neg (by have:=a.2.2.1;omega)];exact a.2.1,a.2.2.1,a.2.2.2⟩
theorem zNO {q:SR} (hq:q∈rows++(Rs.flatten++cur)):q∈rows∨q∈Rs.flatten∨q∈cur:=by
 simpa only [List.mem_append]using hq
theorem LI.fresh (a:LI σ H h tp sO sP sC vO capP capC n cO pc ls rows Rs cur):h.next∉qX (rows++(Rs.flatten++cur)):=fun hm=>by
 obtain⟨q,hq,e⟩:=List.mem_map.1 hm
 have:=(a.ok q (zNO hq)).2.2.2
 omega
theorem LI.putP (b:BF σ H tp sO sP sC ls) (a:LI σ H h tp sO sP sC vO capP capC n cO pc ls rows Rs cur) (hf:full 1 cap x.length) (hl:rows.length<pc.length):
  (h.new (pis x)).wr sP rows.length [.sl h.next 0 x.length cap]=some ((h.new (pis x)).set sP ((rows++[(⟨h.next,cap,x⟩:SR)]).map SR.pv++pc.drop (rows.length+1)))∧
  LI σ H ((h.new (pis x)).set sP ((rows++[(⟨h.next,cap,x⟩:SR)]).map SR.pv++pc.drop (rows.length+1))) tp sO sP sC vO capP capC n cO pc ls (rows++[(⟨h.next,cap,x⟩:SR)]) Rs cur:=by
 have a1:=a.keepI b (zC h (pis x));have hnx:=a.nx;have bP:=b.b sP (by simp)
 have nd:=b.nd;simp only [List.cons_append,List.nil_append,List.nodup_cons,List.mem_cons,not_or]at nd
 obtain⟨⟨n1,n2,n3,n4⟩,⟨n5,n6,n7⟩,⟨n8,n9⟩,_⟩:=nd;have ob:=a1.oP;refine⟨?_,a1.keep.set bP.1 _,a1.nx,by rw [zH,if_neg n2];exact a1.tpo,by rw [zH,if_neg n5];exact a1.oO,by rw [zH,if_pos rfl,List.length_append,List.length_singleton],by rw [zH,if_neg (Ne.symm n8)];exact a1.oC,fun j q hq=>?_,fun q hq=>?_,?_⟩
 ·rw [zn ob,if_pos ⟨by simp only [List.length_append,List.length_map,List.length_drop,List.length_singleton];omega,rfl⟩]
  congr 2
  have e1:(rows.map SR.pv++pc.drop rows.length).take rows.length=rows.map SR.pv:=by
   have:(rows.map SR.pv).length=rows.length:=List.length_map _
   rw [←this,List.take_left'];rfl
  have e2:(rows.map SR.pv++pc.drop rows.length).drop (rows.length+1)=pc.drop (rows.length+1):=by
   have:=zHf (a:=rows.map SR.pv) (b:=pc.drop rows.length)
   rwa [List.length_map,List.drop_drop]at this
  rw [List.length_singleton,e1,e2,List.map_append];rfl
 ·have hm:=LS.mem_of_get hq
  rw [zH,if_neg fun e=>n9 (by rw [←e];exact hm)]
  exact a1.oL j q hq
 ·have new:SR.ok (h.new (pis x)) H.next (⟨h.next,cap,x⟩:SR):=⟨hf,by rw [zM,if_pos rfl],hnx,Nat.lt_succ_self _⟩
  rcases hq with hq|hq
  ·rcases List.mem_append.1 hq with hq | hq
   ·exact zAp (a1.ok q (.inl hq)) bP.2
   ·rw [List.mem_singleton.1 hq];exact zAp new bP.2
  ·exact zAp (a1.ok q (.inr hq)) bP.2
 ·have hp:(qX ((rows++[(⟨h.next,cap,x⟩:SR)])++(Rs.flatten++cur))).Perm (h.next::qX (rows++(Rs.flatten++cur))):=by
   simp only [qX,List.append_assoc,List.map_append,List.map_cons,List.map_nil,List.cons_append,List.nil_append];exact List.perm_middle
  exact hp.nodup_iff.2 (List.nodup_cons.2 ⟨a.fresh,a.nd⟩)
theorem LI.putC {q0:LS} (b:BF σ H tp sO sP sC ls) (a:LI σ H h tp sO sP sC vO capP capC n cO pc ls rows Rs cur) (hf:full 1 cap x.length) (hq0:ls[Rs.length]? = some (some q0)) (hl:cur.length<q0.cs.length):
  (h.new (pis x)).wr q0.s cur.length [.sl h.next 0 x.length cap]=some ((h.new (pis x)).set q0.s ((cur++[(⟨h.next,cap,x⟩:SR)]).map SR.pv++q0.cs.drop (cur.length+1)))∧
  LI σ H ((h.new (pis x)).set q0.s ((cur++[(⟨h.next,cap,x⟩:SR)]).map SR.pv++q0.cs.drop (cur.length+1))) tp sO sP sC vO capP capC n cO pc ls rows Rs (cur++[(⟨h.next,cap,x⟩:SR)]):=by
 have a1:=a.keepI b (zC h (pis x));have hnx:=a.nx;have hm0:=LS.mem_of_get hq0;have bP:=b.b q0.s (List.mem_append.2 (.inr hm0));have nd:=b.nd;simp only [List.cons_append,List.nil_append,List.nodup_cons,List.mem_cons,not_or]at nd
 obtain⟨⟨n1,n2,n3,n4⟩,⟨n5,n6,n7⟩,⟨n8,n9⟩,n10,n11⟩:=nd;have ob:=a1.oL _ _ hq0;have hc:cont Rs cur Rs.length q0=cur.map SR.pv++q0.cs.drop cur.length:=by unfold cont;rw [if_neg (Nat.lt_irrefl _),if_pos rfl]
 rw [hc]at ob
 refine⟨?_,a1.keep.set bP.1 _,a1.nx,by rw [zH,if_neg fun e=>n4 (by rw [e];exact hm0)];exact a1.tpo,by rw [zH,if_neg fun e=>n7 (by rw [e];exact hm0)];exact a1.oO,by rw [zH,if_neg fun e=>n9 (by rw [e];exact hm0)];exact a1.oP,by rw [zH,if_neg fun e=>n10 (by rw [e];exact hm0)];exact a1.oC,fun j q hq=>?_,fun q hq=>?_,?_⟩
 ·rw [zn ob,if_pos ⟨by simp only [List.length_append,List.length_map,List.length_drop,List.length_singleton];omega,rfl⟩]
  congr 2
  have e1:(cur.map SR.pv++q0.cs.drop cur.length).take cur.length=cur.map SR.pv:=by
   have:(cur.map SR.pv).length=cur.length:=List.length_map _
   rw [←this,List.take_left'];rfl
  have e2:(cur.map SR.pv++q0.cs.drop cur.length).drop (cur.length+1)=q0.cs.drop (cur.length+1):=by
   have:=zHf (a:=cur.map SR.pv) (b:=q0.cs.drop cur.length)
   rwa [List.length_map,List.drop_drop]at this
  rw [List.length_singleton,e1,e2,List.map_append];rfl
 ·by_cases e:j=Rs.length
  ·subst e
   rw [hq0]at hq
   cases hq;rw [zH,if_pos rfl];unfold cont;rw [if_neg (Nat.lt_irrefl _),if_pos rfl,List.length_append,List.length_singleton]
  ·have hne:q.s≠q0.s:=fun es=>by
    exact e (LS.slots_inj n11 hq hq0 es)
   rw [zH,if_neg hne,a1.oL j q hq];unfold cont;rw [if_neg (show ¬j=Rs.length from e),if_neg (show ¬j=Rs.length from e)]
 ·have new:SR.ok (h.new (pis x)) H.next (⟨h.next,cap,x⟩:SR):=⟨hf,by rw [zM,if_pos rfl],hnx,Nat.lt_succ_self _⟩
  rcases hq with hq|hq|hq
  ·exact zAp (a1.ok q (.inl hq)) bP.2
  ·exact zAp (a1.ok q (.inr (.inl hq))) bP.2
  ·rcases List.mem_append.1 hq with hq | hq
   ·exact zAp (a1.ok q (.inr (.inr hq))) bP.2
   ·rw [List.mem_singleton.1 hq];exact zAp new bP.2
 ·have hp:(qX (rows++(Rs.flatten++(cur++[(⟨h.next,cap,x⟩:SR)])))).Perm (h.next::qX (rows++(Rs.flatten++cur))):=by
   simp only [qX,List.map_append,List.map_cons,List.map_nil];rw [←List.append_assoc,←List.append_assoc,List.append_assoc (List.map SR.s rows)];exact List.perm_append_singleton _ _
  exact hp.nodup_iff.2 (List.nodup_cons.2 ⟨a.fresh,a.nd⟩)
theorem LI.close (a:LI σ H h tp sO sP sC vO capP capC n cO pc ls rows Rs cur) (hl:∀q,ls[Rs.length]? = some (some q)→cur.length=q.cs.length):LI σ H h tp sO sP sC vO capP capC n cO pc ls rows (Rs++[cur]) []:=by
 refine⟨a.keep,a.nx,a.tpo,a.oO,a.oP,a.oC,fun j q hq=>?_,fun q hq=>a.ok q ?_,?_⟩
 ·rw [a.oL j q hq]
  unfold cont;rw [List.length_append,List.length_singleton];rcases Nat.lt_trichotomy j Rs.length with x|x|x
  ·rw [if_pos x,if_pos (by omega)]
   simp [List.getD_eq_getElem?_getD,List.getElem?_append_left x]
  ·subst x
   rw [if_neg (Nat.lt_irrefl _),if_pos rfl,if_pos (by omega),List.drop_of_length_le (by rw [hl q hq];exact Nat.le_refl _)]
   simp [List.getD_eq_getElem?_getD]
  ·rw [if_neg (by omega),if_neg (by omega),if_neg (by omega)]
   split<;>simp
 ·rcases hq with hq | hq | hq
  ·exact .inl hq
  ·simp only [List.flatten_append,List.flatten_cons,List.flatten_nil,List.append_nil,List.mem_append]at hq
   exact .inr hq
  ·cases hq
 ·have:=a.nd
  simpa [List.flatten_append]using this
end Go.Proofs
namespace Go.Proofs
open Go.Ab Go.Lie
variable {σ H h:PHeap} {K:PV→PHeap→Prop} {n:Nat} {a:Nat→Nat} {b:Nat} {tp sO sP sC:Nat} {vO:PV} {pc:List PV} {ls:List (Option LS)} {O x:List Int} {capO capP capC cap:Cap} {rows cur:List SR} {Rs:List (List SR)}
def lrT:Option LS→List SR→TR
 | none,_=>.nil
 | some q,R=>TR.rows q.s q.cap R
def Fit1:Option LS→List SR→Prop
 | none,R=>R=[]
 | some q,R=>R.length=q.cs.length
def Fits (ls:List (Option LS)) (Rs:List (List SR)):Prop:=All2 Fit1 ls Rs
theorem Fits.tl {o:Option LS} {R:List SR} (h:Fits (o::ls) (R::Rs)):Fit1 o R∧Fits ls Rs:=
 ⟨h.2 0 o R rfl rfl,by have:=h.1;simpa using this,fun k a b ha hb=>h.2 (k+1) a b (by simpa using ha) (by simpa using hb)⟩
theorem zG9:∀{ls:List (Option LS)} {Rs:List (List SR)},Fits ls Rs→TR.pvs (List.zipWith lrT ls Rs)=ls.map LS.pvo
 | [],[],_=>rfl
 | [],R::Rs,h=>by have:=h.1;simp at this
 | o::ls,[],h=>by have:=h.1;simp at this
 | none::ls,R::Rs,h=>by
  simp only [List.zipWith_cons_cons,TR.pvs,List.map_cons,zG9 h.tl.2];rfl
 | some q::ls,R::Rs,h=>by
  have hl:R.length=q.cs.length:=h.tl.1;simp only [List.zipWith_cons_cons,TR.pvs,List.map_cons,zG9 h.tl.2];simp only [lrT,TR.rows,TR.pv,LS.pvo,LS.pv,List.length_map,hl]
theorem zDz:∀{ls:List (Option LS)} {Rs:List (List SR)},Fits ls Rs→(TR.slotss (List.zipWith lrT ls Rs)).Perm (LS.slots ls++qX Rs.flatten)
 | [],[],_=>List.Perm.refl _
 | [],R::Rs,h=>by have:=h.1;simp at this
 | o::ls,[],h=>by have:=h.1;simp at this
 | none::ls,R::Rs,h=>by
  have hR:R=[]:=h.tl.1;subst hR;simp only [List.zipWith_cons_cons,TR.slotss,lrT,TR.slots,List.nil_append,List.flatten_cons,LS.slots];exact zDz h.tl.2
 | some q::ls,R::Rs,h=>by
  have ih:=zDz h.tl.2;simp only [List.zipWith_cons_cons,TR.slotss,lrT,TR.rows,TR.slots,TR.rows_slots,List.flatten_cons,LS.slots,List.cons_append];refine List.Perm.cons _ ?_;have e:qX (R++Rs.flatten)=qX R++qX Rs.flatten:=by simp [qX]
  rw [e];refine((ih.append_left (qX R)).trans ?_);rw [←List.append_assoc,←List.append_assoc];exact List.perm_append_comm.append_right _
theorem zLx:∀{ls:List (Option LS)} {Rs:List (List SR)},(∀(j:Nat) (o:Option LS) (R:List SR),ls[j]? = some o→Rs[j]? = some R→(lrT o R).ok h b)→TR.oks h b (List.zipWith lrT ls Rs)
 | [],_,_=>trivial
 | o::ls,[],_=>trivial
 | o::ls,R::Rs,k=>⟨k 0 o R rfl rfl,zLx fun j o' R' h1 h2=>k (j+1) o' R' (by simpa using h1) (by simpa using h2)⟩
theorem zJR:∀{ls:List (Option LS)} {Rs:List (List SR)},Fits ls Rs→All2 FII (TR.fzs a (List.zipWith lrT ls Rs)) (Rs.map fun R=>R.map SR.x)
 | [],[],_=>All2.nil _
 | [],R::Rs,h=>by have:=h.1;simp at this
 | o::ls,[],h=>by have:=h.1;simp at this
 | o::ls,R::Rs,h=>by
  have ih:=zJR h.tl.2;refine⟨by simp only [List.zipWith_cons_cons,TR.fzs,List.map_cons,List.length_cons,ih.1],fun k c y hc hy=>?_⟩
  cases k with
  | zero=>
   simp only [List.zipWith_cons_cons,TR.fzs,List.map_cons,List.getElem?_cons_zero,Option.some.injEq]at hc hy
   rw [←hc,←hy];cases o with
   | none=>
    have hR:R=[]:=h.tl.1;subst hR;exact⟨true,.nils,[],rfl,All2.nil _⟩
   | some q=>exact TR.rows_FII
  | succ k=>
   simp only [List.zipWith_cons_cons,TR.fzs,List.map_cons,List.getElem?_cons_succ]at hc hy
   exact ih.2 k c y hc hy
theorem LI.fin {σ0 T:PHeap} {Y:List PV} {res:Nat} (hT:Keep σ0 T) (hres:σ0.next≤res∧res<T.next) (hOc:full 1 capO O.length) (hPc:full 1 capP rows.length) (hCc:full 1 capC Rs.length) (hpc:pc.length=rows.length)
  (hfull:∀q,some q∈ls→full 1 q.cap q.cs.length) (bf:BF T H tp sO sP sC ls) (l:LI T H h tp sO sP sC vO capP capC n (pis O) pc ls rows Rs []) (hf:Fits ls Rs)
  (hk:∀vO vQ vC t,FI vO O→FII vQ (rows.map SR.x)→FIII vC (Rs.map fun R=>R.map SR.x)→Own σ0.top t (.agg [vO,vQ,vC])→σ0.top≤t→K (.agg [vO,vQ,vC]) (σ0.up t)):
  Gh σ0 K (.agg [.sl sO 0 O.length capO,.sl sP 0 rows.length capP,.sl sC 0 Rs.length capC]) (h.set res Y):=by
 have hTn:=hT.next;have bO:=bf.b sO (by simp)
 have bP:=bf.b sP (by simp)
 have bC:=bf.b sC (by simp)
 have hHn:=l.nx;have hlen:ls.length=Rs.length:=hf.1;have hzl:(List.zipWith lrT ls Rs).length=Rs.length:=by rw [List.length_zipWith];omega
 have e:(TR.agg [TR.row sO capO O,TR.rows sP capP rows,.lst sC capC (List.zipWith lrT ls Rs)]).pv=.agg [.sl sO 0 O.length capO,.sl sP 0 rows.length capP,.sl sC 0 Rs.length capC]:=by
  simp only [TR.pv,TR.pvs,TR.row_pv,TR.rows,List.length_map,hzl]
 rw [←e];have ob:∀s,s≠res→(h.set res Y).obj s=h.obj s:=fun s hs=>by rw [zH,if_neg hs]
 have rok:∀q:SR,q.ok h H.next→q.ok (h.set res Y) σ0.next:=fun q ⟨g1,g2,g3,g4⟩=>⟨g1,by rw [ob _ (by have:=(bf.b sO (by simp));omega)];exact g2,by have:=(bf.b sO (by simp));omega,g4⟩
 have okR:∀q∈rows,q.ok (h.set res Y) σ0.next:=fun q hq=>rok q (l.ok q (.inl hq))
 refine Gh.treeO ((hT.trans l.keep).set hres.1 _) ⟨TR.row_ok hOc (by rw [ob _ (by omega)];exact l.oO) (by omega) (by show sO<h.next;omega),TR.rows_ok hPc (by rw [ob _ (by omega),l.oP,List.drop_of_length_le (by omega),List.append_nil]) (by omega) (by show sP<h.next;omega) okR,⟨⟨by rw [hzl];exact hCc,by rw [ob _ (by omega),l.oC,zG9 hf],by omega,by show sC<h.next;omega⟩,zLx fun j o R ho hR=>?_⟩,trivial⟩ ?_ fun a T' g1 g2=>?_
 ·cases o with
  | none=>trivial
  | some q=>
   have hm:=LS.mem_of_get ho;have bq:=bf.b q.s (List.mem_append.2 (.inr hm));have hRl:R.length=q.cs.length:=hf.2 j _ _ ho hR;obtain⟨hj,hje⟩:=List.getElem?_eq_some_iff.1 hR;refine TR.rows_ok (by rw [hRl];exact hfull q (List.mem_of_getElem? ho)) ?_ (by omega) (by show q.s<h.next;omega) fun q' hq'=>rok q' (l.ok q' (.inr (.inl (List.mem_flatten.2 ⟨R,List.mem_of_getElem? hR,hq'⟩))))
   rw [ob _ (by omega),l.oL j q ho]
   unfold cont;rw [if_pos hj,List.getD_eq_getElem?_getD,hR];rfl
 ·have nd:=bf.nd
  have nr:=l.nd;rw [List.append_nil]at nr
  have hp:((TR.agg [TR.row sO capO O,TR.rows sP capP rows,.lst sC capC (List.zipWith lrT ls Rs)]).slots).Perm (([sO,sP,sC]++LS.slots ls)++qX (rows++Rs.flatten)):=by
   have e2:qX (rows++Rs.flatten)=qX rows++qX Rs.flatten:=by simp [qX]
   simp only [TR.slots,TR.slotss,TR.row_slots,TR.rows,TR.rows_slots,List.append_nil,List.cons_append,List.nil_append,e2];refine List.Perm.cons _ (List.Perm.cons _ ?_);have h3:=(zDz hf).cons sC |>.append_left (qX rows);refine h3.trans ?_;simp only [←List.cons_append];rw [←List.append_assoc,←List.append_assoc];exact List.perm_append_comm.append_right _
  refine hp.nodup_iff.2 (List.nodup_append.2 ⟨?_,nr,fun x hx y hy e=>?_⟩)
  ·simp only [List.cons_append,List.nil_append,List.nodup_cons]at nd ⊢
   exact nd.2
  ·have h1:=(bf.b x (by simp only [List.cons_append,List.nil_append,List.mem_cons]at hx ⊢;exact .inr hx)).2
   obtain⟨q,hq,e3⟩:=List.mem_map.1 hy;have h2:=(l.ok q (by rcases List.mem_append.1 hq with hq | hq;exact .inl hq;exact .inr (.inl hq))).2.2.1
   omega
 ·exact hk _ _ _ T' TR.row_FI TR.rows_FII ⟨true,.sl (a sC) 0 Rs.length capC,TR.fzs a (List.zipWith lrT ls Rs),by simp only [TR.fz,hzl,List.length_map],zJR hf⟩ g1 g2
end Go.Proofs
namespace Go.Proofs
open Go.Ab Go.Lie
variable {p:Int} {n:Nat} {W:List (List Int)} {B:List (List (List Int))} {c k:Nat} {f g h:Vec}
theorem Q8 (f g g':Vec) (t:Nat):brv B n f (fun j=>g j+g' j) t=brv B n f g t+brv B n f g' t:=by
 rw [zX,Zo,zX g f,zX g' f]
 grind
theorem zKl (f g:Vec) (t:Nat):brv B n f g t=sumN n fun k=>f k*brv B n (at_ (unitL n k)) g t:=by
 rw [zX,zBK f g,←ZO];refine qC fun k hk=>?_
 rw [zX g (at_ (unitL n k))]
 grind
theorem Z4 {f f' g g':Vec} (h:∀j,f j=f' j) (h':∀j,g j=g' j) (t:Nat):brv B n f g t=brv B n f' g' t:=zAT (fun j _=>h j) (fun j _=>h' j) t
def jac (B:List (List (List Int))) (n:Nat) (f g h:Vec):Vec:=fun t=>brv B n (brv B n f g) h t+brv B n (brv B n g h) f t+brv B n (brv B n h f) g t
theorem zJT (f g h:Vec) (t:Nat):jac B n f g h t=jac B n g h f t:=by
 simp only [jac];omega
theorem zEB (f g h:Vec) (t:Nat):brv B n (brv B n f g) h t=-1*brv B n (brv B n g f) h t:=by
 rw [Z4 (f':=fun j=>-1*brv B n g f j) (g':=h) (fun j=>zX f g j) (fun _=>rfl),qM]
theorem zHL (f g h:Vec) (t:Nat):jac B n f g h t=-1*jac B n g f h t:=by
 simp only [jac];rw [zEB f g,zEB g h,zEB h f];omega
theorem zNV (f h:Vec) (t:Nat):jac B n f f h t=0:=by
 have:=zHL (B:=B) (n:=n) f f h t
 omega
theorem zOg (f g h:Vec) (t:Nat):jac B n f g h t=sumN n fun k=>f k*jac B n (at_ (unitL n k)) g h t:=by
 simp only [jac];rw [Z4 (f':=fun j=>sumN n fun k=>f k*brv B n (at_ (unitL n k)) g j) (g':=h) (fun j=>zKl f g j) (fun _=>rfl),zAm (t:=t) (g:=h) n (fun k j=>f k*brv B n (at_ (unitL n k)) g j),
  zBK f (brv B n g h),Z4 (f':=fun j=>sumN n fun k=>f k*brv B n h (at_ (unitL n k)) j) (g':=g) (fun j=>zBK f h j) (fun _=>rfl),zAm (t:=t) (g:=g) n (fun k j=>f k*brv B n h (at_ (unitL n k)) j),←QD,←QD]
 refine qC fun k hk=>?_
 rw [qM,qM]
 grind
theorem zHM (hu:∀k,k<n→Eqv p n W (jac B n (at_ (unitL n k)) g h) fun _=>0):Eqv p n W (jac B n f g h) fun _=>0:=
 (Eqv.of_eq fun t=>zOg f g h t).trans (zCD n (fun k t=>f k*jac B n (at_ (unitL n k)) g h t) fun k hk=>((hu k hk).mul (f k)).trans (Eqv.of_eq fun t=>by grind))
theorem Q3 (o:OkW p n W) (q:OkB p n B) (nf:qz p W B n) {i j k:Nat} (hij:i<j) (hjk:j<k) (hk:k<n):Eqv p n W (jac B n (at_ (unitL n i)) (at_ (unitL n j)) (at_ (unitL n k))) fun _=>0:=by
 have h:=nf.2 i j k hij hjk hk;unfold F2 at h
 have e:∀a b c:List Int,Eqv p n W (at_ (br p W B n (br p W B n a b) c)) (brv B n (brv B n (at_ a) (at_ b)) (at_ c)):=fun a b c=>(Zp o q _ _).trans (zAn o q nf _ (Zp o q a b))
 have ev2:=(((qh o (zJ o (br_el o q) (br_el o q)) (br_el o q)).symm.trans (Eqv.of_eq (ZH h))));refine Eqv.trans ?_ ev2;refine(Eqv.of_eq fun t=>rfl).trans (Eqv.add (Eqv.trans ?_ (qh o (br_el o q) (br_el o q)).symm) (e _ _ _).symm)
 exact Eqv.add (e _ _ _).symm (e _ _ _).symm
theorem zMB (o:OkW p n W) (q:OkB p n B) (nf:qz p W B n) {i j k:Nat} (hi:i<n) (hj:j<n) (hk:k<n):Eqv p n W (jac B n (at_ (unitL n i)) (at_ (unitL n j)) (at_ (unitL n k))) fun _=>0:=by
 have cyc:∀{a b c:Vec},Eqv p n W (jac B n b c a) (fun _=>0)→Eqv p n W (jac B n a b c) fun _=>0:=fun h=>(Eqv.of_eq fun t=>zJT _ _ _ t).trans h
 have swp:∀{a b c:Vec},Eqv p n W (jac B n b a c) (fun _=>0)→Eqv p n W (jac B n a b c) fun _=>0:=fun h=>(Eqv.of_eq fun t=>zHL _ _ _ t).trans ((h.mul (-1)).trans (Eqv.of_eq fun t=>rfl))
 have sam:∀{a c:Vec},Eqv p n W (jac B n a a c) (fun _=>0):=Eqv.of_eq fun t=>zNV _ _ t
 rcases Nat.lt_trichotomy i j with h1|rfl|h1
 ·rcases Nat.lt_trichotomy j k with h2 | rfl | h2
  ·exact Q3 o q nf h1 h2 hk
  ·exact cyc sam
  ·rcases Nat.lt_trichotomy i k with h3 | rfl | h3
   ·exact cyc (swp (cyc (cyc (Q3 o q nf h3 h2 hj))))
   ·exact cyc (cyc sam)
   ·exact cyc (cyc (Q3 o q nf h3 h1 hj))
 ·exact sam
 ·rcases Nat.lt_trichotomy j k with h2 | rfl | h2
  ·rcases Nat.lt_trichotomy i k with h3 | rfl | h3
   ·exact swp (Q3 o q nf h1 h3 hk)
   ·exact cyc (cyc sam)
   ·exact cyc (Q3 o q nf h2 h3 hi)
  ·exact cyc sam
  ·exact swp (cyc (cyc (Q3 o q nf h2 h1 hi)))
theorem zHK (o:OkW p n W) (q:OkB p n B) (nf:qz p W B n) (f g h:Vec):Eqv p n W (jac B n f g h) fun _=>0:=by
 have cyc:∀{a b c:Vec},Eqv p n W (jac B n b c a) (fun _=>0)→Eqv p n W (jac B n a b c) fun _=>0:=fun h=>(Eqv.of_eq fun t=>zJT _ _ _ t).trans h
 refine zHM fun i hi=>cyc (zHM fun j hj=>cyc (zHM fun k hk=>cyc ?_))
 exact zMB o q nf hi hj hk
theorem Rg.brk3 (r:Rg p n W B c) (hh:Lw p n W B k h) (f g:Vec):Lw p n W B (k+2) (brv B n (brv B n f g) h):=by
 have h1:=r.brk2 (r.brk2 hh g) f;have h2:=r.brk2 (r.brk2 hh f) g;refine(r.sub _).eqv _ _ ?_ ((r.sub _).add _ _ h1 ((r.sub _).mul (-1) _ h2));have h0:=zHK r.o r.q r.nf f g h;refine(Eqv.of_eq fun t=>?_).trans ((((Eqv.refl (fun t=>brv B n f (brv B n g h) t + -1*brv B n g (brv B n f h) t)).add h0)).trans (Eqv.of_eq fun t=>by omega))
 simp only [jac];have ev1:=zX (B:=B) (n:=n) (brv B n g h) f t;have ev2:=zX (B:=B) (n:=n) (brv B n h f) g t;have ev3:brv B n g (brv B n h f) t=-1*brv B n g (brv B n f h) t:=by
  rw [Z4 (f':=g) (g':=fun j=>-1*brv B n f h j) (fun _=>rfl) (fun j=>zX h f j),Zz]
 omega
section
variable {X Y Z:Vec}
def ev1 (X Y Z:Vec) (a:List Int):Vec:=fun t=>at_ a 0*X t+at_ a 1*Y t+at_ a 2*Z t
def ev2 (B:List (List (List Int))) (n:Nat) (X Y Z:Vec) (a:List Int):Vec:=fun t=>at_ a 3*brv B n X Y t+at_ a 4*brv B n X Z t+at_ a 5*brv B n Y Z t
def ev3 (B:List (List (List Int))) (n:Nat) (X Y Z:Vec) (a:List Int):Vec:=fun t=>
 at_ a 6*brv B n X (brv B n X Y) t+at_ a 7*brv B n Y (brv B n X Y) t+at_ a 8*brv B n Z (brv B n X Y) t+at_ a 9*brv B n X (brv B n X Z) t
 + at_ a 10*brv B n Y (brv B n X Z) t+at_ a 11*brv B n Z (brv B n X Z) t+at_ a 12*brv B n Y (brv B n Y Z) t+at_ a 13*brv B n Z (brv B n Y Z) t
def evv (B:List (List (List Int))) (n:Nat) (X Y Z:Vec) (a:List Int):Vec:=fun t=>ev1 X Y Z a t+(ev2 B n X Y Z a t+ev3 B n X Y Z a t)
def tbl (a b:List Int):List Int:=
  [0,0,0,at_ a 0*at_ b 1-at_ a 1*at_ b 0,at_ a 0*at_ b 2-at_ a 2*at_ b 0,at_ a 1*at_ b 2-at_ a 2*at_ b 1,
   at_ a 0*at_ b 3-at_ b 0*at_ a 3,at_ a 1*at_ b 3-at_ b 1*at_ a 3,at_ a 2*at_ b 3-at_ a 0*at_ b 5-(at_ b 2*at_ a 3-at_ b 0*at_ a 5),
   at_ a 0*at_ b 4-at_ b 0*at_ a 4,at_ a 1*at_ b 4+at_ a 0*at_ b 5-(at_ b 1*at_ a 4+at_ b 0*at_ a 5),at_ a 2*at_ b 4-at_ b 2*at_ a 4,
   at_ a 1*at_ b 5-at_ b 1*at_ a 5,at_ a 2*at_ b 5-at_ b 2*at_ a 5]
theorem zC3 (a b:List Int):at_ (tbl a b) 0=0∧at_ (tbl a b) 1=0∧at_ (tbl a b) 2=0∧at_ (tbl a b) 3=at_ a 0*at_ b 1-at_ a 1*at_ b 0∧at_ (tbl a b) 4=at_ a 0*at_ b 2-at_ a 2*at_ b 0
  ∧at_ (tbl a b) 5=at_ a 1*at_ b 2-at_ a 2*at_ b 1∧at_ (tbl a b) 6=at_ a 0*at_ b 3-at_ b 0*at_ a 3∧at_ (tbl a b) 7=at_ a 1*at_ b 3-at_ b 1*at_ a 3
  ∧at_ (tbl a b) 8=at_ a 2*at_ b 3-at_ a 0*at_ b 5-(at_ b 2*at_ a 3-at_ b 0*at_ a 5)∧at_ (tbl a b) 9=at_ a 0*at_ b 4-at_ b 0*at_ a 4
  ∧at_ (tbl a b) 10=at_ a 1*at_ b 4+at_ a 0*at_ b 5-(at_ b 1*at_ a 4+at_ b 0*at_ a 5)∧at_ (tbl a b) 11=at_ a 2*at_ b 4-at_ b 2*at_ a 4
  ∧at_ (tbl a b) 12=at_ a 1*at_ b 5-at_ b 1*at_ a 5∧at_ (tbl a b) 13=at_ a 2*at_ b 5-at_ b 2*at_ a 5:=⟨rfl,rfl,rfl,rfl,rfl,rfl,rfl,rfl,rfl,rfl,rfl,rfl,rfl,rfl⟩
theorem zMQ (a:List Int) (g:Vec) (t:Nat):brv B n (ev1 X Y Z a) g t=at_ a 0*brv B n X g t+at_ a 1*brv B n Y g t+at_ a 2*brv B n Z g t:=by
 unfold ev1;rw [Zo,Zo,qM,qM,qM]
theorem zPe (a:List Int) (g:Vec) (t:Nat):brv B n g (ev1 X Y Z a) t=at_ a 0*brv B n g X t+at_ a 1*brv B n g Y t+at_ a 2*brv B n g Z t:=by
 unfold ev1;rw [Q8,Q8,Zz,Zz,Zz]
theorem zPd (a:List Int) (g:Vec) (t:Nat):brv B n g (ev2 B n X Y Z a) t=at_ a 3*brv B n g (brv B n X Y) t+at_ a 4*brv B n g (brv B n X Z) t+at_ a 5*brv B n g (brv B n Y Z) t:=by
 unfold ev2;rw [Q8,Q8,Zz,Zz,Zz]
theorem zPa (a:List Int) (g:Vec) (t:Nat):brv B n (ev2 B n X Y Z a) g t=at_ a 3*brv B n (brv B n X Y) g t+at_ a 4*brv B n (brv B n X Z) g t+at_ a 5*brv B n (brv B n Y Z) g t:=by
 unfold ev2;rw [Zo,Zo,qM,qM,qM]
theorem br11 (a b:List Int) (t:Nat):brv B n (ev1 X Y Z a) (ev1 X Y Z b) t=ev2 B n X Y Z (tbl a b) t:=by
 simp only [zMQ,zPe,zHo,zX (B:=B) (n:=n) Y X,zX (B:=B) (n:=n) Z X,zX (B:=B) (n:=n) Z Y,ev2];obtain⟨_,_,_,h3,h4,h5,_⟩:=zC3 a b;rw [h3,h4,h5]
 grind
theorem br123 (a b:List Int) (t:Nat):brv B n (ev1 X Y Z a) (ev2 B n X Y Z b) t+brv B n (ev2 B n X Y Z a) (ev1 X Y Z b) t
  = ev3 B n X Y Z (tbl a b) t+(at_ b 0*at_ a 5-at_ a 0*at_ b 5)*jac B n Z X Y t:=by
 rw [zX (ev2 B n X Y Z a)];simp only [zMQ,zPd,ev3,jac];obtain⟨_,_,_,_,_,_,h6,h7,h8,h9,h10,h11,h12,h13⟩:=zC3 a b;rw [h6,h7,h8,h9,h10,h11,h12,h13,zX (brv B n Z X),zX (brv B n X Y),zX (brv B n Y Z),
  Z4 (f:=Y) (f':=Y) (g':=fun j=>-1*brv B n X Z j) (fun _=>rfl) (fun j=>zX Z X j),Zz]
 grind
theorem Rg.e1_lw (r:Rg p n W B c) (hX:Lw p n W B 0 X) (hY:Lw p n W B 0 Y) (hZ:Lw p n W B 0 Z) (a:List Int):Lw p n W B 0 (ev1 X Y Z a):=
 (r.sub 0).add _ _ ((r.sub 0).add _ _ ((r.sub 0).mul _ _ hX) ((r.sub 0).mul _ _ hY)) ((r.sub 0).mul _ _ hZ)
theorem Rg.e2_lw (r:Rg p n W B c) (hY:Lw p n W B 0 Y) (hZ:Lw p n W B 0 Z) (a:List Int):Lw p n W B 1 (ev2 B n X Y Z a):=
 (r.sub 1).add _ _ ((r.sub 1).add _ _ ((r.sub 1).mul _ _ (r.brk2 hY _)) ((r.sub 1).mul _ _ (r.brk2 hZ _))) ((r.sub 1).mul _ _ (r.brk2 hZ _))
theorem Rg.e3_lw (r:Rg p n W B c) (hY:Lw p n W B 0 Y) (hZ:Lw p n W B 0 Z) (a:List Int):Lw p n W B 2 (ev3 B n X Y Z a):=by
 have b2:∀{e f g:Vec},Lw p n W B 0 g→Lw p n W B 2 (brv B n e (brv B n f g)):=fun h=>r.brk2 (r.brk2 h _) _
 have s:=r.sub 2;exact s.add _ _ (s.add _ _ (s.add _ _ (s.add _ _ (s.add _ _ (s.add _ _ (s.add _ _ (s.mul _ _ (b2 hY)) (s.mul _ _ (b2 hY))) (s.mul _ _ (b2 hY))) (s.mul _ _ (b2 hZ))) (s.mul _ _ (b2 hZ))) (s.mul _ _ (b2 hZ))) (s.mul _ _ (b2 hZ))) (s.mul _ _ (b2 hZ))
theorem Rg.evv_brv (r:Rg p n W B c) (hc:c≤3) (hX:Lw p n W B 0 X) (hY:Lw p n W B 0 Y) (hZ:Lw p n W B 0 Z) (a b:List Int):
  Eqv p n W (brv B n (evv B n X Y Z a) (evv B n X Y Z b)) (evv B n X Y Z (tbl a b)):=by
 have s:=fun k=>r.sub k
 have l1:=fun a=>r.e1_lw hX hY hZ a
 have l2:=fun a=>r.e2_lw (X:=X) hY hZ a
 have l3:=fun a=>r.e3_lw (X:=X) hY hZ a
 have z3:∀{f:Vec},Lw p n W B 3 f→Eqv p n W f fun _=>0:=fun h=>r.top hc h
 have y1:Eqv p n W (brv B n (ev3 B n X Y Z a) (evv B n X Y Z b)) fun _=>0:=z3 (r.brk (l3 a) _)
 have y2:Eqv p n W (brv B n (ev1 X Y Z a) (ev3 B n X Y Z b)) fun _=>0:=z3 (r.brk2 (l3 b) _)
 have y4:Eqv p n W (brv B n (ev2 B n X Y Z a) (fun j=>ev2 B n X Y Z b j+ev3 B n X Y Z b j)) fun _=>0:=by
  have hl:Lw p n W B 1 (fun j=>ev2 B n X Y Z b j+ev3 B n X Y Z b j):=(s 1).add _ _ (l2 b) (r.down (l3 b))
  refine z3 ((s 3).eqv _ _ (Eqv.of_eq fun t=>zPa a _ t) ?_)
  exact(s 3).add _ _ ((s 3).add _ _ ((s 3).mul _ _ (r.brk3 hl _ _)) ((s 3).mul _ _ (r.brk3 hl _ _))) ((s 3).mul _ _ (r.brk3 hl _ _))
 have yj:=(zHK r.o r.q r.nf Z X Y).mul (at_ b 0*at_ a 5-at_ a 0*at_ b 5);have all:=((y1.add y2).add y4).add yj;refine(Eqv.of_eq fun t=>?_).trans (((Eqv.refl (evv B n X Y Z (tbl a b))).add all).trans (Eqv.of_eq fun t=>by simp))
 have q1:=br11 (B:=B) (n:=n) (X:=X) (Y:=Y) (Z:=Z) a b t;have q2:=br123 (B:=B) (n:=n) (X:=X) (Y:=Y) (Z:=Z) a b t;have q3:brv B n (evv B n X Y Z a) (evv B n X Y Z b) t=brv B n (ev1 X Y Z a) (evv B n X Y Z b) t+(brv B n (ev2 B n X Y Z a) (evv B n X Y Z b) t+brv B n (ev3 B n X Y Z a) (evv B n X Y Z b) t):=by
  rw [show evv B n X Y Z a=fun j=>ev1 X Y Z a j+(fun j=>ev2 B n X Y Z a j+ev3 B n X Y Z a j) j from rfl,Zo,Zo]
 have q4:∀f:Vec,brv B n f (evv B n X Y Z b) t=brv B n f (ev1 X Y Z b) t+brv B n f (fun j=>ev2 B n X Y Z b j+ev3 B n X Y Z b j) t:=fun f=>by
  rw [show evv B n X Y Z b=fun j=>ev1 X Y Z b j+(fun j=>ev2 B n X Y Z b j+ev3 B n X Y Z b j) j from rfl,Q8]
 have q5:∀f:Vec,brv B n f (fun j=>ev2 B n X Y Z b j+ev3 B n X Y Z b j) t=brv B n f (ev2 B n X Y Z b) t+brv B n f (ev3 B n X Y Z b) t:=fun f=>Q8 _ _ _ t
 have q6:=q4 (ev1 X Y Z a);have q7:=q4 (ev2 B n X Y Z a);have q8:=q5 (ev1 X Y Z a);have q9:ev1 X Y Z (tbl a b) t=0:=by
  obtain⟨h0,h1,h2,_⟩:=zC3 a b;simp only [ev1];rw [h0,h1,h2];omega
 have q10:evv B n X Y Z (tbl a b) t=ev1 X Y Z (tbl a b) t+(ev2 B n X Y Z (tbl a b) t+ev3 B n X Y Z (tbl a b) t):=rfl;omega
end
end Go.Proofs
namespace Go.Proofs
open Go.Ab Go.Lie
variable {p:Int} {n m:Nat} {W:List (List Int)} {B:List (List (List Int))} {c:Nat} {X Y Z:Vec} {a b:List Int} {x y:List Int}
def kadd (a b:List Int):List Int:=[at_ a 0+at_ b 0,at_ a 1+at_ b 1,at_ a 2+at_ b 2,at_ a 3+at_ b 3,at_ a 4+at_ b 4,at_ a 5+at_ b 5,at_ a 6+at_ b 6,at_ a 7+at_ b 7,at_ a 8+at_ b 8,at_ a 9+at_ b 9,at_ a 10+at_ b 10,at_ a 11+at_ b 11,at_ a 12+at_ b 12,at_ a 13+at_ b 13]
def kmul (k:Int) (a:List Int):List Int:=[k*at_ a 0,k*at_ a 1,k*at_ a 2,k*at_ a 3,k*at_ a 4,k*at_ a 5,k*at_ a 6,k*at_ a 7,k*at_ a 8,k*at_ a 9,k*at_ a 10,k*at_ a 11,k*at_ a 12,k*at_ a 13]
def kdiv (a:List Int) (k:Int):List Int:=[at_ a 0 / k,at_ a 1 / k,at_ a 2 / k,at_ a 3 / k,at_ a 4 / k,at_ a 5 / k,at_ a 6 / k,at_ a 7 / k,at_ a 8 / k,at_ a 9 / k,at_ a 10 / k,at_ a 11 / k,at_ a 12 / k,at_ a 13 / k]
theorem at_lt {f:Nat→Int} {l:List Int} (h0:at_ l 0=f 0∧at_ l 1=f 1∧at_ l 2=f 2∧at_ l 3=f 3∧at_ l 4=f 4∧at_ l 5=f 5∧at_ l 6=f 6∧at_ l 7=f 7∧at_ l 8=f 8∧at_ l 9=f 9∧at_ l 10=f 10∧at_ l 11=f 11∧at_ l 12=f 12∧at_ l 13=f 13):∀i,i<14→at_ l i=f i:=fun i hi=>by
 obtain⟨h0,h1,h2,h3,h4,h5,h6,h7,h8,h9,h10,h11,h12,h13⟩:=h0
 match i,hi with
 | 0,_=>exact h0
 | 1,_=>exact h1
 | 2,_=>exact h2
 | 3,_=>exact h3
 | 4,_=>exact h4
 | 5,_=>exact h5
 | 6,_=>exact h6
 | 7,_=>exact h7
 | 8,_=>exact h8
 | 9,_=>exact h9
 | 10,_=>exact h10
 | 11,_=>exact h11
 | 12,_=>exact h12
 | 13,_=>exact h13
theorem zJi (a b:List Int):∀i,i<14→at_ (kadd a b) i=at_ a i+at_ b i:=at_lt (f:=fun i=>at_ a i+at_ b i) ⟨rfl,rfl,rfl,rfl,rfl,rfl,rfl,rfl,rfl,rfl,rfl,rfl,rfl,rfl⟩
theorem zFk (k:Int) (a:List Int):∀i,i<14→at_ (kmul k a) i=k*at_ a i:=at_lt (f:=fun i=>k*at_ a i) ⟨rfl,rfl,rfl,rfl,rfl,rfl,rfl,rfl,rfl,rfl,rfl,rfl,rfl,rfl⟩
theorem zFl (k:Int) (a:List Int):∀i,i<14→at_ (kdiv a k) i=at_ a i / k:=at_lt (f:=fun i=>at_ a i / k) ⟨rfl,rfl,rfl,rfl,rfl,rfl,rfl,rfl,rfl,rfl,rfl,rfl,rfl,rfl⟩
theorem zOm (t:Nat):evv B n X Y Z (kadd a b) t=evv B n X Y Z a t+evv B n X Y Z b t:=by
 have h:=zJi a b;simp only [evv,ev1,ev2,ev3];rw [h 0 (by omega),h 1 (by omega),h 2 (by omega),h 3 (by omega),h 4 (by omega),h 5 (by omega),h 6 (by omega),h 7 (by omega),h 8 (by omega),h 9 (by omega),h 10 (by omega),h 11 (by omega),h 12 (by omega),h 13 (by omega)]
 grind
theorem zJY (k:Int) (t:Nat):evv B n X Y Z (kmul k a) t=k*evv B n X Y Z a t:=by
 have h:=zFk k a;simp only [evv,ev1,ev2,ev3];rw [h 0 (by omega),h 1 (by omega),h 2 (by omega),h 3 (by omega),h 4 (by omega),h 5 (by omega),h 6 (by omega),h 7 (by omega),h 8 (by omega),h 9 (by omega),h 10 (by omega),h 11 (by omega),h 12 (by omega),h 13 (by omega)]
 grind
structure Md (p:Int) (c m:Nat):Prop where
 c3:c≤3
 cut:m=14∨(m=6∧c≤2)∨(m=3∧c≤1)
 d2:m≤3∨(Cop p 2∧Cop p (-2))
 d12:m≤6∨(Cop p 12∧Cop p (-12))
structure Cx (p:Int) (n:Nat) (W:List (List Int)) (B:List (List (List Int))) (c m:Nat) (X Y Z:Vec):Prop where
 z:Lz p n W B c
 md:Md p c m
 x:Lw p n W B 0 X
 y:Lw p n W B 0 Y
 w:Lw p n W B 0 Z
structure EV (p:Int) (n:Nat) (W:List (List Int)) (B:List (List (List Int))) (X Y Z:Vec) (a x:List Int):Prop where
 el:El p n x
 eqv:Eqv p n W (at_ x) (evv B n X Y Z a)
theorem Cx.cut (k:Cx p n W B c m X Y Z) (h:∀i,i<m→at_ a i=at_ b i):Eqv p n W (evv B n X Y Z a) (evv B n X Y Z b):=by
 have r:=k.z.r;rcases k.md.cut with rfl|⟨rfl,hc⟩|⟨rfl,hc⟩
 ·refine Eqv.of_eq fun t=>?_
  simp only [evv,ev1,ev2,ev3];rw [h 0 (by omega),h 1 (by omega),h 2 (by omega),h 3 (by omega),h 4 (by omega),h 5 (by omega),h 6 (by omega),h 7 (by omega),h 8 (by omega),h 9 (by omega),h 10 (by omega),h 11 (by omega),h 12 (by omega),h 13 (by omega)]
 ·have h3:∀a,Eqv p n W (ev3 B n X Y Z a) fun _=>0:=fun a=>r.top hc (r.e3_lw k.y k.w a)
  refine(((Eqv.refl (ev1 X Y Z a)).add ((Eqv.refl (ev2 B n X Y Z a)).add (h3 a))).trans (Eqv.of_eq fun t=>?_)).trans ((Eqv.refl (ev1 X Y Z b)).add ((Eqv.refl (ev2 B n X Y Z b)).add (h3 b))).symm
  simp only [ev1,ev2];rw [h 0 (by omega),h 1 (by omega),h 2 (by omega),h 3 (by omega),h 4 (by omega),h 5 (by omega)]
 ·have h3:∀a,Eqv p n W (ev3 B n X Y Z a) fun _=>0:=fun a=>r.top (by omega) (r.e3_lw k.y k.w a)
  have h2:∀a,Eqv p n W (ev2 B n X Y Z a) fun _=>0:=fun a=>r.top (by omega) (r.e2_lw k.y k.w a)
  refine(((Eqv.refl (ev1 X Y Z a)).add ((h2 a).add (h3 a))).trans (Eqv.of_eq fun t=>?_)).trans ((Eqv.refl (ev1 X Y Z b)).add ((h2 b).add (h3 b))).symm
  simp only [ev1];rw [h 0 (by omega),h 1 (by omega),h 2 (by omega)]
theorem zPT (k:Cx p n W B c m X Y Z) (a:List Int):Lw p n W B 0 (evv B n X Y Z a):=
 (k.z.r.sub 0).add _ _ (k.z.r.e1_lw k.x k.y k.w a) ((k.z.r.sub 0).add _ _ (k.z.r.le (by omega) (k.z.r.e2_lw k.y k.w a)) (k.z.r.le (by omega) (k.z.r.e3_lw k.y k.w a)))
theorem zPU (k:Cx p n W B c m X Y Z) (a:List Int):∃z,EV p n W B X Y Z a z:=by
 obtain⟨u,hu,hg⟩:=zPT k a;obtain⟨z,h1,h2,_⟩:=zJV k.z.r.o (hu.els k.z.r.o).1 hg;exact⟨z,h1,h2.symm⟩
theorem EV.same (k:Cx p n W B c m X Y Z) (h:EV p n W B X Y Z a x) (g:EV p n W B X Y Z b y) (e:∀i,i<m→at_ a i=at_ b i):x=y:=
 qR k.z.r.o h.el.1 g.el.1 h.el.2 g.el.2 (h.eqv.trans ((k.cut e).trans g.eqv.symm))
theorem EV.to (k:Cx p n W B c m X Y Z) (h:EV p n W B X Y Z a x) (e:∀i,i<m→at_ a i=at_ b i):EV p n W B X Y Z b x:=⟨h.el,h.eqv.trans (k.cut e)⟩
theorem EV.add (k:Cx p n W B c m X Y Z) (h:EV p n W B X Y Z a x) (g:EV p n W B X Y Z b y):EV p n W B X Y Z (kadd a b) (ladd p W x y):=
 ⟨zJ k.z.r.o h.el g.el,(qh k.z.r.o h.el g.el).trans ((h.eqv.add g.eqv).trans (Eqv.of_eq fun t=>(zOm t).symm))⟩
theorem EV.mul (k:Cx p n W B c m X Y Z) (h:EV p n W B X Y Z a x) (q:Int):EV p n W B X Y Z (kmul q a) (lmul p W q x):=
 ⟨zJ k.z.r.o h.el h.el,(qP k.z.r.o h.el q).trans ((h.eqv.mul q).trans (Eqv.of_eq fun t=>(zJY q t).symm))⟩
theorem EV.brk (k:Cx p n W B c m X Y Z) (h:EV p n W B X Y Z a x) (g:EV p n W B X Y Z b y):EV p n W B X Y Z (tbl a b) (br p W B n x y):=
 ⟨br_el k.z.r.o k.z.r.q,(Zp k.z.r.o k.z.r.q x y).trans (((zAn k.z.r.o k.z.r.q k.z.r.nf _ h.eqv).trans (zHp k.z.r.o k.z.r.q k.z.r.nf _ g.eqv)).trans (k.z.r.evv_brv k.md.c3 k.x k.y k.w a b))⟩
theorem dv_of (o:OkW p n W) {k:Int} {x z:List Int} (hk:Cop p k) (hx:El p n x) (hz:El p n z) (h:Eqv p n W (fun j=>k*at_ z j) (at_ x)):z=dv p n W k x:=by
 refine dv_eq o hx ⟨hz,fun h0=>?_,fun _=>h⟩ (.inr hk)
 rcases Nat.eq_zero_or_pos n with hn|hn
 ·have ev1:=hz.1
  have ev2:=hx.1;rw [List.eq_nil_of_length_eq_zero (ev1.trans hn),List.eq_nil_of_length_eq_zero (ev2.trans hn)]
 ·obtain⟨a,w,ha⟩:=Q7 (p:=p) hk hn
  have e:Eqv p n W (fun j=>k*at_ z j) (fun j=>0):=h.trans (Eqv.of_eq (ZH h0))
  have k1:=(Qa o (f:=at_ z) (fun j hj=>hz.beyond hj)).mul w
  have k2:=(Eqv.refl (p:=p) (n:=n) (W:=W) (at_ z)).add k1;have ev3:Eqv p n W (at_ z) (at_ x):=(((Eqv.of_eq fun j=>(by omega)).trans k2.symm).trans (Eqv.of_eq fun j=>(by grind))).trans ((e.mul a).trans (Eqv.of_eq fun j=>(by rw [ZH h0,Int.mul_zero])))
  exact qR o hz.1 hx.1 hz.2 hx.2 ev3
theorem EV.div (k:Cx p n W B c m X Y Z) (h:EV p n W B X Y Z a x) {q:Int} (e:∀i,i<m→at_ a i=q*at_ b i) (hq:Cop p q):EV p n W B X Y Z b (dv p n W q x):=by
 obtain⟨w,hw⟩:=zPU k b;rw [←dv_of k.z.r.o hq h.el hw.el]
 ·exact hw
 ·refine((hw.eqv.mul q).trans (Eqv.of_eq fun t=>(zJY q t).symm)).trans ((k.cut fun i hi=>?_).trans h.eqv.symm)
  have hm:m≤14:=by rcases k.md.cut with h | h | h<;>omega
  rw [zFk q b i (by omega),e i hi]
theorem EV.divZ (k:Cx p n W B c m X Y Z) (h:EV p n W B X Y Z a x) {q:Int} (e:∀i,i<m→at_ a i=0):EV p n W B X Y Z a (dv p n W q x):=by
 have h0:isZ x:=Zb k.z.r.o h.el (h.eqv.trans ((k.cut (b:=[]) fun i hi=>e i hi).trans (Eqv.of_eq fun t=>by simp [evv,ev1,ev2,ev3])))
 rw [(Zm k.z.r.o h.el (k:=q)).nil h0];exact h
def kallm (m:Nat) (f:Nat→Bool):Bool:=(List.range m).all f
theorem zEC {m:Nat} {f:Nat→Bool} (h:kallm m f=true):∀i,i<m→f i=true:=fun i hi=>by
 have:=List.all_eq_true.1 h i (List.mem_range.2 hi)
 exact this
def keqm (m:Nat) (a b:List Int):Bool:=kallm m fun i=>at_ a i == at_ b i
def kdvd (m:Nat) (a:List Int) (q:Int):Bool:=kallm m fun i=>at_ a i % q == 0
theorem EV.eq (k:Cx p n W B c m X Y Z) (h:EV p n W B X Y Z a x) (g:EV p n W B X Y Z b y) (e:keqm m a b=true):x=y:=h.same k g fun i hi=>by simpa using zEC e i hi
theorem EV.dvk (k:Cx p n W B c m X Y Z) (h:EV p n W B X Y Z a x) {q:Int} (e:kdvd m a q=true) (hq:Cop p q):EV p n W B X Y Z (kdiv a q) (dv p n W q x):=by
 have hm:m≤14:=by rcases k.md.cut with h | h | h<;>omega
 refine h.div k (fun i hi=>?_) hq
 rw [zFl q a i (by omega)]
 have:=zEC e i hi
 simp only [beq_iff_eq]at this
 exact(Int.mul_ediv_cancel' (Int.dvd_of_emod_eq_zero this)).symm
def zBi (a b:List Int):List Int:=kadd (tbl a (tbl a b)) (tbl b (kmul (-1) (tbl a b)))
def kbch (a b:List Int):List Int:=kadd (kadd (kadd a b) (kdiv (tbl a b) 2)) (kdiv (zBi a b) 12)
def kokb (m:Nat) (a b:List Int):Bool:=kdvd m (tbl a b) 2 && kdvd m (zBi a b) 12
theorem zFJ (a b:List Int) {i:Nat} (hi:i<3):at_ (tbl a b) i=0:=by
 obtain⟨h0,h1,h2,_⟩:=zC3 a b
 match i,hi with
 | 0,_=>exact h0
 | 1,_=>exact h1
 | 2,_=>exact h2
theorem zGb (a b:List Int) (hb:∀i,i<3→at_ b i=0) {i:Nat} (hi:i<6):at_ (tbl a b) i=0:=by
 obtain⟨h0,h1,h2,h3,h4,h5,_⟩:=zC3 a b;have b0:=hb 0 (by omega)
 have b1:=hb 1 (by omega)
 have b2:=hb 2 (by omega)
 match i,hi with
 | 0,_=>exact h0
 | 1,_=>exact h1
 | 2,_=>exact h2
 | 3,_=>rw [h3,b0,b1];omega
 | 4,_=>rw [h4,b0,b2];omega
 | 5,_=>rw [h5,b1,b2];omega
theorem zKZ (a b:List Int) {i:Nat} (hi:i<6):at_ (zBi a b) i=0:=by
 rw [zBi,zJi _ _ i (by omega),zGb _ _ (fun i hi=>zFJ a b hi) hi,zGb _ _ (fun i hi=>by rw [zFk _ _ i (by omega),zFJ a b hi];omega) hi]
 omega
theorem EV.third (k:Cx p n W B c m X Y Z) (h:EV p n W B X Y Z a x) (g:EV p n W B X Y Z b y):EV p n W B X Y Z (zBi a b) (ZB p W B n x y):=
 (h.brk k (h.brk k g)).add k (g.brk k ((h.brk k g).mul k (-1)))
theorem EV.bch (k:Cx p n W B c m X Y Z) (h:EV p n W B X Y Z a x) (g:EV p n W B X Y Z b y) (e:kokb m a b=true):EV p n W B X Y Z (kbch a b) (bch p n W B x y):=by
 have hm:m≤14:=by rcases k.md.cut with h | h | h<;>omega
 simp only [kokb,Bool.and_eq_true]at e
 have z0:∀{a:List Int} {q:Int} {v:List Int},(∀i,i<m→at_ a i=0)→EV p n W B X Y Z a v→EV p n W B X Y Z (kdiv a q) (dv p n W q v):=fun h0 hv=>(hv.divZ k h0).to k fun i hi=>by
  rw [zFl _ _ i (by omega),h0 i hi,Int.zero_ediv]
 have h2:EV p n W B X Y Z (kdiv (tbl a b) 2) (dv p n W 2 (br p W B n x y)):=by
  rcases k.md.d2 with hl|hc
  ·exact z0 (fun i hi=>zFJ a b (by omega)) (h.brk k g)
  ·exact(h.brk k g).dvk k e.1 hc.1
 have h3:EV p n W B X Y Z (kdiv (zBi a b) 12) (dv p n W 12 (ZB p W B n x y)):=by
  rcases k.md.d12 with hl|hc
  ·exact z0 (fun i hi=>zKZ a b (by omega)) (h.third k g)
  ·exact(h.third k g).dvk k e.2 hc.1
 exact((h.add k g).add k h2).add k h3
theorem EV.zero (k:Cx p n W B c m X Y Z):EV p n W B X Y Z [] (List.replicate n 0):=
 ⟨ZV k.z.r.o.pr,Eqv.of_eq fun t=>by rw [zo];simp [evv,ev1,ev2,ev3]⟩
theorem zNl (o:OkW p n W) (q:OkB p n B) (a b:List Int):∀j,j<2→at_ (br p W B n a b) j=0:=by
 have hs:∀t,t<2→at_ (bsum B a b n) t=0:=fun t ht=>by
  rw [bsum,bi_at q t (Nat.le_refl _)];refine qN _ fun i hi=>qN _ fun j hj=>?_
  rw [(q.get hi hj).2 t (by omega),Int.mul_zero]
 intro j hj;rcases Nat.lt_or_ge j n with x|x
 ·exact zAK o (qd q) (d:=min 2 n) (Nat.min_le_right _ _) (fun j hj=>hs j (by omega)) j (by omega)
 ·exact at_ge (by rw [(br_el o q).1];exact x)
theorem zHB (o:OkW p n W) (q:OkB p n B):∀{k:Nat} {u:List (List Int)},Low p n W B (k+1) u→∀x∈u,k+2≤dep x
 | 0,u,h,y,hy=>by
  cases h with
  | succ h hc=>
   have hl:=hc.base.led y hy;have hg:=(hc.gen _).2 (zb hy);have hz:=zCC o (m:=min 2 n) (zBm o q _ _) (Nat.min_le_right _ _) (fun v hv j hj=>by
    obtain⟨x,hx,h⟩:=List.mem_flatMap.1 hv;obtain⟨e,he,rfl⟩:=List.mem_map.1 h;exact zNl o q _ _ j (by omega)) hl.1 hg
   have hd:=dep_ge (v:=y) (d:=min 2 n) (by rw [hl.1.1];exact Nat.min_le_right _ _) hz
   have:=hl.2.1
   omega
 | k+1,u,h,y,hy=>by
  cases h with
  | succ h hc=>exact zBr o q hc (zHB o q h) y hy
theorem zHP {a b:Int} (hb:0≤b) (h:b≤a):∀k,ipow b k≤ipow a k∧0≤ipow b k
 | 0=>⟨Int.le_refl _,by show(0:Int)≤1;decide⟩
 | k+1=>by
  obtain⟨h1,h2⟩:=zHP hb h k;rw [ipow,ipow];exact⟨Int.mul_le_mul h1 h hb (by omega),Int.mul_nonneg h2 hb⟩
theorem Lz.md (z:Lz p n W B c):∃m,Md p c m:=by
 have hc:=z.hc;have hp:=z.hp;have hw:=z.pow;have hn:=z.r.o.le
 by_cases h2:p=2
 ·exact⟨3,by omega,.inr (.inr ⟨rfl,by omega⟩),.inl (Nat.le_refl _),.inl (by omega)⟩
 ·by_cases h3:p=3
  ·exact⟨6,by omega,.inr (.inl ⟨rfl,by omega⟩),.inr (zFg hp h2),.inl (Nat.le_refl _)⟩
  ·refine⟨14,?_,.inl rfl,.inr (zFg hp h2),.inr (zE5 hp h2 h3)⟩
   have hn4:n≤4:=by
    rcases Nat.lt_or_ge 4 n with hx|hx
    ·exfalso
     have h5:(5:Int)≤p:=by rcases hp with h | h | h | h<;>omega
     have:=(zHP (a:=p) (b:=5) (by omega) h5 n).1
     have e:n=5∨n=6:=by omega
     rcases e with rfl|rfl
     ·have:ipow 5 5=3125:=by decide
      omega
     ·have:ipow 5 6=15625:=by decide
      omega
    ·exact hx
   rcases Nat.lt_or_ge 3 c with hx|hx
   ·exfalso
    obtain⟨u,hu⟩:=z.r.low 3;have hne:=z.r.cls.2 3 u hx hu;cases u with
    | nil=>exact hne rfl
    | cons v t=>
     have hd:=zHB z.r.o z.r.q hu v (by simp)
     cases hu with
     | succ h hcan=>
      have:=(hcan.base.led v (by simp)).2.1
      omega
   ·exact hx
def scl (m:Nat):Int:=if m=14 then 1728 else if m=6 then 16 else 1
theorem Md.scl (h:Md p c m) (hp:isP p):Cop p (scl m):=by
 have one:Cop p 1:=⟨1,0,by omega⟩
 have mul:∀{a b:Int},Cop p a→Cop p b→Cop p (a*b):=fun {a b} ⟨e,t,h⟩ ⟨f,s,g⟩=>⟨e*f,t+s+p*t*s,by grind⟩
 rcases h.cut with rfl|⟨rfl,_⟩|⟨rfl,_⟩
 ·rcases h.d12 with h | h
  ·omega
  ·exact mul (mul h.1 h.1) h.1
 ·rcases h.d2 with h | h
  ·omega
  ·exact mul (mul (mul h.1 h.1) h.1) h.1
 ·exact one
theorem scaled (o:OkW p n W) {q:Int} (hq:Cop p q) (hx:El p n x):Eqv p n W (at_ x) fun j=>q*at_ (dv p n W q x) j:=((Zm o hx).eqv hq).symm
theorem Lz.cx (z:Lz p n W B c) {x y w:List Int} (hx:El p n x) (hy:El p n y) (hw:El p n w):∃m X Y Z,Cx p n W B c m X Y Z∧EV p n W B X Y Z [scl m] x∧EV p n W B X Y Z [0,scl m] y∧EV p n W B X Y Z [0,0,scl m] w∧(m=14∨m=6∨m=3):=by
 obtain⟨m,md⟩:=z.md;have hq:=md.scl z.hp;have o:=z.r.o;refine⟨m,at_ (dv p n W (scl m) x),at_ (dv p n W (scl m) y),at_ (dv p n W (scl m) w),⟨z,md,z.r.all (dv_el o hx),z.r.all (dv_el o hy),z.r.all (dv_el o hw)⟩,⟨hx,(scaled o hq hx).trans (Eqv.of_eq fun t=>?_)⟩,⟨hy,(scaled o hq hy).trans (Eqv.of_eq fun t=>?_)⟩,⟨hw,(scaled o hq hw).trans (Eqv.of_eq fun t=>?_)⟩,by rcases md.cut with h | h | h<;>omega⟩
 all_goals simp [evv,ev1,ev2,ev3]
theorem Lz.assoc (z:Lz p n W B c) {x y w:List Int} (hx:El p n x) (hy:El p n y) (hw:El p n w):Go.Proofs.bch p n W B (Go.Proofs.bch p n W B x y) w=Go.Proofs.bch p n W B x (Go.Proofs.bch p n W B y w):=by
 obtain⟨m,X,Y,Z,k,ex,ey,ew,hm⟩:=z.cx hx hy hw;rcases hm with rfl|rfl|rfl<;>exact((ex.bch k ey (by decide)).bch k ew (by decide)).eq k (ex.bch k (ey.bch k ew (by decide)) (by decide)) (by decide)
end Go.Proofs
namespace Go.Proofs
open Go.Ab Go.Lie
variable {p:Int} {n m:Nat} {W:List (List Int)} {B:List (List (List Int))} {c:Nat} {X Y Z:Vec} {a b:List Int} {x y:List Int}
def kok2 (m:Nat) (a:List Int):Bool:=kdvd m a 2 && (decide (3<m) || keqm m a [])
def kok12 (m:Nat) (a:List Int):Bool:=kdvd m a 12 && (decide (6<m) || keqm m a [])
theorem EV.dv0 (k:Cx p n W B c m X Y Z) (h:EV p n W B X Y Z a x) {q:Int} (e:keqm m a []=true):EV p n W B X Y Z (kdiv a q) (dv p n W q x):=by
 have hm:m≤14:=by rcases k.md.cut with h | h | h<;>omega
 have h0:∀i,i<m→at_ a i=0:=fun i hi=>by simpa using zEC e i hi
 exact(h.divZ k h0).to k fun i hi=>by rw [zFl _ _ i (by omega),h0 i hi,Int.zero_ediv]
theorem EV.dv2 (k:Cx p n W B c m X Y Z) (h:EV p n W B X Y Z a x) (e:kok2 m a=true):EV p n W B X Y Z (kdiv a 2) (dv p n W 2 x):=by
 simp only [kok2,Bool.and_eq_true,Bool.or_eq_true,decide_eq_true_eq]at e
 rcases e.2 with h3|h3
 ·rcases k.md.d2 with hl | hc
  ·omega
  ·exact h.dvk k e.1 hc.1
 ·exact h.dv0 k h3
theorem EV.dv12 (k:Cx p n W B c m X Y Z) (h:EV p n W B X Y Z a x) (e:kok12 m a=true):EV p n W B X Y Z (kdiv a 12) (dv p n W 12 x):=by
 simp only [kok12,Bool.and_eq_true,Bool.or_eq_true,decide_eq_true_eq]at e
 rcases e.2 with h3|h3
 ·rcases k.md.d12 with hl | hc
  ·omega
  ·exact h.dvk k e.1 hc.1
 ·exact h.dv0 k h3
def kf3 (a b d:List Int):List Int:=kbch (kbch (kbch [] a) b) d
def kok3 (m:Nat) (a b d:List Int):Bool:=kokb m [] a && kokb m (kbch [] a) b && kokb m (kbch (kbch [] a) b) d
theorem EV.fold3 (k:Cx p n W B c m X Y Z) {d w:List Int} (hx:EV p n W B X Y Z a x) (hy:EV p n W B X Y Z b y) (hw:EV p n W B X Y Z d w) (e:kok3 m a b d=true):EV p n W B X Y Z (kf3 a b d) (fold p n W B [x,y,w]):=by
 simp only [kok3,Bool.and_eq_true]at e
 exact(((EV.zero k).bch k hx e.1.1).bch k hy e.1.2).bch k hw e.2
def kf4 (a b d e:List Int):List Int:=kbch (kf3 a b d) e
def kok4 (m:Nat) (a b d e:List Int):Bool:=kok3 m a b d && kokb m (kf3 a b d) e
theorem EV.fold4 (k:Cx p n W B c m X Y Z) {d w d' w':List Int} (hx:EV p n W B X Y Z a x) (hy:EV p n W B X Y Z b y) (hw:EV p n W B X Y Z d w) (hv:EV p n W B X Y Z d' w') (e:kok4 m a b d d'=true):EV p n W B X Y Z (kf4 a b d d') (fold p n W B [x,y,w,w']):=by
 simp only [kok4,Bool.and_eq_true]at e
 exact(EV.fold3 k hx hy hw e.1).bch k hv e.2
def kcomm (a b:List Int):List Int:=kf4 (kmul (-1) a) (kmul (-1) b) a b
def kokc (m:Nat) (a b:List Int):Bool:=kok4 m (kmul (-1) a) (kmul (-1) b) a b
theorem EV.comm (k:Cx p n W B c m X Y Z) (hx:EV p n W B X Y Z a x) (hy:EV p n W B X Y Z b y) (e:kokc m a b=true):EV p n W B X Y Z (kcomm a b) (comm p n W B x y):=EV.fold4 k (hx.mul k _) (hy.mul k _) hx hy e
def kconj (a b:List Int):List Int:=kf3 (kmul (-1) b) a b
theorem EV.conj (k:Cx p n W B c m X Y Z) (hx:EV p n W B X Y Z a x) (hy:EV p n W B X Y Z b y) (e:kok3 m (kmul (-1) b) a b=true):EV p n W B X Y Z (kconj a b) (conj p n W B x y):=EV.fold3 k (hy.mul k _) hx hy e
theorem Lz.inv_l (z:Lz p n W B c) (hx:El p n x):bch p n W B (lmul p W (-1) x) x=List.replicate n 0:=by
 obtain⟨m,X,Y,Z,k,ex,ey,ew,hm⟩:=z.cx hx hx hx;rcases hm with rfl|rfl|rfl<;>exact((ex.mul k _).bch k ex (by decide)).eq k (EV.zero k) (by decide)
theorem Lz.inv_r (z:Lz p n W B c) (hx:El p n x):bch p n W B x (lmul p W (-1) x)=List.replicate n 0:=by
 obtain⟨m,X,Y,Z,k,ex,ey,ew,hm⟩:=z.cx hx hx hx;rcases hm with rfl|rfl|rfl<;>exact(ex.bch k (ex.mul k _) (by decide)).eq k (EV.zero k) (by decide)
theorem Lz.one_l (z:Lz p n W B c) (hx:El p n x):bch p n W B (List.replicate n 0) x=x:=by
 obtain⟨m,X,Y,Z,k,ex,ey,ew,hm⟩:=z.cx hx hx hx;rcases hm with rfl|rfl|rfl<;>exact((EV.zero k).bch k ex (by decide)).eq k ex (by decide)
theorem Lz.one_r (z:Lz p n W B c) (hx:El p n x):bch p n W B x (List.replicate n 0)=x:=by
 obtain⟨m,X,Y,Z,k,ex,ey,ew,hm⟩:=z.cx hx hx hx;rcases hm with rfl|rfl|rfl<;>exact(ex.bch k (EV.zero k) (by decide)).eq k ex (by decide)
theorem Lz.sumP (z:Lz p n W B c) (hx:El p n x) (hy:El p n y):Go.Proofs.sumP p n W B x y=ladd p W x y:=by
 obtain⟨m,X,Y,Z,k,ex,ey,ew,hm⟩:=z.cx hx hy hx;have out:∀{e:List Int},keqm m (kcomm [scl m] [0,scl m]) e=true→True:=fun _=>trivial
 rcases hm with rfl|rfl|rfl<;>
  exact(((((EV.zero k).bch k ex (by decide)).bch k ey (by decide)).bch k (((ex.comm k ey (by decide)).dv2 k (by decide)).mul k (-1)) (by decide)).bch k (((ex.comm k ey (by decide)).comm k ex (by decide)).dv12 k (by decide)) (by decide)
   |>.bch k ((((ex.comm k ey (by decide)).comm k ey (by decide)).dv12 k (by decide)).mul k (-1)) (by decide)).eq k (ex.add k ey) (by decide)
theorem Lz.brkP (z:Lz p n W B c) (hx:El p n x) (hy:El p n y):Go.Proofs.brkP p n W B x y=br p W B n x y:=by
 obtain⟨m,X,Y,Z,k,ex,ey,ew,hm⟩:=z.cx hx hy hx;rcases hm with rfl|rfl|rfl<;>
  exact(EV.fold3 k (ex.comm k ey (by decide)) ((((ex.comm k ey (by decide)).comm k ex (by decide)).dv2 k (by decide)).mul k (-1)) ((((ex.comm k ey (by decide)).comm k ey (by decide)).dv2 k (by decide)).mul k (-1)) (by decide)).eq k (ex.brk k ey) (by decide)
end Go.Proofs
namespace Go.Proofs
open Go.Ab Go.Lie
variable {p:Int} {n m:Nat} {W:List (List Int)} {B:List (List (List Int))} {c:Nat} {X Y Z:Vec} {a b:List Int} {x y:List Int}
noncomputable def tsum (p:Int) (n:Nat) (W:List (List Int)) (B:List (List (List Int))) (y x:List Int):Nat→List Int
 | 0=>List.replicate n 0
 | j+1=>ladd p W (tsum p n W B y x j) (cterm p n W B y x j)
theorem zCE (o:OkW p n W) (q:OkB p n B) (hx:El p n x) (j:Nat):El p n (cterm p n W B y x j):=dv_el o (zPj o q hx j)
theorem zFI (o:OkW p n W) (q:OkB p n B) (hx:El p n x):∀j,El p n (tsum p n W B y x j)
 | 0=>ZV o.pr
 | j+1=>zJ o (zFI o q hx j) (zCE o q hx j)
theorem zL5 (o:OkW p n W) {s z:List Int} (hs:El p n s) (hz:El p n z) (h0:isZ z):ladd p W s z=s:=
 qR o (zJ o hs hz).1 hs.1 (zJ o hs hz).2 hs.2 ((qh o hs hz).trans (Eqv.of_eq fun t=>by rw [ZH h0,Int.add_zero]))
theorem EV.dv1 (k:Cx p n W B c m X Y Z) (h:EV p n W B X Y Z a x):EV p n W B X Y Z a (dv p n W 1 x):=by
 rw [←dv_of k.z.r.o ⟨1,0,by omega⟩ h.el h.el (Eqv.of_eq fun j=>Int.one_mul _)]
 exact h
theorem Lz.conj_sum3 (z:Lz p n W B c) (hx:El p n x) (hy:El p n y):tsum p n W B y x 3=Go.Proofs.conj p n W B x y:=by
 obtain⟨m,X,Y,Z,k,ex,ey,ew,hm⟩:=z.cx hx hy hx;rcases hm with rfl|rfl|rfl<;>
  exact((((EV.zero k).add k (ex.dv1 k)).add k ((ex.brk k ey).dv1 k)).add k (((ex.brk k ey).brk k ey).dv2 k (by decide))).eq k (ex.conj k ey (by decide)) (by decide)
theorem Lz.conj_move (z:Lz p n W B c) (hx:El p n x) (hy:El p n y):bch p n W B y (Go.Proofs.conj p n W B x y)=bch p n W B x y:=by
 obtain⟨m,X,Y,Z,k,ex,ey,ew,hm⟩:=z.cx hx hy hx;rcases hm with rfl|rfl|rfl<;>exact(ey.bch k (ex.conj k ey (by decide)) (by decide)).eq k (ex.bch k ey (by decide)) (by decide)
theorem Lz.conj_comm (z:Lz p n W B c) (hx:El p n x) (hy:El p n y):bch p n W B (lmul p W (-1) x) (Go.Proofs.conj p n W B x y)=Go.Proofs.comm p n W B x y:=by
 obtain⟨m,X,Y,Z,k,ex,ey,ew,hm⟩:=z.cx hx hy hx;rcases hm with rfl|rfl|rfl<;>exact((ex.mul k _).bch k (ex.conj k ey (by decide)) (by decide)).eq k (ex.comm k ey (by decide)) (by decide)
theorem Lz.pow_step (z:Lz p n W B c) (hx:El p n x) (j:Int):bch p n W B (lmul p W j x) x=lmul p W (j+1) x:=by
 have o:=z.r.o;have q:=z.r.q;have hj:=zJ o hx hx (k:=j) (m:=0);have hb:isZ (br p W B n (lmul p W j x) x):=by
  refine Zb o (br_el o q) ((Zp o q _ _).trans ((zAn o q z.r.nf _ (qP o hx j)).trans (Eqv.of_eq fun t=>?_)))
  rw [qM,zHo,Int.mul_zero]
 have ht:isZ (ZB p W B n (lmul p W j x) x):=by
  refine Zb o (Zd o q) ((qh o (br_el o q) (br_el o q)).trans (Eqv.of_eq fun t=>?_))
  have h2:isZ (br p W B n (lmul p W j x) (br p W B n (lmul p W j x) x)):=by
   refine Zb o (br_el o q) ((Zp o q _ _).trans (Eqv.of_eq fun t=>?_))
   rw [zX,Z4 (f':=fun j=>0*at_ x j) (g':=at_ (lmul p W j x)) (fun j=>by rw [ZH hb,Int.zero_mul]) (fun _=>rfl),qM,Int.zero_mul,Int.mul_zero]
  have h3:isZ (br p W B n x (lmul p W (-1) (br p W B n (lmul p W j x) x))):=by
   have hn:isZ (lmul p W (-1) (br p W B n (lmul p W j x) x)):=Zb o (zJ o (br_el o q) (br_el o q)) ((qP o (br_el o q) (-1)).trans (Eqv.of_eq fun t=>by rw [ZH hb,Int.mul_zero]))
   refine Zb o (br_el o q) ((Zp o q _ _).trans (Eqv.of_eq fun t=>?_))
   rw [zX,Z4 (f':=fun j=>0*at_ x j) (g':=at_ x) (fun j=>by rw [ZH hn,Int.zero_mul]) (fun _=>rfl),qM,Int.zero_mul,Int.mul_zero]
  rw [ZH h2,ZH h3]
  rfl
 unfold Go.Proofs.bch;have hd2:isZ (dv p n W 2 (br p W B n (lmul p W j x) x)):=by rw [(Zm o (br_el o q) (k:=2)).nil hb];exact hb
 have hd12:isZ (dv p n W 12 (ZB p W B n (lmul p W j x) x)):=by rw [(Zm o (Zd o q) (k:=12)).nil ht];exact ht
 have hs:El p n (ladd p W (lmul p W j x) x):=zJ o hj hx;rw [zL5 o hs (dv_el o (br_el o q)) hd2,zL5 o hs (dv_el o (Zd o q)) hd12];refine qR o hs.1 (zJ o hx hx).1 hs.2 (zJ o hx hx).2 ((qh o hj hx).trans (((qP o hx j).add (Eqv.refl _)).trans (Eqv.trans (Eqv.of_eq fun t=>?_) (qP o hx (j+1)).symm)))
 grind
end Go.Proofs
namespace Go.Grp
end Go.Grp
namespace Go.Proofs
open Go.Ab Go.Lie Go.Grp
variable {p:Int} {n c:Nat} {W:List (List Int)} {B:List (List (List Int))}
theorem Lz.gp (z:Lz p n W B c):Gp (El p n) (bch p n W B) (List.replicate n 0):=by
 have o:=z.r.o;have q:=z.r.q;refine⟨⟨⟨by simp,fun y hy=>by rw [List.eq_of_mem_replicate hy];have:=o.pr.1;omega⟩,fun ha hb=>Zq o q ha hb,fun ha hb hc=>z.assoc ha hb hc,fun ha=>z.one_l ha,fun ha=>z.one_r ha⟩,fun {a} ha=>⟨lmul p W (-1) a,zJ o ha ha,z.inv_r ha,z.inv_l ha⟩⟩
theorem Lz.pw_eq (z:Lz p n W B c) {x:List Int} (hx:El p n x):∀k:Nat,Grp.pw (bch p n W B) (List.replicate n 0) x k=lmul p W k x
 | 0=>by
  have o:=z.r.o;have hz:El p n (List.replicate n 0):=z.gp.one;have e:=(qP o hx ((0:Nat):Int));refine(qR o hz.1 (zJ o hx hx).1 hz.2 (zJ o hx hx).2 ?_);refine Eqv.trans ?_ e.symm;exact Eqv.of_eq fun j=>by show at_ (List.replicate n (0:Int)) j=_;rw [zo];simp
 | k+1=>by
  show bch p n W B (Grp.pw (bch p n W B) (List.replicate n 0) x k) x=_;rw [z.pw_eq hx k,z.pow_step hx]
  rfl
end Go.Proofs
namespace Go.Grp
end Go.Grp
namespace Go.Proofs
open Go.Ab Go.Lie Go.Grp
variable {p:Int} {n c a:Nat} {W:List (List Int)} {B:List (List (List Int))} {x y:List Int} {f g:Vec}
def Dzv (p:Int) (n:Nat) (W:List (List Int)) (a:Nat) (f:Vec):Prop:=∃v:List Int,v.length=n∧(∀j,j<a→at_ v j=0)∧Eqv p n W f (at_ v)
theorem Dzv.sub (a:Nat):IsSub p n W (Dzv p n W a) where
 zero:=⟨List.replicate n 0,by simp,fun j _=>zo n j,Eqv.of_eq fun j=>(zo n j).symm⟩
 add:=fun f g ⟨v,h1,h2,h3⟩ ⟨w,g1,g2,g3⟩=>⟨lmix 1 v 1 w,by rw [zQ (h1.trans g1.symm)];exact h1,fun j hj=>by rw [zm (h1.trans g1.symm),h2 j hj,g2 j hj];rfl,(h3.add g3).trans (Eqv.of_eq fun j=>by rw [zm (h1.trans g1.symm)];omega)⟩
 mul:=fun k f ⟨v,h1,h2,h3⟩=>⟨lmix k v 0 v,by rw [zQ rfl];exact h1,fun j hj=>by rw [zm rfl,h2 j hj];simp,(h3.mul k).trans (Eqv.of_eq fun j=>by rw [zm rfl];simp)⟩
 eqv:=fun f g e ⟨v,h1,h2,h3⟩=>⟨v,h1,h2,e.trans h3⟩
theorem Dzv.of (hx:El p n x) (h:∀j,j<a→at_ x j=0):Dzv p n W a (at_ x):=⟨x,hx.1,h,Eqv.refl _⟩
theorem Dzv.mono {b:Nat} (h:Dzv p n W a f) (hb:b≤a):Dzv p n W b f:=by
 obtain⟨v,h1,h2,h3⟩:=h;exact⟨v,h1,fun j hj=>h2 j (by omega),h3⟩
theorem zPf (q:OkB p n B) {v:List Int} (h:∀j,j<a→at_ v j=0) (g:Vec):(∀t,t<a+1→brv B n (at_ v) g t=0)∧∀t,n≤t→brv B n (at_ v) g t=0:=by
 refine⟨fun t ht=>qN n fun i hi=>qN _ fun j hj=>?_,fun t ht=>qN n fun i hi=>qN _ fun j hj=>?_⟩
 ·obtain⟨e1,e2⟩:=q.get hi hj
  rcases Nat.lt_or_ge (i+1+j) a with h1|h1
  ·rw [h i (by omega),h (i+1+j) h1];simp
  ·rw [e2 t (by omega),Int.mul_zero]
 ·obtain⟨e1,e2⟩:=q.get hi hj
  rw [e1.beyond ht,Int.mul_zero]
theorem Dzv.brL (o:OkW p n W) (q:OkB p n B) (nf:qz p W B n) (h:Dzv p n W a f) (g:Vec):Dzv p n W (a+1) (brv B n f g):=by
 obtain⟨v,h1,h2,h3⟩:=h;obtain⟨k1,k2⟩:=zPf q h2 g;refine⟨tab n (brv B n (at_ v) g),Ql _,fun j hj=>by rw [zGe _ k2];exact k1 j hj,(zAn o q nf g h3).trans (Eqv.of_eq fun j=>(zGe _ k2 j).symm)⟩
structure Fil (p:Int) (n:Nat) (W:List (List Int)) (B:List (List (List Int))) (S:Nat→Vec→Prop):Prop where
 sub:∀k,IsSub p n W (S k)
 down:∀k f,S (k+1) f→S k f
 brL:∀k f g,S k f→S (k+1) (brv B n f g)
theorem Fil.brR {S:Nat→Vec→Prop} (F:Fil p n W B S) (k:Nat) (f g:Vec) (h:S k g):S (k+1) (brv B n f g):=
 (F.sub _).eqv _ _ (Eqv.of_eq fun t=>zX f g t) ((F.sub _).mul _ _ (F.brL k g f h))
theorem Fil.br {S:Nat→Vec→Prop} (F:Fil p n W B S) (o:OkW p n W) (q:OkB p n B) {k:Nat} (h:S k (at_ x)∨S k (at_ y)):S (k+1) (at_ (br p W B n x y)):=
 (F.sub _).eqv _ _ (Zp o q x y) (by
  rcases h with h|h
  ·exact F.brL _ _ _ h
  ·exact F.brR _ _ _ h)
theorem Lz.fil (z:Lz p n W B c):Fil p n W B (Lw p n W B):=⟨fun k=>z.r.sub k,fun k f h=>z.r.down h,fun k f g h=>z.r.brk h g⟩
theorem Lz.filD (z:Lz p n W B c):Fil p n W B (Dzv p n W):=⟨fun k=>Dzv.sub k,fun k f h=>h.mono (by omega),fun k f g h=>h.brL z.r.o z.r.q z.r.nf g⟩
theorem Lz.bch_fil (z:Lz p n W B c) {S:Nat→Vec→Prop} (F:Fil p n W B S) (hx:El p n x) (hy:El p n y):∃u:Vec,(∀k,S k (at_ x)∨S k (at_ y)→S (k+1) u)∧Eqv p n W (at_ (bch p n W B x y)) fun j=>at_ x j+at_ y j+u j:=by
 have o:=z.r.o;have q:=z.r.q;have hb:El p n (Go.Proofs.br p W B n x y):=br_el o q;have h3:El p n (ZB p W B n x y):=Zd o q;refine⟨fun j=>at_ (dv p n W 2 (Go.Proofs.br p W B n x y)) j+at_ (dv p n W 12 (ZB p W B n x y)) j,fun k h=>?_,?_⟩
 ·have d1:S (k+1) (at_ (Go.Proofs.br p W B n x y)):=F.br o q h
  have d2:S (k+1) (at_ (ZB p W B n x y)):=by
   refine(F.sub _).eqv _ _ (qh o (br_el o q) (br_el o q)) ((F.sub _).add _ _ ?_ ?_)
   ·exact F.down _ _ (F.br o q (.inr d1))
   ·exact F.down _ _ (F.br o q (.inr ((F.sub _).eqv _ _ (qP o hb (-1)) ((F.sub _).mul _ _ d1))))
  exact(F.sub _).add _ _ (zE4 o (F.sub _) (Zm o hb) (z.d2 hx) d1) (zE4 o (F.sub _) (Zm o h3) (z.d12 hx) d2)
 ·refine(qh o (zJ o (zJ o hx hy) (dv_el o hb)) (dv_el o h3)).trans ?_
  refine((qh o (zJ o hx hy) (dv_el o hb)).add (Eqv.refl _)).trans ?_;refine(((qh o hx hy).add (Eqv.refl _)).add (Eqv.refl _)).trans (Eqv.of_eq fun j=>?_)
  show _=at_ x j+at_ y j+(_+_);omega
theorem zJb:Cop p 1:=⟨1,0,by omega⟩
theorem zFi (o:OkW p n W) (q:OkB p n B) (hx:El p n x) (hy:El p n y):El p n (conj p n W B x y):=Q6 o q (els3 (zAL o hy) hx hy)
theorem Lz.conj_fil (z:Lz p n W B c) {S:Nat→Vec→Prop} (F:Fil p n W B S) (hx:El p n x) (hy:El p n y):∃u:Vec,(∀k,S k (at_ x)∨S k (at_ y)→S (k+1) u)∧Eqv p n W (at_ (conj p n W B x y)) fun j=>at_ x j+u j:=by
 have o:=z.r.o;have q:=z.r.q;have hb:El p n (Go.Proofs.br p W B n x y):=br_el o q;have hb2:El p n (Go.Proofs.br p W B n (Go.Proofs.br p W B n x y) y):=br_el o q;refine⟨fun j=>at_ (dv p n W 1 (Go.Proofs.br p W B n x y)) j+at_ (dv p n W 2 (Go.Proofs.br p W B n (Go.Proofs.br p W B n x y) y)) j,fun k h=>?_,?_⟩
 ·have d1:S (k+1) (at_ (Go.Proofs.br p W B n x y)):=F.br o q h
  exact(F.sub _).add _ _ (zE4 o (F.sub _) (Zm o hb) (.inr zJb) d1) (zE4 o (F.sub _) (Zm o hb2) (z.d2 hb) (F.down _ _ (F.br o q (.inl d1))))
 ·rw [←z.conj_sum3 hx hy]
  have c0:El p n (cterm p n W B y x 0):=zCE o q hx 0;have c1:El p n (cterm p n W B y x 1):=zCE o q hx 1;have c2:El p n (cterm p n W B y x 2):=zCE o q hx 2;have t1:El p n (tsum p n W B y x 1):=zFI o q hx 1;have t2:El p n (tsum p n W B y x 2):=zFI o q hx 2;have e0:Eqv p n W (at_ (cterm p n W B y x 0)) (at_ x):=((Eqv.of_eq fun j=>by show _=1*at_ (dv p n W 1 x) j;rw [Int.one_mul];rfl).trans ((Zm o hx (k:=1)).eqv zJb))
  refine(qh o t2 c2).trans (((qh o t1 c1).add (Eqv.refl _)).trans ?_);refine((((qh o (ZV o.pr) c0).trans ((Eqv.of_eq (fun j=>zo n j)).add e0)).add (Eqv.refl _)).add (Eqv.refl _)).trans (Eqv.of_eq fun j=>?_)
  show 0+at_ x j+at_ (dv p n W 1 (Go.Proofs.br p W B n x y)) j+at_ (dv p n W 2 (Go.Proofs.br p W B n (Go.Proofs.br p W B n x y) y)) j=at_ x j+(_+_);omega
theorem Lz.comm_fil (z:Lz p n W B c) {S:Nat→Vec→Prop} (F:Fil p n W B S) (hx:El p n x) (hy:El p n y) {k:Nat} (h:S k (at_ x)):S (k+1) (at_ (Go.Proofs.comm p n W B x y)):=by
 have o:=z.r.o;have q:=z.r.q;have hn:=zAL o hx;have hc:=zFi o q hx hy;obtain⟨u,hu,e⟩:=z.conj_fil F hx hy;obtain⟨v,hv,e2⟩:=z.bch_fil F hn hc;rw [←z.conj_comm hx hy];have hk:S (k+1) v:=hv k (.inl ((F.sub _).eqv _ _ (qP o hx (-1)) ((F.sub _).mul _ _ h)));refine(F.sub _).eqv _ _ e2 ((F.sub _).eqv _ _ (((qP o hx (-1)).add e).add (Eqv.refl v)) ((F.sub _).eqv _ _ (Eqv.of_eq fun j=>?_) ((F.sub _).add _ _ (hu k (.inl h)) hk)))
 show -1*at_ x j+(at_ x j+u j)+v j=u j+v j;omega
theorem Lz.bch_eqv (z:Lz p n W B c) (hx:El p n x) (hy:El p n y):∃u:Vec,(∀a,Dzv p n W a (at_ x)∨Dzv p n W a (at_ y)→Dzv p n W (a+1) u)∧Eqv p n W (at_ (bch p n W B x y)) fun j=>at_ x j+at_ y j+u j:=z.bch_fil z.filD hx hy
theorem zEf {A B k p:Int} (h:A=B-k*p) (h0:0≤A∧A≤p-1):A=B % p:=by
 have:B=A+k*p:=by omega
 rw [this,Int.add_mul_emod_self_right,Int.emod_eq_of_lt h0.1 (by omega)]
theorem Lz.head (z:Lz p n W B c) (hx:El p n x) (hy:El p n y) (ha:a<n) (h:Dzv p n W a (at_ x)∨Dzv p n W a (at_ y)) (hs:∀j,j<a→0≤at_ x j+at_ y j∧at_ x j+at_ y j≤p-1):
  (∀j,j<a→at_ (bch p n W B x y) j=at_ x j+at_ y j)∧at_ (bch p n W B x y) a=(at_ x a+at_ y a) % p:=by
 have o:=z.r.o;obtain⟨u,hu,e⟩:=z.bch_eqv hx hy;obtain⟨v,h1,h2,h3⟩:=hu a h;have hb:El p n (bch p n W B x y):=Zq o z.r.q hx hy;have e2:=e.trans ((Eqv.refl (fun j=>at_ x j+at_ y j)).add h3)
 obtain⟨k1,k,k2⟩:=Zy o e2 ha (fun j hj=>hb.at0 o j) (fun j hj=>by rw [h2 j (by omega)];have:=hs j hj;omega)
 refine⟨fun j hj=>by rw [k1 j hj,h2 j (by omega)];omega,?_⟩
 rw [h2 a (by omega)]at k2
 have:=zEf k2 (hb.at0 o a)
 rw [this,Int.add_zero]
theorem Lz.headL (z:Lz p n W B c) (hx:El p n x) (hy:El p n y) (ha:a<n) (h:∀j,j<a→at_ x j=0):
  (∀j,j<a→at_ (bch p n W B x y) j=at_ y j)∧at_ (bch p n W B x y) a=(at_ x a+at_ y a) % p:=by
 obtain⟨h1,h2⟩:=z.head hx hy ha (.inl (Dzv.of hx h)) fun j hj=>by rw [h j hj];have:=hy.at0 z.r.o j;omega
 exact⟨fun j hj=>by rw [h1 j hj,h j hj];omega,h2⟩
theorem zNM (o:OkW p n W) (hx:El p n x) (ha:a<n) (h:∀j,j<a→at_ x j=0) (k:Int):(∀j,j<a→at_ (lmul p W k x) j=0)∧at_ (lmul p W k x) a=(k*at_ x a) % p:=by
 have h0:∀j,j<a→at_ (lmix k x 0 x) j=0:=fun j hj=>by rw [zm rfl,h j hj];simp
 have hl:(lmix k x 0 x).length=n:=by rw [zQ rfl];exact hx.1
 refine⟨zAK o hl (by omega) h0,?_⟩
 rw [zCl o hl ha h0,zm rfl];simp
theorem zAG {i:Nat} (hi:i<n):(∀j,j<i→at_ (unitL n i) j=0)∧at_ (unitL n i) i=1:=⟨fun j hj=>by rw [qL hi,if_neg (by omega)],by rw [qL hi,if_pos rfl]⟩
theorem zBG (o:OkW p n W) {i:Nat} (hi:i<n) (k:Int):El p n (lmul p W k (unitL n i))∧(∀j,j<i→at_ (lmul p W k (unitL n i)) j=0)∧at_ (lmul p W k (unitL n i)) i=k % p:=by
 have hu:=zT (n:=n) o.pr hi;obtain⟨h1,h2⟩:=zNM o hu hi (zAG hi).1 k;exact⟨zJ o hu hu,h1,by rw [h2,(zAG hi).2,Int.mul_one]⟩
theorem zJD (z:Lz p n W B c) (hx:El p n x):∀{i:Nat},i≤n→∀j,j<i→at_ (stG p n W B x i).2 j=0
 | 0,_,j,hj=>by omega
 | i+1,hi,j,hj=>by
  have o:=z.r.o;obtain⟨e1,e2,e3⟩:=zBG o (show i<n by omega) (-at_ (stG p n W B x i).2 i)
  have hr:=zAI o z.r.q hx (i:=i) (by omega)
  obtain⟨k1,k2⟩:=z.headL e1 hr (by omega) e2
  show at_ (bch p n W B _ _) j=0;rcases Nat.lt_or_ge j i with h|h
  ·rw [k1 j h];exact zJD z hx (by omega) j h
  ·have hj:j=i:=by omega
   subst hj;rw [k2,e3,Int.emod_add_emod,show -at_ (stG p n W B x j).2 j+at_ (stG p n W B x j).2 j=0 by omega,Int.zero_emod]
theorem zK1 {m:Nat}:∀{i:Nat},m<i→i≤n→at_ (stG p n W B x i).1 m=at_ (stG p n W B x m).2 m
 | 0,h,_=>by omega
 | i+1,h,hi=>by
  have hl:=ZM (p:=p) (n:=n) (W:=W) (B:=B) (x:=x) i;show at_ ((stG p n W B x i).1.set i _) m=_;rw [at_set (by omega)]
  split
  ·rename_i e;subst e;rfl
  ·exact zK1 (by omega) (by omega)
theorem zEK {m:Nat} (hm:m<n):at_ (vcG p n W B x) m=at_ (stG p n W B x m).2 m:=zK1 hm (Nat.le_refl _)
theorem zGY:(vcG p n W B x).length=n:=ZM n
theorem vc_el (z:Lz p n W B c) (hx:El p n x):El p n (vcG p n W B x):=by
 have o:=z.r.o;refine⟨zGY,fun y hy=>?_⟩
 obtain⟨i,hi,rfl⟩:=List.mem_iff_getElem.1 hy;have hin:i<n:=by rw [←zGY (p:=p) (n:=n) (W:=W) (B:=B) (x:=x)];exact hi
 rw [←at_eq hi,zEK hin];exact(zAI o z.r.q hx (by omega)).at0 o i
theorem zHC (o:OkW p n W) (hx:El p n x) (k l:Int):lmul p W k (lmul p W l x)=lmul p W (k*l) x:=by
 have hy:El p n (lmul p W l x):=zJ o hx hx;refine qR o (zJ o hy hy).1 (zJ o hx hx).1 (zJ o hy hy).2 (zJ o hx hx).2 ?_;refine(qP o hy k).trans (((qP o hx l).mul k).trans (Eqv.trans (Eqv.of_eq fun j=>?_) (qP o hx (k*l)).symm))
 rw [Int.mul_assoc]
theorem zLy (o:OkW p n W) (hx:El p n x):lmul p W 0 x=List.replicate n 0:=by
 refine qR o (zJ o hx hx).1 (by simp) (zJ o hx hx).2 (ZV o.pr).2 ?_
 exact(qP o hx 0).trans (Eqv.of_eq fun j=>by rw [zo];simp)
theorem zNQ (o:OkW p n W) (hx:El p n x):lmul p W 1 x=x:=by
 refine qR o (zJ o hx hx).1 hx.1 (zJ o hx hx).2 hx.2 ?_;exact(qP o hx 1).trans (Eqv.of_eq fun j=>by simp)
theorem zJE (z:Lz p n W B c) (hx:El p n x):∀{i:Nat},i≤n→bch p n W B (ptG p n W B (vcG p n W B x) i) (stG p n W B x i).2=x
 | 0,_=>z.one_l hx
 | i+1,hi=>by
  have o:=z.r.o;have q:=z.r.q;have hr:=zAI o q hx (i:=i) (by omega)
  have hp:=QP o q (vcG p n W B x) (i:=i) (by omega)
  have e1:=fun k=>(zBG o (show i<n by omega) k).1
  show bch p n W B (bch p n W B (ptG p n W B (vcG p n W B x) i) (lmul p W (at_ (vcG p n W B x) i) (unitL n i))) (bch p n W B (lmul p W (-at_ (stG p n W B x i).2 i) (unitL n i)) (stG p n W B x i).2)=x;rw [zEK (by omega),z.assoc hp (e1 _) (Zq o q (e1 _) hr),←z.assoc (e1 _) (e1 _) hr]
  have e:lmul p W (-at_ (stG p n W B x i).2 i) (unitL n i)=lmul p W (-1) (lmul p W (at_ (stG p n W B x i).2 i) (unitL n i)):=by
   rw [zHC o (zT o.pr (by omega))]
   congr 1;omega
  rw [e,z.inv_r (e1 _),z.one_l hr,zJE z hx (by omega)]
theorem pt_vc (z:Lz p n W B c) (hx:El p n x):ptG p n W B (vcG p n W B x) n=x:=by
 have o:=z.r.o;have h:=zJE z hx (Nat.le_refl n);have e:(stG p n W B x n).2=List.replicate n 0:=ZY (by rw [(zAI o z.r.q hx (Nat.le_refl n)).1];simp) fun j hj=>by
  rw [(zAI o z.r.q hx (Nat.le_refl n)).1]at hj
  rw [zJD z hx (Nat.le_refl n) j hj,zo]
 rw [e,z.one_r (QP o z.r.q _ (Nat.le_refl n))]at h
 exact h
theorem zFL (z:Lz p n W B c) (hx:El p n x) (h:∀j,j<a→at_ x j=0):∀{i:Nat},i≤n→i≤a→(stG p n W B x i).2=x
 | 0,_,_=>rfl
 | i+1,hi,ha=>by
  have ih:=zFL z hx h (i:=i) (by omega) (by omega)
  show bch p n W B (lmul p W (-at_ (stG p n W B x i).2 i) (unitL n i)) (stG p n W B x i).2=x;rw [ih,h i (by omega),Int.neg_zero,zLy z.r.o (zT z.r.o.pr (by omega)),z.one_l hx]
theorem zDE (z:Lz p n W B c) (hx:El p n x) (ha:a≤n) (h:∀j,j<a→at_ x j=0):(∀j,j<a→at_ (vcG p n W B x) j=0)∧(a<n→at_ (vcG p n W B x) a=at_ x a):=by
 refine⟨fun j hj=>by rw [zEK (by omega),zFL z hx h (by omega) (by omega)];exact h j hj,fun hn=>by rw [zEK hn,zFL z hx h (by omega) (Nat.le_refl _)]⟩
end Go.Proofs
namespace Go.Grp
end Go.Grp
namespace Go.Proofs
open Go.Ab Go.Lie Go.Grp
variable {p:Int} {n c a:Nat} {W:List (List Int)} {B:List (List (List Int))} {x y:List Int} {f g:Vec}
noncomputable def lgP (p:Int) (n:Nat) (W:List (List Int)) (B:List (List (List Int))) (i:Nat):List Int:=vcG p n W B (lmul p W p (unitL n i))
noncomputable def lgC (p:Int) (n:Nat) (W:List (List Int)) (B:List (List (List Int))) (i k:Nat):List Int:=vcG p n W B (conj p n W B (unitL n (i+(1+k))) (unitL n i))
noncomputable def lgPs (p:Int) (n:Nat) (W:List (List Int)) (B:List (List (List Int))) (m:Nat):List (List Int):=(List.range m).map (lgP p n W B)
noncomputable def lgR (p:Int) (n:Nat) (W:List (List Int)) (B:List (List (List Int))) (i m:Nat):List (List Int):=(List.range m).map (lgC p n W B i)
noncomputable def lgCs (p:Int) (n:Nat) (W:List (List Int)) (B:List (List (List Int))) (m:Nat):List (List (List Int)):=(List.range m).map fun i=>lgR p n W B i (n-1-i)
abbrev rO (p:Int) (n:Nat):List Int:=List.replicate n p
theorem rO_at {j:Nat} (h:j<n):at_ (rO p n) j=p:=by rw [at_eq (by simpa using h)];simp
theorem getD_map {α:Type} (f:Nat→α) (d:α) {m i:Nat} (h:i<m):((List.range m).map f).getD i d=f i:=by
 rw [List.getD_eq_getElem?_getD,List.getElem?_map,List.getElem?_range h];rfl
theorem zJS {j:Nat} (h:j<n):pvec (lgPs p n W B n) j=lgP p n W B j:=getD_map _ _ h
theorem zL0 {i:Nat} (h:i<n):(lgCs p n W B n).getD i []=lgR p n W B i (n-1-i):=getD_map _ _ h
theorem zFX {i j:Nat} (h:i<j) (hj:j<n):cvec (lgCs p n W B n) i j=vcG p n W B (conj p n W B (unitL n j) (unitL n i)):=by
 show((lgCs p n W B n).getD i []).getD (j-i-1) []=_
 rw [zL0 (by omega)]
 unfold lgR;rw [getD_map _ _ (by omega)]
 unfold lgC;rw [show i+(1+(j-i-1))=j by omega]
theorem tt_el {t:Nat} (o:OkW p n W):TT (rO p n) t x↔El p n x∧∀j,j<t→at_ x j=0:=by
 constructor
 ·intro h
  have hl:x.length=n:=by rw [h.len];simp
  refine⟨⟨hl,fun y hy=>?_⟩,h.zero⟩
  obtain⟨i,hi,rfl⟩:=List.mem_iff_getElem.1 hy
  have:=h.bd i (by simp;omega)
  rw [rO_at (by omega),at_eq hi]at this
  omega
 ·rintro ⟨h,h2⟩
  refine⟨by rw [h.1];simp,fun j hj=>?_,h2⟩
  rw [rO_at (by simpa using hj)]
  have:=h.at0 o j
  omega
noncomputable abbrev rPh (p:Int) (n:Nat) (W:List (List Int)) (B:List (List (List Int))) (x:List Int) (t d:Nat):List Int:=Grp.ph (bch p n W B) (List.replicate n 0) (unitL n) (nx x) t d
theorem Lz.pwu (z:Lz p n W B c) {i:Nat} (hi:i<n) (k:Nat):Grp.pw (bch p n W B) (List.replicate n 0) (unitL n i) k=lmul p W k (unitL n i):=z.pw_eq (zT z.r.o.pr hi) k
theorem nx_eq (h:0≤at_ x a):((nx x a:Nat):Int)=at_ x a:=Int.toNat_of_nonneg h
theorem zAy (z:Lz p n W B c) {x:List Int}:∀{d t:Nat},t+d≤n→El p n (rPh p n W B x t d)∧(∀j,j<t→at_ (rPh p n W B x t d) j=0)∧(0<d→at_ (rPh p n W B x t d) t=(nx x t:Int) % p)
 | 0,t,h=>⟨ZV z.r.o.pr,fun j _=>zo n j,fun h=>by omega⟩
 | d+1,t,h=>by
  obtain⟨h1,h2,h3⟩:=zAy z (x:=x) (d:=d) (t:=t+1) (by omega)
  have e:rPh p n W B x t (d+1)=bch p n W B (lmul p W (nx x t) (unitL n t)) (rPh p n W B x (t+1) d):=by
   show bch p n W B (Grp.pw _ _ _ _) _=_;rw [z.pwu (by omega)]
  obtain⟨e1,e2,e3⟩:=zBG z.r.o (show t<n by omega) (nx x t:Int)
  obtain⟨k1,k2⟩:=z.headL e1 h1 (by omega) e2
  rw [e];refine⟨Zq z.r.o z.r.q e1 h1,fun j hj=>by rw [k1 j hj];exact h2 j (by omega),fun _=>?_⟩
  rw [k2,e3,h2 t (by omega),Int.add_zero,Int.emod_emod_of_dvd _ (Int.dvd_refl p)]
theorem zGv (z:Lz p n W B c):∀{d t:Nat} {x y:List Int},t+d≤n→(∀j,t≤j→j<t+d→(0≤at_ x j∧at_ x j<p)∧(0≤at_ y j∧at_ y j<p))→rPh p n W B x t d=rPh p n W B y t d→∀j,t≤j→j<t+d→at_ x j=at_ y j
 | 0,t,x,y,h,hr,e,j,h1,h2=>by omega
 | d+1,t,x,y,h,hr,e,j,h1,h2=>by
  have a1:=(zAy z (x:=x) (d:=d+1) (t:=t) h).2.2 (by omega)
  have a2:=(zAy z (x:=y) (d:=d+1) (t:=t) h).2.2 (by omega)
  obtain⟨⟨r1,r2⟩,r3,r4⟩:=hr t (Nat.le_refl _) (by omega)
  have ht:at_ x t=at_ y t:=by
   rw [e,a2,nx_eq r1,nx_eq r3,Int.emod_eq_of_lt r1 r2,Int.emod_eq_of_lt r3 r4]at a1
   exact a1.symm
  rcases Nat.lt_or_ge t j with hj|hj
  ·have G:=z.gp
   refine zGv z (d:=d) (t:=t+1) (by omega) (fun j h1 h2=>hr j (by omega) (by omega)) ?_ j hj (by omega)
   have hu:=zT (n:=n) z.r.o.pr (show t<n by omega)
   refine G.cancel (G.pw hu (nx x t)) (zAy z (by omega)).1 (zAy z (by omega)).1 ?_
   have:nx x t=nx y t:=by unfold nx;rw [ht]
   show rPh p n W B x t (d+1)=_;rw [e,this];rfl
  ·have:j=t:=by omega
   subst this;exact ht
theorem pt_ph (z:Lz p n W B c) (hx:El p n x):rPh p n W B x 0 n=ptG p n W B x n:=by
 have G:=z.gp;have o:=z.r.o;have key:∀i,i≤n→bch p n W B (ptG p n W B x i) (rPh p n W B x i (n-i))=rPh p n W B x 0 n:=by
  intro i
  induction i with
  | zero=>intro _;exact z.one_l (zAy z (by omega)).1
  | succ i ih=>
   intro hi;rw [←ih (by omega)]
   have hu:=zT (n:=n) o.pr (show i<n by omega)
   have hp:=QP o z.r.q x (i:=i) (by omega)
   have e:rPh p n W B x i (n-i)=bch p n W B (lmul p W (nx x i) (unitL n i)) (rPh p n W B x (i+1) (n-(i+1))):=by
    rw [show n-i=(n-(i+1))+1 by omega]
    show bch p n W B (Grp.pw _ _ _ _) _=_;rw [z.pwu (by omega)]
   rw [e,←z.assoc hp (zJ o hu hu) (zAy z (by omega)).1,nx_eq (hx.at0 o i).1]
   rfl
 rw [←key n (Nat.le_refl _),Nat.sub_self];exact z.one_r (QP o z.r.q x (Nat.le_refl _))
theorem ph_vc (z:Lz p n W B c) (hx:El p n x) {t:Nat} (ht:t≤n) (h:∀j,j<t→at_ x j=0):rPh p n W B (vcG p n W B x) t (n-t)=x:=by
 have e:=pt_ph z (vc_el z hx);rw [pt_vc z hx]at e
 have k:=z.gp.toMon.ph_skip (h:=unitL n) (x:=nx (vcG p n W B x)) (d:=n-t) (k:=t) (t:=0) (fun j _ hj=>by unfold nx;rw [(zDE z hx ht h).1 j (by omega)];rfl) (fun j _ hj=>zT z.r.o.pr (by omega))
 rw [Nat.zero_add,show t+(n-t)=n by omega]at k
 exact k.symm.trans e
theorem zMS (z:Lz p n W B c) (hx:El p n x) (hy:El p n y) (ha:a<n) (h:∀j,j<a→at_ x j=0):(∀j,j<a→at_ (conj p n W B x y) j=0)∧at_ (conj p n W B x y) a=at_ x a:=by
 have o:=z.r.o;have hc:=zFi o z.r.q hx hy;obtain⟨u,hu,e⟩:=z.conj_fil z.filD hx hy;obtain⟨v,h1,h2,h3⟩:=hu a (.inl (Dzv.of hx h));have e2:=e.trans ((Eqv.refl (at_ x)).add h3);obtain⟨k1,k,k2⟩:=Zy o e2 ha (fun j hj=>hc.at0 o j) (fun j hj=>by rw [h2 j (by omega),h j hj];have:=o.pr.1;omega)
 refine⟨fun j hj=>by rw [k1 j hj,h2 j (by omega),h j hj];rfl,?_⟩
 have:=zEf k2 (hc.at0 o a)
 rw [this,h2 a (by omega),Int.add_zero,Int.emod_eq_of_lt (hx.at0 o a).1 (by have:=hx.at0 o a;omega)]
theorem vc_tt (z:Lz p n W B c) (hx:El p n x) {t:Nat} (ht:t≤n) (h:∀j,j<t→at_ x j=0):TT (rO p n) t (vcG p n W B x):=(tt_el z.r.o).2 ⟨vc_el z hx,(zDE z hx ht h).1⟩
theorem zCG (z:Lz p n W B c) {i j:Nat} (h:i<j) (hj:j<n):El p n (conj p n W B (unitL n j) (unitL n i))∧(∀k,k<j→at_ (conj p n W B (unitL n j) (unitL n i)) k=0)∧at_ (conj p n W B (unitL n j) (unitL n i)) j=1:=by
 have o:=z.r.o;have hi:=zT (n:=n) o.pr (show i<n by omega)
 have hu:=zT (n:=n) o.pr hj;obtain⟨h1,h2⟩:=zMS z hu hi hj (zAG hj).1;exact⟨zFi o z.r.q hu hi,h1,by rw [h2,(zAG hj).2]⟩
theorem zCf (z:Lz p n W B c) {j:Nat} (hj:j<n):El p n (lmul p W p (unitL n j))∧∀k,k<j+1→at_ (lmul p W p (unitL n j)) k=0:=by
 obtain⟨e1,e2,e3⟩:=zBG z.r.o hj p;refine⟨e1,fun k hk=>?_⟩
 rcases Nat.lt_or_ge k j with h|h
 ·exact e2 k h
 ·have:k=j:=by omega
  subst this;rw [e3,Int.emod_self]
theorem zON (z:Lz p n W B c) {t j:Nat} (h:t≤j) (hj:j<n):rPh p n W B (unitL n j) t (n-t)=unitL n j:=by
 have o:=z.r.o;have hu:=zT (n:=n) o.pr hj;have k:=z.gp.toMon.ph_skip (h:=unitL n) (x:=nx (unitL n j)) (d:=n-j) (k:=j-t) (t:=t) (fun k h1 h2=>by unfold nx;rw [qL hj,if_neg (by omega)];rfl) (fun k h1 h2=>zT o.pr (by omega))
 rw [show j-t+(n-j)=n-t by omega,show t+(j-t)=j by omega]at k
 refine k.trans ?_;have k2:=z.gp.toMon.ph_skip (h:=unitL n) (x:=nx (unitL n j)) (d:=0) (k:=n-(j+1)) (t:=j+1) (fun k h1 h2=>by unfold nx;rw [qL hj,if_neg (by omega)];rfl) (fun k h1 h2=>zT o.pr (by omega))
 simp only [Nat.add_zero]at k2
 rw [show n-j=(n-(j+1))+1 by omega]
 show bch p n W B (Grp.pw _ _ _ _) (Grp.ph _ _ _ _ _ _)=_;rw [k2];have e1:nx (unitL n j) j=1:=by unfold nx;rw [(zAG hj).2];rfl
 rw [e1,z.gp.toMon.pw_one hu];exact z.one_r hu
theorem zEi (z:Lz p n W B c):Shp (rO p n) (lgPs p n W B n) (lgCs p n W B n) where
 le:=by simp;exact z.r.o.le
 pr:=fun j hj=>by rw [rO_at (by simpa using hj)];exact z.r.o.pr
 pl:=by simp [lgPs]
 cl:=by simp [lgCs]
 pw:=fun i hi=>by
  have hi':i<n:=by simpa using hi
  rw [zJS hi'];exact vc_tt z (zCf z hi').1 (by omega) (zCf z hi').2
 row:=fun i hi=>by
  have hi':i<n:=by simpa using hi
  rw [zL0 hi'];simp [lgR]
 cj:=fun i j hij hj=>by
  have hj':j<n:=by simpa using hj
  rw [zFX hij hj'];obtain⟨h1,h2,h3⟩:=zCG z hij hj';exact vc_tt z h1 (by omega) fun k hk=>h2 k (by omega)
theorem zL1 (z:Lz p n W B c):Rel (rO p n) (lgPs p n W B n) (lgCs p n W B n) (El p n) (bch p n W B) (List.replicate n 0) (unitL n) 0 where
 mem:=fun j _ hj=>zT z.r.o.pr (by simpa using hj)
 pow:=fun j _ hj=>by
  have hj':j<n:=by simpa using hj
  obtain⟨h1,h2⟩:=zCf z hj';rw [zJS hj'];have e:=ph_vc z h1 (show j+1≤n by omega) h2
  have el:(rO p n).length=n:=by simp
  show _=Grp.ph _ _ _ _ ((rO p n).length-((rO p n).length-(j+1))) ((rO p n).length-(j+1));rw [el,show n-(n-(j+1))=j+1 by omega]
  refine Eq.trans ?_ e.symm;rw [z.pwu hj'];unfold nx;rw [rO_at hj',Int.toNat_of_nonneg (by have:=z.r.o.pr.1;omega)]
 cj:=fun j k _ hjk hk=>by
  have hk':k<n:=by simpa using hk
  have o:=z.r.o;obtain⟨h1,h2,h3⟩:=zCG z hjk hk';rw [zFX hjk hk'];have e:=ph_vc z h1 (show j+1≤n by omega) (fun i hi=>h2 i (by omega))
  have el:(rO p n).length=n:=by simp
  show _=bch p n W B _ (Grp.ph _ _ _ _ ((rO p n).length-((rO p n).length-(j+1))) ((rO p n).length-(j+1)));rw [el,show n-(n-(j+1))=j+1 by omega]
  refine Eq.trans ?_ (congrArg (bch p n W B (unitL n j)) e.symm);exact(z.conj_move (zT o.pr hk') (zT o.pr (by omega))).symm
theorem zOf (z:Lz p n W B c):Cons (rO p n) (lgPs p n W B n) (lgCs p n W B n):=by
 have el:(rO p n).length=n:=by simp
 have o:=z.r.o;have ph_eq:∀i x,Ph (rO p n) (bch p n W B) (List.replicate n 0) (unitL n) ((rO p n).length-(i+1)) x=Grp.ph (bch p n W B) (List.replicate n 0) (unitL n) (nx x) (n-(n-(i+1))) (n-(i+1)):=fun i x=>by
  show Grp.ph _ _ _ _ ((rO p n).length-((rO p n).length-(i+1))) ((rO p n).length-(i+1))=_;rw [el]
 refine Cons.of_rel (zEi z) z.gp (zL1 z) (fun i hi x y hx hy e=>?_) (fun i j x hij hj hx=>?_) (fun i j hij hj=>?_)
 ·have hi':i<n:=by simpa using hi
  rw [show(rO p n).length-1-i=(rO p n).length-(i+1) by omega,ph_eq,ph_eq,show n-(n-(i+1))=i+1 by omega]at e
  have hr:∀j,i+1≤j→j<i+1+(n-(i+1))→(0≤at_ x j∧at_ x j<p)∧(0≤at_ y j∧at_ y j<p):=fun j h1 h2=>by
   have b1:=hx.bd j (by rw [el];omega)
   have b2:=hy.bd j (by rw [el];omega)
   rw [rO_at (by omega)]at b1 b2
   exact⟨b1,b2⟩
  have:=zGv z (by omega) hr e
  exact hx.ext hy fun j h1 h2=>this j h1 (by omega)
 ·have hj':j<n:=by simpa using hj
  rw [show(rO p n).length-1-i=(rO p n).length-(i+1) by omega,ph_eq,ph_eq,show n-(n-(i+1))=i+1 by omega,show n-(n-(j+1))=j+1 by omega]
  have k:=z.gp.toMon.ph_skip (h:=unitL n) (x:=nx x) (d:=n-(j+1)) (k:=j-i) (t:=i+1) (fun k h1 h2=>by unfold nx;rw [hx.zero k (by omega)];rfl) (fun k h1 h2=>zT o.pr (by omega))
  rw [show j-i+(n-(j+1))=n-(i+1) by omega,show i+1+(j-i)=j+1 by omega]at k
  exact k
 ·have hj':j<n:=by simpa using hj
  rw [show(rO p n).length-1-i=(rO p n).length-(i+1) by omega,ph_eq,show n-(n-(i+1))=i+1 by omega]
  have eu:Grp.unit (rO p n) j=unitL n j:=by show(List.replicate (rO p n).length 0).set j 1=_;rw [el];rfl
  rw [eu];exact zON z (by omega) hj'
end Go.Proofs
namespace Go.Grp
end Go.Grp
namespace Go.Proofs
open Go.Ab Go.Lie Go.Grp
variable {p:Int} {n c a:Nat} {W:List (List Int)} {B:List (List (List Int))} {x y:List Int} {f g:Vec}
theorem zFH {O x:List Int} {t:Nat} (h:TT O t x):QQ O t x:=by
 refine⟨⟨h.len,fun j hj=>by have:=h.bd j (by rw [←h.len];exact hj);omega⟩,fun v hv=>?_⟩
 rw [List.mem_take_iff_getElem]at hv
 obtain⟨j,hj,rfl⟩:=hv;rw [←at_eq];exact h.zero j (by omega)
theorem zHO (p:Int):∀n,ipow p n=p ^ n
 | 0=>by simp [ipow]
 | n+1=>by rw [Int.pow_succ,←zHO p n];simp only [ipow];try rw [Int.mul_comm]
theorem zOe (z:Lz p n W B c):ZI (rO p n) (lgPs p n W B n) (lgCs p n W B n):=by
 have s:=zEi z;have el:(rO p n).length=n:=by simp
 refine⟨s.le,s.pl,s.cl,fun o ho=>by rw [List.eq_of_mem_replicate ho];exact z.hp,?_,fun i hi=>⟨zFH (s.pw i hi),s.row i hi,fun k hk=>?_⟩⟩
 ·rw [zFu fun o ho=>List.eq_of_mem_replicate ho,el,←zHO];exact z.pow
 ·rw [s.row i hi]at hk
  have:=s.cj i (i+1+k) (by omega) (by omega)
  unfold cvec at this
  rw [show i+1+k-i-1=k by omega]at this
  exact zFH this
theorem zPN (z:Lz p n W B c):isCen (rO p n) (lgCs p n W B n):=by
 have el:(rO p n).length=n:=by simp
 intro i hi;rw [el]at hi
 refine⟨by rw [rO_at hi,rO_at (by omega)],fun q hq=>?_⟩
 rw [el]at hq
 obtain⟨h1,h2,h3⟩:=zCG z (i:=i) (j:=i+(1+q)) (by omega) hq
 have e:=zFX (p:=p) (W:=W) (B:=B) (i:=i) (j:=i+(1+q)) (by omega) hq
 obtain⟨k1,k2⟩:=zDE z h1 (Nat.le_of_lt hq) h2;refine⟨?_,?_⟩
 ·rw [e,k2 hq,h3]
 ·rw [e];exact(zFH (vc_tt z h1 (Nat.le_of_lt hq) h2)).2
theorem lg_LG (z:Lz p n W B c):LG (rO p n) (lgPs p n W B n) (lgCs p n W B n):=⟨zOe z,zOf z,zPN z⟩
theorem gS_el (z:Lz p n W B c):gS (rO p n) x↔El p n x:=by
 rw [show gS (rO p n) x=TT (rO p n) 0 x from rfl,tt_el z.r.o]
 exact⟨fun h=>h.1,fun h=>⟨h,fun j hj=>by omega⟩⟩
theorem vc_pt (z:Lz p n W B c) (hx:El p n x):vcG p n W B (ptG p n W B x n)=x:=by
 have o:=z.r.o;have hp:=QP o z.r.q x (Nat.le_refl n);have hv:=vc_el z hp;refine zMN hv hx fun j hj=>?_
 refine zGv z (d:=n) (t:=0) (x:=vcG p n W B (ptG p n W B x n)) (y:=x) (by omega) (fun j _ _=>⟨by have:=hv.at0 o j;omega,by have:=hx.at0 o j;omega⟩) ?_ j (Nat.zero_le _) (by omega)
 rw [pt_ph z hv,pt_vc z hp,pt_ph z hx]
theorem zLK (z:Lz p n W B c) (hx:El p n x) (hy:El p n y) (h:ptG p n W B x n=ptG p n W B y n):x=y:=by rw [←vc_pt z hx,h,vc_pt z hy]
noncomputable abbrev rm (p:Int) (n:Nat) (W:List (List Int)) (B:List (List (List Int))):List Int→List Int→List Int:=gm (rO p n) (lgPs p n W B n) (lgCs p n W B n)
theorem zLJ (z:Lz p n W B c) (hx:El p n x) (hy:El p n y):El p n (rm p n W B x y)∧ptG p n W B (rm p n W B x y) n=bch p n W B (ptG p n W B x n) (ptG p n W B y n):=by
 have el:(rO p n).length=n:=by simp
 have G:=(lg_LG z).F.g;have hm:=(gS_el z).1 (G.cl ((gS_el z).2 hx) ((gS_el z).2 hy));refine⟨hm,?_⟩;have tt:∀{x},El p n x→TT (rO p n) ((rO p n).length-(rO p n).length) x:=fun {x} h=>by rw [Nat.sub_self];exact(gS_el z).2 h
 have d:=dyck (zEi z) z.gp.toMon (zL1 z) (d:=(rO p n).length) (by omega) (tt hx) (tt hy)
 have e:∀x,Ph (rO p n) (bch p n W B) (List.replicate n 0) (unitL n) (rO p n).length x=rPh p n W B x 0 n:=fun x=>by show Grp.ph _ _ _ _ ((rO p n).length-(rO p n).length) (rO p n).length=_;rw [el,Nat.sub_self]
 rw [e,e,e,pt_ph z hx,pt_ph z hy]at d
 rw [←d];exact(pt_ph z hm).symm
theorem zKy (z:Lz p n W B c) (hx:El p n x) (hy:El p n y):vcG p n W B (bch p n W B x y)=rm p n W B (vcG p n W B x) (vcG p n W B y):=by
 obtain⟨h1,h2⟩:=zLJ z (vc_el z hx) (vc_el z hy);refine zLK z (vc_el z (Zq z.r.o z.r.q hx hy)) h1 ?_;rw [h2,pt_vc z hx,pt_vc z hy,pt_vc z (Zq z.r.o z.r.q hx hy)]
theorem pt_el (z:Lz p n W B c) (x:List Int):El p n (ptG p n W B x n):=QP z.r.o z.r.q x (Nat.le_refl n)
theorem zv_rO:zv (rO p n)=List.replicate n 0:=by show List.replicate (rO p n).length 0=_;simp
theorem zFR (z:Lz p n W B c):ptG p n W B (zv (rO p n)) n=List.replicate n 0:=by
 have o:=z.r.o;rw [zv_rO,←pt_ph z (ZV o.pr)]
 have:=z.gp.toMon.ph_skip (h:=unitL n) (x:=nx (List.replicate n (0:Int))) (d:=0) (k:=n) (t:=0) (fun j _ hj=>by unfold nx;rw [zo];rfl) (fun j h1 h2=>by omega)
 simp only [Nat.add_zero]at this
 exact this
theorem zJA (z:Lz p n W B c):vcG p n W B (List.replicate n 0)=zv (rO p n):=by
 rw [←zFR z,vc_pt z (by rw [zv_rO];exact ZV z.r.o.pr)]
end Go.Proofs
namespace Go.Proofs
open Go.Ab Go.Lie
variable {σ H h:PHeap} {K:PV→PHeap→Prop} {n c:Nat} {p:Int} {W:List (List Int)} {B:List (List (List Int))} {vP vB:PV} {s:Nat}
theorem zKw {P:Program} {c:IC} {Q:Exit→PEnv→PHeap→Prop} {e:PEnv} {h:PHeap} (id:Nat) (J:PEnv→PHeap→Prop) (h1:∀Q':Exit→PEnv→PHeap→Prop,(∀e h,J e h→Q' (.exit id) e h)→vp P c Q' e h) (h2:∀e h,J e h→Q (.exit id) e h):vp P c Q e h:=h1 Q h2
theorem zCM (z:Lz p n W B c) (hs:PtrR σ s p vP vB) (hR:IsR vP vB W B)
  (hk:∀vO vQ vC t,FI vO (List.replicate n p)→FII vQ (lgPs p n W B n)→FIII vC (lgCs p n W B n)→Own σ.top t (.agg [vO,vQ,vC])→σ.top≤t→K (.agg [vO,vQ,vC]) (σ.up t)):
  zA Tryz.prog 94 [.ptr s 0] σ K:=by
 have o:=z.r.o;have q:=z.r.q;have hn6:=o.le;have hWl:=o.len;have hsl:=hs.lt;have hpb:=z.hp.bd;have hR0:=hR;obtain⟨⟨wp,ap,rp,rfl,hrp⟩,hB⟩:=hR;have e1:σ.rd1 s 1=some (.fz wp ap W.length rp):=by rw [zI hs.obj];rfl
 have e0:σ.rd1 s 0=some (.int .i64 p):=by rw [zI hs.obj];rfl
 have hn1:¬s=σ.next:=by omega
 refine zA.gh ?_;refine zL mix Tryz.func94 cf94 rfl ?_;dsimp only [if94,eI,nI,qD,eD,mI0,kI0,lI0,LI0,fI0,xI0,bI0,cI0,sI0,pI0,C1,C2,mD0,lD0,fD0,xD0,pD0,R0,S0];simp only [pwA,seval,-iQ0,e0,e1,hn1,hWl];refine zA.frz (s:=σ.next+1) (cs:=pis [p]) (by simp only [pwA,seval,-iQ0];rfl) (zN _ _) fun o1=>?_
 simp only [sbs,Go.Ab.sb,capOK,and_self,if_true,decide_true,Nat.le_refl];refine zMY rfl hn6 fun vr hr=>?_
 simp only [pwA,seval,-iQ0];have hO3:∀{g:PHeap} {u0 u1 u2:PV},Keep (σ.new [.fz true .nils 0 [],.fz true .nils 0 [],.fz true .nils 0 []]) g→u0.one=true→u1.one=true→u2.one=true→g.wr σ.next 0 [u0,u1,u2]=some (g.set σ.next [u0,u1,u2])∧(g.set σ.next [u0,u1,u2]).rd σ.next 0 3=some [u0,u1,u2]:=fun {g u0 u1 u2} k z0 z1 z2=>by
  have hres:g.obj σ.next=some [.fz true .nils 0 [],.fz true .nils 0 [],.fz true .nils 0 []]:=by rw [k.obj _ (Nat.lt_succ_self _),zM,if_pos rfl]
  exact⟨by rw [zn hres,if_pos ⟨by simp,by simp only [List.all_cons,List.all_nil,z0,z1,z2];rfl⟩];rfl,by rw [qx,if_pos rfl];rfl⟩
 generalize hS:((σ.new [.fz true .nils 0 [],.fz true .nils 0 [],.fz true .nils 0 []]).new [.int .i64 p]).kill (σ.next+1)=S;have hSn:S.next=σ.next+2:=by rw [←hS];rfl
 have hkS:Keep (σ.new [.fz true .nils 0 [],.fz true .nils 0 [],.fz true .nils 0 []]) S:=by rw [←hS];exact(zC _ _).kill (Nat.le_refl _)
 have hk0:=zC σ [.fz true .nils 0 [],.fz true .nils 0 [],.fz true .nils 0 []];rcases Nat.eq_zero_or_pos n with hn0|hpos
 ·as_aux_lemma=>
  subst hn0;refine zCY hr (fun h1 k1=>?_) fun h1 cap hc k1 ho hlt=>?_
  ·have k2:=(hkS.trans k1).new [.fz true .nils 0 [],.fz true .nils 0 [],.fz true .nils 0 []]
   obtain⟨g1,g2⟩:=hO3 k2 (u0:=.fz true .nils 0 []) (u1:=.fz true .nils 0 []) (u2:=.fz true .nils 0 []) rfl rfl rfl;have g3:(h1.new [.fz true .nils 0 [],.fz true .nils 0 [],.fz true .nils 0 []]).rd h1.next 0 3=some [.fz true .nils 0 [],.fz true .nils 0 [],.fz true .nils 0 []]:=by simp only [pwA,seval,-iQ0]
   simp only [pwA,seval,-iQ0];refine zG (fun m us h'=>m=0∧us=[.ptr s 0,.ptr σ.next 0,.int .i64 (0:Nat),.ptr h1.next 0,.int .i64 (0:Nat),.int .i64 (0:Nat)]∧h'=h1.new [.fz true .nils 0 [],.fz true .nils 0 [],.fz true .nils 0 []]) 0 ⟨rfl,rfl,rfl⟩ ?_
   rintro m us h' ⟨rfl,rfl,rfl⟩
   generalize hg:h1.new [.fz true .nils 0 [],.fz true .nils 0 [],.fz true .nils 0 []]=g at *
   simp only [pwA,seval,-iQ0,g1,g2,g3];exact Gh.treeO (t:=.agg [.nil,.nil,.nil]) ((hk0.trans k2).set (Nat.le_refl _) _) ⟨trivial,trivial,trivial,trivial⟩ List.nodup_nil fun a T h1 h2=>hk _ _ _ T ⟨true,.nils,rfl⟩ ⟨true,.nils,[],rfl,All2.nil _⟩ ⟨true,.nils,[],rfl,All2.nil _⟩ h1 h2
  ·have k2:=(hkS.trans k1).new [.sl (S.next+1) 0 0 cap,.fz true .nils 0 [],.fz true .nils 0 []]
   obtain⟨g1,g2⟩:=hO3 k2 (u0:=.sl (S.next+1) 0 0 cap) (u1:=.fz true .nils 0 []) (u2:=.fz true .nils 0 []) rfl rfl rfl;have g3:(h1.new [.sl (S.next+1) 0 0 cap,.fz true .nils 0 [],.fz true .nils 0 []]).rd h1.next 0 3=some [.sl (S.next+1) 0 0 cap,.fz true .nils 0 [],.fz true .nils 0 []]:=by simp only [pwA,seval,-iQ0]
   simp only [pwA,seval,-iQ0];refine zG (fun m us h'=>m=0∧us=[.ptr s 0,.ptr σ.next 0,.int .i64 (0:Nat),.ptr h1.next 0,.int .i64 (0:Nat),.int .i64 (0:Nat)]∧h'=h1.new [.sl (S.next+1) 0 0 cap,.fz true .nils 0 [],.fz true .nils 0 []]) 0 ⟨rfl,rfl,rfl⟩ ?_
   rintro m us h' ⟨rfl,rfl,rfl⟩
   generalize hg:h1.new [.sl (S.next+1) 0 0 cap,.fz true .nils 0 [],.fz true .nils 0 []]=g at *
   simp only [pwA,seval,-iQ0,g1,g2,g3];refine Gh.treeO (t:=.agg [TR.row (S.next+1) cap [],.nil,.nil]) ((hk0.trans k2).set (Nat.le_refl _) _) ⟨TR.row_ok hc ?_ (by omega) ?_,trivial,trivial,trivial⟩ (by simp [TR.slots,TR.slotss,TR.row]) fun a T h1 h2=>hk _ _ _ T TR.row_FI ⟨true,.nils,[],rfl,All2.nil _⟩ ⟨true,.nils,[],rfl,All2.nil _⟩ h1 h2
   ·rw [zH,if_neg (by omega),←hg,zM,if_neg (by omega)];exact ho
   ·rw [←hg];show S.next+1<h1.next+1;omega
 refine zCS (n:=n) hr (by simp) hpos hn6 fun capO vQ vC pc ls h1 hcO ti hpl hll hsh=>?_
 obtain⟨sP,capP,rfl,cP,oP,lP,bP,xP⟩:=ti.accP.pos (by omega)
 obtain⟨sC,capC,rfl,cC,oC,lC,bC,xC⟩:=ti.accC.pos (by omega)
 rw [hpl]at cP
 rw [hll]at cC
 have tiO:=ti.oO;have tiOb:=ti.sOb;have b:BF (σ.new [.fz true .nils 0 [],.fz true .nils 0 [],.fz true .nils 0 []]) (h1.new [.sl (S.next+1) 0 n capO,.sl sP 0 n capP,.sl sC 0 n capC]) h1.next (S.next+1) sP sC ls:=by
  have hb:∀s,s∈[h1.next,S.next+1,sP,sC]++LS.slots ls→S.next≤s∧s<h1.next+1:=fun s hs=>by
   simp only [List.cons_append,List.nil_append,List.mem_cons]at hs
   have:=ti.keep.next
   rcases hs with rfl|rfl|rfl|rfl|hs
   ·omega
   ·omega
   ·omega
   ·omega
   ·have:=ti.lt hs;omega
  refine⟨fun s hs=>⟨by have:=(hb s hs).1;show σ.next+1≤s;omega,(hb s hs).2⟩,?_⟩
  simp only [List.cons_append,List.nil_append,List.nodup_cons,List.mem_cons,not_or];refine⟨⟨by omega,by omega,by omega,fun hm=>by have:=(ti.lt hm).2;omega⟩,⟨fun e=>ti.neP (S.next+1) (.inr (.inr rfl)) 0 _ capP (by rw [←e]),fun e=>ti.neC (S.next+1) (.inr (.inr rfl)) 0 _ capC (by rw [←e]),ti.neL.2⟩,⟨fun e=>ti.nePC sP 0 _ capP rfl 0 _ capC (by rw [e]),fun hm=>ti.neP sP (.inl hm) 0 _ capP rfl⟩,fun hm=>ti.neC sC (.inl hm) 0 _ capC rfl,ti.nd⟩
 have li:LI (σ.new [.fz true .nils 0 [],.fz true .nils 0 [],.fz true .nils 0 []]) (h1.new [.sl (S.next+1) 0 n capO,.sl sP 0 n capP,.sl sC 0 n capC]) (h1.new [.sl (S.next+1) 0 n capO,.sl sP 0 n capP,.sl sC 0 n capC]) h1.next (S.next+1) sP sC (.sl (S.next+1) 0 n capO) capP capC n (pis (List.replicate n p)) pc ls [] [] []:=by
  refine⟨(hkS.trans ti.keep).new _,Nat.le_refl _,by rw [zM,if_pos rfl],by rw [zM,if_neg (by omega)];exact tiO,by rw [zM,if_neg (by omega)];simpa using oP,by rw [zM,if_neg (by omega)];exact oC,fun j q hq=>?_,fun q hq=>(by simp at hq),by simp [qX]⟩
  have:=(ti.ok q (List.mem_of_getElem? hq))
  rw [zM,if_neg (by have:=this.2.2.2;omega),this.2.1]
  unfold cont
  simp
 rw [hpl,hll];simp only [pwA,seval,-iQ0];clear oP oC lP lC bP bC tiO tiOb;generalize h1.new [.sl (S.next+1) 0 n capO,.sl sP 0 n capP,.sl sC 0 n capC]=H at *
 generalize h1.next=tp at *
 refine zG (fun m us h=>∃(i:Nat) (rows:List SR) (Rs:List (List SR)),i≤n∧m=n-i∧us=[.ptr s 0,.ptr σ.next 0,.int .i64 n,.ptr tp 0,.int .i64 n,.int .i64 i]∧LI (σ.new [.fz true .nils 0 [],.fz true .nils 0 [],.fz true .nils 0 []]) H h tp (S.next+1) sP sC (.sl (S.next+1) 0 n capO) capP capC n (pis (List.replicate n p)) pc ls rows Rs []∧rows.length=i∧Rs.length=i∧rows.map SR.x=lgPs p n W B i∧Rs.map (fun R=>R.map SR.x)=lgCs p n W B i) n ⟨0,[],[],by omega,by omega,rfl,li,rfl,rfl,rfl,rfl⟩ ?_
 as_aux_lemma=>
 rintro m us h ⟨i,rows,Rs,hi,rfl,rfl,a,hrl,hRl,hrv,hRv⟩
 have hsT:PtrR (σ.new [.fz true .nils 0 [],.fz true .nils 0 [],.fz true .nils 0 []]) s p (.fz wp ap W.length rp) vB:=hs.new _;have hsp:=hsT.keep a.keep;have p0:h.rd1 s 0=some (.int .i64 p):=by rw [zI hsp.obj];rfl
 have f1:h.rd1 tp 1=some (.sl sP 0 n capP):=by rw [zI a.tpo];rfl
 have f2:h.rd1 tp 2=some (.sl sC 0 n capC):=by rw [zI a.tpo];rfl
 have f3:h.rd tp 0 3=some [.sl (S.next+1) 0 n capO,.sl sP 0 n capP,.sl sC 0 n capC]:=by rw [zi a.tpo];rfl
 simp only [pwA,seval,-iQ0];refine iteI (fun hlt=>?_) fun hge=>?_
 rotate_left
 ·as_aux_lemma=>
  have hie:i=n:=by omega
  rw [hie]at hrl hRl hrv hRv
  obtain⟨g1,g2⟩:=hO3 a.keep (u0:=.sl (S.next+1) 0 n capO) (u1:=.sl sP 0 n capP) (u2:=.sl sC 0 n capC) rfl rfl rfl;simp only [pwA,seval,-iQ0,f3,g1,g2];have hf:Fits ls Rs:=by
   refine⟨by omega,fun j o' R ho hR=>?_⟩
   obtain⟨hj,hje⟩:=List.getElem?_eq_some_iff.1 ho;obtain⟨hj2,hje2⟩:=List.getElem?_eq_some_iff.1 hR;have hRl2:R.length=n-1-j:=by
    have e:=congrArg (fun L=>L[j]?) hRv
    simp only [List.getElem?_map,hR,Option.map_some]at e
    unfold lgCs at e
    rw [List.getElem?_map,List.getElem?_range (by omega)]at e
    simp only [Option.map_some,Option.some.injEq]at e
    have:=congrArg List.length e
    simpa [lgR]using this
   obtain⟨s1,s2⟩:=hsh j hj;rw [hje]at s1 s2
   by_cases e:j+1=n
   ·rw [s1 e];exact List.eq_nil_of_length_eq_zero (by omega)
   ·obtain⟨q,e1,e2⟩:=s2 (by omega)
    rw [e1];show R.length=_;omega
  have fin:=LI.fin (K:=K) (Y:=[.sl (S.next+1) 0 n capO,.sl sP 0 n capP,.sl sC 0 n capC]) (res:=σ.next) (capO:=capO) (capP:=capP) (capC:=capC) hk0 ⟨Nat.le_refl _,Nat.lt_succ_self _⟩ (by rw [List.length_replicate];exact hcO) (by rw [hrl];exact cP) (by rw [hRl];exact cC) (by omega) (fun q hq=>(ti.ok q hq).1) b a hf fun vO vQ vC t h1 h2 h3 h4 h5=>hk vO vQ vC t h1 (by rw [←hrv];exact h2) (by rw [←hRv];exact h3) h4 h5
  rw [List.length_replicate,hrl,hRl]at fin
  exact fin
 have hlt':i<n:=by omega
 have hu:=zT (n:=n) o.pr hlt';have hne:¬tp=h.next:=by have:=(b.b tp (by simp)).2;have:=a.nx;omega
 simp only [pwA,seval,-iQ0];refine z8 (by omega) hlt' fun a1=>?_
 simp only [pwA,seval,-iQ0,f1,p0,hWl];refine zAB o hsp hR0.P hu ⟨true,a1,by rw [hu.1]⟩ (k:=p) (by omega) fun v1 fv1=>?_
 have hel:=zJ o (k:=p) (m:=0) hu hu;simp only [pwA,seval,-iQ0,f1];refine QV z hsp hR0 (x:=lmul p W p (unitL n i)) hel fv1 fun cap1 hc1=>?_
 have hxl:(vcG p n W B (lmul p W p (unitL n i))).length=n:=ZM n;have hxv:vcG p n W B (lmul p W p (unitL n i))=lgP p n W B i:=rfl;rw [hxv]at hxl ⊢
 have a9:=a;obtain⟨u1,a2⟩:=LI.putP b a (x:=lgP p n W B i) (cap:=cap1) (by rw [hxl];exact hc1) (by omega)
 rw [hrl,hxl]at u1
 rw [hrl]at a2
 have f1n:(h.new (pis (lgP p n W B i))).rd1 tp 1=some (.sl sP 0 n capP):=by rw [zI (a.keepI b (zC h _)).tpo];rfl
 generalize h.new (pis (lgP p n W B i))=hN at *
 have hv2:(rows++[(⟨h.next,cap1,lgP p n W B i⟩:SR)]).map SR.x=lgPs p n W B (i+1):=by
  rw [List.map_append,hrv];unfold lgPs;rw [List.range_succ,List.map_append];rfl
 have hr2:(rows++[(⟨h.next,cap1,lgP p n W B i⟩:SR)]).length=i+1:=by rw [List.length_append,hrl];rfl
 generalize rows++[(⟨h.next,cap1,lgP p n W B i⟩:SR)]=rows2 at *
 clear f1 f2 f3 p0 hrv hrl a9;generalize hN.set sP (rows2.map SR.pv++pc.drop (i+1))=h0 at *
 have lC:∀{g:PHeap} {cur:List SR},LI (σ.new [.fz true .nils 0 [],.fz true .nils 0 [],.fz true .nils 0 []]) H g tp (S.next+1) sP sC (.sl (S.next+1) 0 n capO) capP capC n (pis (List.replicate n p)) pc ls rows2 Rs cur→g.rd1 tp 2=some (.sl sC 0 n capC)∧g.rd1 sC i=some (LS.pvo (ls[i]'(by omega)))∧g.rd1 s 0=some (.int .i64 p):=fun {g cur} l=>by
  refine⟨by rw [zI l.tpo];rfl,?_,by rw [zI (hsT.keep l.keep).obj];rfl⟩
  rw [zI l.oC,List.getElem?_map,List.getElem?_eq_getElem (by omega)];rfl
 obtain⟨g2,gC,gp⟩:=lC a2;obtain⟨s1,s2⟩:=hsh i (by omega)
 have hpl:pLen (LS.pvo (ls[i]'(by omega)))=some (.int .i64 ((n-1-i:Nat):Int)):=by
  by_cases e:i+1=n
  ·rw [s1 e,show n-1-i=0 by omega];rfl
  ·obtain⟨q',e1,e2⟩:=s2 (by omega)
   rw [e1,←e2];rfl
 simp only [pwA,seval,-iQ0,f1n,hlt',u1,g2,gC,hpl];clear u1 f1n;refine zKw 2 (fun e h=>∃(cur:List SR) (b0:PV),e=PEnv.mk [0,2,3,4,5,6,21,22,46,47,48] [.ptr s 0,.ptr σ.next 0,.int .i64 n,.ptr tp 0,.int .i64 i,.fz true a1 n (pis (unitL n i)),.int .i64 n,.int .i64 i,.int .i64 ((n-1-i:Nat):Int),.int .i64 ((n-1-i:Nat):Int),b0]∧LI (σ.new [.fz true .nils 0 [],.fz true .nils 0 [],.fz true .nils 0 []]) H h tp (S.next+1) sP sC (.sl (S.next+1) 0 n capO) capP capC n (pis (List.replicate n p)) pc ls rows2 Rs cur∧cur.map SR.x=lgR p n W B i (n-1-i)) (fun Q hQ=>?_) ?_
 rotate_left
 ·as_aux_lemma=>
  rintro e h9 ⟨cur,b0,rfl,l,hcv⟩
  have hcl:cur.length=n-1-i:=by have:=congrArg List.length hcv;simpa [lgR]using this
  have l2:=l.close (fun q' hq'=>by
   rw [hRl]at hq'
   obtain⟨hj,hje⟩:=List.getElem?_eq_some_iff.1 hq'
   by_cases e:i+1=n
   ·rw [s1 e]at hje;cases hje
   ·obtain⟨q2,e1,e2⟩:=s2 (by omega)
    rw [e1]at hje;cases hje;omega)
  simp only [pwA,seval,-iQ0,wrapS hlt' (by omega:n≤4611686018427387904)]
  refine⟨_,by omega,i+1,rows2,Rs++[cur],by omega,rfl,rfl,l2,hr2,by rw [List.length_append,hRl];rfl,hv2,?_⟩
  rw [List.map_append,hRv];unfold lgCs;rw [List.range_succ,List.map_append];simp only [List.map_cons,List.map_nil,hcv]
 as_aux_lemma=>
 refine zG (fun m us h=>∃(k:Nat) (cur:List SR),k≤n-1-i∧m=n-1-i-k∧us=[.ptr s 0,.ptr σ.next 0,.int .i64 n,.ptr tp 0,.int .i64 i,.fz true a1 n (pis (unitL n i)),.int .i64 n,.int .i64 i,.int .i64 ((n-1-i:Nat):Int),.int .i64 k]∧LI (σ.new [.fz true .nils 0 [],.fz true .nils 0 [],.fz true .nils 0 []]) H h tp (S.next+1) sP sC (.sl (S.next+1) 0 n capO) capP capC n (pis (List.replicate n p)) pc ls rows2 Rs cur∧cur.length=k∧cur.map SR.x=lgR p n W B i k) (n-1-i) ⟨0,[],by omega,by omega,rfl,a2,rfl,rfl⟩ ?_
 rintro m us h8 ⟨k,cur,hk8,rfl,rfl,l,hcl,hcv⟩
 obtain⟨g2,gC,gp⟩:=lC l;simp only [pwA,seval,-iQ0];refine iteI (fun hltk=>?_) fun hgek=>?_
 rotate_left
 ·have hke:k=n-1-i:=by omega
  rw [hke]at hcv
  exact hQ _ _ ⟨cur,_,by rw [hke],l,hcv⟩
 have hkn:k<n-1-i:=by omega
 obtain⟨q0,e1,e2⟩:=s2 (by omega)
 have hj:i+(1+k)<n:=by omega
 have huj:=zT (n:=n) o.pr hj;have ew1:IntKind.i64.wrap ((i:Int)+1)=((i+1:Nat):Int):=by rw [wrap64 (by omega) (by omega)];omega
 have ew2:IntKind.i64.wrap (((i+1:Nat):Int)+(k:Int))=((i+(1+k):Nat):Int):=by rw [wrap64 (by omega) (by omega)];omega
 rw [e1]at gC
 have gC':h8.rd1 sC i=some (.sl q0.s 0 q0.cs.length q0.cap):=gC;simp only [pwA,seval,-iQ0,g2,gC',hlt',ew1,ew2];have hsp8:=hsT.keep l.keep;refine zAB o hsp8 hR0.P hu ⟨true,a1,by rw [hu.1]⟩ (k:=-1) (by omega) fun v1 fv1=>?_
 have hel1:El p n (lmul p W (-1) (unitL n i)):=zAL o hu;have fv1':=fv1;obtain⟨w1,x1,rfl⟩:=fv1;simp only [pwA,seval,-iQ0,g2,gC',ew1,ew2];refine z8 (by omega) hj fun a2=>?_
 have hnt:¬tp=h8.next:=by have:=(b.b tp (by simp)).2;have:=l.nx;omega
 have hnC:¬sC=h8.next:=by have:=(b.b sC (by simp)).2;have:=l.nx;omega
 have hn8:¬s=h8.next:=by have:=hsp8.lt;omega
 simp only [pwA,seval,-iQ0,g2,gC',hnt,hnC];have hrow:All2 FI [.fz w1 x1 (lmul p W (-1) (unitL n i)).length (pis (lmul p W (-1) (unitL n i))),.fz true a2 n (pis (unitL n (i+(1+k)))),.fz true a1 n (pis (unitL n i))] [lmul p W (-1) (unitL n i),unitL n (i+(1+k)),unitL n i]:=
  (((All2.nil _).snoc fv1').snoc ⟨true,a2,by rw [huj.1]⟩).snoc ⟨true,a1,by rw [hu.1]⟩
 refine zA.frz (s:=h8.next) (by rw [zM,if_pos rfl]) (hrow.bI 0) fun o2=>?_
 simp only [sbs,Go.Ab.sb,capOK,and_self,if_true,decide_true,Nat.le_refl];have lk:=l.keepI b (((Keep.refl h8).new [.fz w1 x1 (lmul p W (-1) (unitL n i)).length (pis (lmul p W (-1) (unitL n i))),.fz true a2 n (pis (unitL n (i+(1+k)))),.fz true a1 n (pis (unitL n i))]).kill (Nat.le_refl _));generalize (h8.new [.fz w1 x1 (lmul p W (-1) (unitL n i)).length (pis (lmul p W (-1) (unitL n i))),.fz true a2 n (pis (unitL n (i+(1+k)))),.fz true a1 n (pis (unitL n i))]).kill h8.next=h7 at *
 obtain⟨k2,kC,kp⟩:=lC lk;rw [e1]at kC
 have kC':h7.rd1 sC i=some (.sl q0.s 0 q0.cs.length q0.cap):=kC;have hsp7:=hsT.keep lk.keep;have hels:Els p n [lmul p W (-1) (unitL n i),unitL n (i+(1+k)),unitL n i]:=fun y hy=>by
  simp only [List.mem_cons,List.not_mem_nil,or_false]at hy
  rcases hy with rfl|rfl|rfl<;>assumption
 refine zA.fzI (fun K' h'=>zKo z hsp7 hR0 ⟨true,_,_,rfl,hrow⟩ hels (by simp) h') fun a3=>?_
 have hfe:=Q6 o q hels;simp only [pwA,seval,-iQ0,k2,kC'];refine QV z hsp7 hR0 (x:=conj p n W B (unitL n (i+(1+k))) (unitL n i)) hfe ⟨true,a3,rfl⟩ fun cap2 hc2=>?_
 have hxl:(vcG p n W B (conj p n W B (unitL n (i+(1+k))) (unitL n i))).length=n:=ZM n;have hxv:vcG p n W B (conj p n W B (unitL n (i+(1+k))) (unitL n i))=lgC p n W B i k:=rfl;rw [hxv]at hxl ⊢
 have hq0:ls[Rs.length]? = some (some q0):=by rw [hRl,List.getElem?_eq_getElem (by omega),e1]
 obtain⟨u1,l2⟩:=LI.putC b lk (x:=lgC p n W B i k) (cap:=cap2) (by rw [hxl];exact hc2) hq0 (by omega)
 rw [hcl,hxl]at u1
 rw [hcl]at l2
 have lN:=lk.keepI b (zC h7 (pis (lgC p n W B i k)));obtain⟨j2,jC,jp⟩:=lC lN;rw [e1]at jC
 have jC':(h7.new (pis (lgC p n W B i k))).rd1 sC i=some (.sl q0.s 0 q0.cs.length q0.cap):=jC;generalize h7.new (pis (lgC p n W B i k))=hN at *
 have hcv2:(cur++[(⟨h7.next,cap2,lgC p n W B i k⟩:SR)]).map SR.x=lgR p n W B i (k+1):=by
  rw [List.map_append,hcv];unfold lgR;rw [List.range_succ,List.map_append];rfl
 have hcl2:(cur++[(⟨h7.next,cap2,lgC p n W B i k⟩:SR)]).length=k+1:=by rw [List.length_append,hcl];rfl
 generalize cur++[(⟨h7.next,cap2,lgC p n W B i k⟩:SR)]=cur2 at *
 generalize hN.set q0.s (cur2.map SR.pv++q0.cs.drop (k+1))=hE at *
 have hkq:k<q0.cs.length:=by omega
 simp only [pwA,seval,-iQ0,j2,jC',hkq,u1,wrapS hkn (by omega:n-1-i≤4611686018427387904)]
 exact⟨_,by omega,k+1,cur2,by omega,rfl,rfl,l2,hcl2,hcv2⟩
end Go.Proofs
