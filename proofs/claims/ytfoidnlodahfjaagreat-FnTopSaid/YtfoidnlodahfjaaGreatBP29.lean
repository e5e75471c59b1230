/- Plain law: the one list of a subgroup, and how a list is grown to it. -/
import Derived.Test.YtfoidnlodahfjaaGreatBP28
open Int renaming reduceNatCast'→iQ0
set_option maxRecDepth 100000
namespace Go.Grp
end Go.Grp
set_option linter.unusedSimpArgs false
set_option linter.unusedVariables false
namespace Go.Proofs
open Go.Ab Go.Lie Go.Grp
variable {σ:PHeap} {K:PV→PHeap→Prop} {O:List Int} {P:List (List Int)} {C:List (List (List Int))} {vO vP vC vx:PV} {s:Nat} {x:List Int} {rP rC:List PV}
theorem pisAt {i:Nat} (h:i<x.length):(pis x)[i]? = some (.int .i64 (at_ x i)):=by rw [zM,gi h,at_eq h];rfl
theorem pvRow (s:Shp O P C) (hP:All2 FI rP P) {i:Nat} (hi:i<O.length):∃w a,rP[i]? = some (.fz w a O.length (pis (pvec P i))):=by
 have hiP:i<P.length:=by rw [s.pl];exact hi
 obtain⟨w,a,h⟩:=hP.rowI hiP;refine⟨w,a,?_⟩;have e:pvec P i=P[i]:=Qb hiP;rw [h,e,show P[i].length=O.length by rw [←e];exact(s.pw i hi).len]
theorem cvRow (s:Shp O P C) (hC:All2 FII rC C) {i:Nat} (hi:i<O.length):∃w a rs,rC[i]? = some (.fz w a (O.length-1-i) rs)∧∀q,q<O.length-1-i→∃w' a',rs[q]? = some (.fz w' a' O.length (pis (cvec C i (i+(1+q))))):=by
 have hiC:i<C.length:=by rw [s.cl];exact hi
 obtain⟨w,a,rs,h,hrs⟩:=hC.rowL hiC;have e:C.getD i []=C[i]:=zo hiC;have hl:C[i].length=O.length-1-i:=by rw [←e];exact s.row i hi
 refine⟨w,a,rs,by rw [h,hl],fun q hq=>?_⟩
 have hq':q<C[i].length:=by omega
 obtain⟨w',a',h'⟩:=hrs.rowI hq';have e2:cvec C i (i+(1+q))=C[i][q]:=by
  show(C.getD i []).getD (i+(1+q)-i-1) []=_
  rw [e,show i+(1+q)-i-1=q by omega];exact Qb hq'
 exact⟨w',a',by rw [h',e2,show C[i][q].length=O.length by rw [←e2];exact(s.cj i _ (by omega) (by omega)).len]⟩
theorem FI.mk {w:Bool} {a:AV} {n:Nat} (h:x.length=n):FI (.fz w a n (pis x)) x:=⟨w,a,by rw [h]⟩
def AtOK (O:List Int) (P:List (List Int)) (C:List (List (List Int))) (d i:Nat):Prop:=
 ∀{σ:PHeap} {K:PV→PHeap→Prop} {a b:List Int} {va vb vO vP vC:PV},IsPr vO vP vC O P C→TT O i a→TT O i b→FI va a→FI vb b→(∀v,FI v (mu O P C d a b)→K v σ)→zA Tryz.prog 105 [.agg [vO,vP,vC],.int .i64 i,va,vb] σ K
theorem Zy (s:Shp O P C) {d i:Nat} (hi:O.length=d+(i+1)) (hAt:AtOK O P C d (i+1)) (hR:IsPr vO vP vC O P C) (hx:TT O 0 x) (hvx:FI vx x) (hk:∀v,FI v (Grp.img O C (mu O P C d) i x)→K v σ):
  zA Tryz.prog 176 [.agg [vO,vP,vC],.int .i64 i,vx] σ K:=by
 have hn6:=s.le;have hR0:=hR;have hl:=hx.len;have hil:i<O.length:=by omega
 have hm:∀a b,TT O (i+1) a→TT O (i+1) b→TT O (i+1) (mu O P C d a b):=fun a b ha hb=>by
  have:=mu_tt s (d:=d) (a:=a) (b:=b) (by omega) (by rwa [show O.length-d=i+1 by omega]) (by rwa [show O.length-d=i+1 by omega])
  rwa [show O.length-d=i+1 by omega]at this
 obtain⟨⟨w0,a0,rfl⟩,⟨w1,a1,rP,rfl,hP⟩,⟨w3,a3,rC,rfl,hC⟩⟩:=hR;obtain⟨w5,a5,rs,hrb,hrs⟩:=cvRow s hC hil;have hiC:i<C.length:=by rw [s.cl];exact hil
 obtain⟨wx,ax,rfl⟩:=hvx;rw [hl];refine zA.gh ?_;refine zC mix Tryz.func176 ?_
 conv=>arg 2;cbv
 refine zF rfl ?_;simp only [pwA,seval,-iQ0,List.length_replicate,zi,mk8 (n:=O.length) (by omega),mkL (n:=O.length) (by omega),wrapS hil (by omega:O.length≤4611686018427387904)]
 have hkp:Keep σ (((σ.new [.fz w0 a0 O.length (pis O),.fz w1 a1 P.length rP,.fz w3 a3 C.length rC]).new (pis (zv O))).kill (σ.next+1)):=((zB σ _).new _).kill (by omega)
 refine QS (fun m vs h'=>∃(q:Nat) (vo:PV) (A:List Int),q≤d∧m=d-q∧vs=[.int .i64 i,.fz wx ax O.length (pis x),.ptr σ.next 0,.int .i64 O.length,vo,.int .i64 ((i+(1+q):Nat):Int)]∧
  h'=((σ.new [.fz w0 a0 O.length (pis O),.fz w1 a1 P.length rP,.fz w3 a3 C.length rC]).new (pis (zv O))).kill (σ.next+1)∧FI vo A∧TT O (i+1) A∧fo (mu O P C d) (cvec C i) (nx x) (i+(1+q)) (d-q) A=Grp.img O C (mu O P C d) i x) d ?_ ?_
 ·refine .fz (σ.next+1) (pis (zv O)) (by simp only [pwA,seval,-iQ0]) (zO _ _) fun o1=>.here ?_
  refine⟨0,.fz true (.sl o1 0 O.length (.known O.length)) O.length (pis (zv O)),zv O,by omega,by omega,?_,rfl,FI.mk (by simp),s.zv _,?_⟩
  ·simp only [pwA,seval,-iQ0]
   simp only [sbs,sb,capOK,Nat.le_refl,decide_true,and_self,if_true]
  ·show _=fo _ _ _ (i+1) (O.length-1-i) (zv O)
   rw [show O.length-1-i=d by omega];rfl
 rintro m vs h' ⟨q,vo,A,hq,rfl,rfl,rfl,hvo,hA,hfo⟩
 simp only [pwA,seval,-iQ0];refine iteI (fun hlt=>?_) fun hge=>?_
 rotate_left
 ·have hqd:q=d:=by omega
  subst hqd;rw [Nat.sub_self]at hfo
  have:A=Grp.img O C (mu O P C q) i x:=hfo
  rw [←this]at hk
  exact Gh.fin0 hkp (hvo.bel _) (hk _ hvo)
 have hqd:q<d:=by omega
 have hjl:i+(1+q)<x.length:=by omega
 have bx:=hx.bd (i+(1+q)) (by omega)
 have bO:=s.pr (i+(1+q)) (by omega)
 obtain⟨w6,a6,hrk⟩:=hrs q (by omega)
 have hjr:q<O.length-1-i:=by omega
 have hcv:=s.cj i (i+(1+q)) (by omega) (by omega)
 have e3:IntKind.i64.wrap (((i+(1+q):Nat):Int)-(i:Int))=((1+q:Nat):Int):=by rw [wrap64 (by omega) (by omega)];omega
 have e4:IntKind.i64.wrap (((1+q:Nat):Int)-1)=(q:Int):=by rw [wrap64 (by omega) (by omega)];omega
 have e5:IntKind.i64.wrap (((i+(1+q):Nat):Int)+1)=((i+(1+(q+1)):Nat):Int):=by rw [wrap64 (by omega) (by omega)];omega
 rw [show d-q=(d-q-1)+1 by omega]at hfo
 refine zG (fun m vs h'=>∃(k:Nat) (vo:PV) (A:List Int),k≤nx x (i+(1+q))∧m=nx x (i+(1+q))-k∧vs=[.int .i64 i,.fz wx ax O.length (pis x),.ptr σ.next 0,.int .i64 O.length,vo,.int .i64 ((i+(1+q):Nat):Int),.int .i64 k]∧
  h'=((σ.new [.fz w0 a0 O.length (pis O),.fz w1 a1 P.length rP,.fz w3 a3 C.length rC]).new (pis (zv O))).kill (σ.next+1)∧FI vo A∧TT O (i+1) A∧fo (mu O P C d) (cvec C i) (nx x) (i+(1+q)+1) (d-q-1) (rep (mu O P C d) (cvec C i (i+(1+q))) (nx x (i+(1+q))-k) A)=Grp.img O C (mu O P C d) i x) (nx x (i+(1+q))) ?_ ?_
 ·exact⟨0,vo,A,by omega,by omega,rfl,rfl,hvo,hA,hfo⟩
 rintro m vs h' ⟨k,vo,A,hkn,rfl,rfl,rfl,hvo,hA,hfo⟩
 have hnx:((nx x (i+(1+q)):Nat):Int)=at_ x (i+(1+q)):=Int.toNat_of_nonneg bx.1;simp only [pwA,seval,-iQ0,pisAt hjl,hjl,hl ▸ hjl];refine iteI (fun hlt2=>?_) fun hge2=>?_
 ·have hlt3:k<nx x (i+(1+q)):=by omega
  simp only [pwA,seval,-iQ0,wrapS hil (by omega:O.length≤4611686018427387904),hiC,hrb,e3,e4,hjr,hrk]
  refine hAt hR0 hA hcv hvo (FI.mk hcv.len) fun v hv=>?_
  simp only [pwA,seval,-iQ0,wrapS hlt3 (by omega:nx x (i+(1+q))≤4611686018427387904)]
  refine⟨_,by omega,k+1,v,_,by omega,rfl,rfl,hv,hm _ _ hA hcv,?_⟩
  rw [show nx x (i+(1+q))-k=(nx x (i+(1+q))-(k+1))+1 by omega]at hfo
  exact hfo
 ·have hke:k=nx x (i+(1+q)):=by omega
  subst hke;simp only [pwA,seval,-iQ0,e5];refine⟨d-(q+1),by omega,.here ⟨q+1,vo,A,by omega,rfl,rfl,rfl,hvo,hA,?_⟩⟩
  rw [Nat.sub_self]at hfo
  rw [show d-(q+1)=d-q-1 by omega]
  exact hfo
theorem zCw (s:Shp O P C):∀{d i:Nat},O.length=d+i→AtOK O P C d i
 | 0,i,hi=>by
  rename_i σ K a b va vb vO vP vC
  intro hR ha hb hva hvb hk;have hn6:=s.le;obtain⟨⟨w0,a0,rfl⟩,⟨w1,a1,rP,rfl,hP⟩,⟨w3,a3,rC,rfl,hC⟩⟩:=hR;refine zA.gh ?_;have hge:(O.length:Int)≤(i:Int):=by omega
  refine zC mix Tryz.func105 ?_
  conv=>arg 2;cbv
  refine zF rfl ?_;simp only [pwA,seval,-iQ0,hge,List.length_replicate,zi,mk8 (n:=O.length) (by omega),mkL (n:=O.length) (by omega)]
  exact Gh.finF (s:=σ.next+1) ((zB σ _).new _) (by simp only [pwA,seval,-iQ0];rfl) (by omega) (zO _ _) (by simp [capOK]) fun o1=>hk _ (FI.mk (by simp [mu]))
 | d+1,i,hi=>by
  rename_i σ K a b va vb vO vP vC
  intro hR ha hb hva hvb hk;have hAt:AtOK O P C d (i+1):=zCw s (by omega)
  have hn6:=s.le;have hR0:=hR;have hil:i<O.length:=by omega
  have hO:=s.pr i hil;have hal:=ha.len;have hbl:=hb.len;have ba:=ha.bd i hil;have bb:=hb.bd i hil;have hpos:=s.pos hil;have h0i:O.length-(d+1)=i:=by omega
  have hm:∀a b,TT O (i+1) a→TT O (i+1) b→TT O (i+1) (mu O P C d a b):=fun a b ha hb=>by
   have:=mu_tt s (d:=d) (a:=a) (b:=b) (by omega) (by rwa [show O.length-d=i+1 by omega]) (by rwa [show O.length-d=i+1 by omega])
   rwa [show O.length-d=i+1 by omega]at this
  obtain⟨⟨w0,a0,rfl⟩,⟨w1,a1,rP,rfl,hP⟩,⟨w3,a3,rC,rfl,hC⟩⟩:=hR;obtain⟨w5,a5,hpr⟩:=pvRow s hP hil;have hiP:i<P.length:=by rw [s.pl];exact hil
  have hpv:=s.pw i hil;obtain⟨wa,aa,rfl⟩:=hva;obtain⟨wb,ab,rfl⟩:=hvb;have hila:i<a.length:=by omega
  have hilb:i<b.length:=by omega
  have hge:¬(O.length:Int)≤(i:Int):=by omega
  have sa:=ha.set0 hil hpos;have sb':=hb.set0 hil hpos;have sal:=sa.len;have sbl:=sb'.len;refine zA.gh ?_;refine zC mix Tryz.func105 ?_
  conv=>arg 2;cbv
  refine zF rfl ?_;simp only [pwA,seval,-iQ0,hge];refine qw rfl (by omega) fun cap1 hc1=>?_
  simp only [pwA,seval,-iQ0];refine qw rfl (by omega) fun cap2 hc2=>?_
  have g1:i<a.length∧i+1≤a.length:=⟨hila,hila⟩;have g2:i<b.length∧i+1≤b.length:=⟨hilb,hilb⟩;simp only [pwA,seval,-iQ0,g1.1,g1.2,g2.1,g2.2,zI,za hila,za hilb];refine QS (fun m vs h'=>∃(k:Nat) (vl vr:PV) (A:List Int),k≤nx b i∧m=nx b i-k∧vs=[.int .i64 i,.fz wa aa a.length (pis a),.fz wb ab b.length (pis b),.ptr σ.next 0,vl,vr,.int .i64 k]∧
   h'=((((σ.new [.fz w0 a0 O.length (pis O),.fz w1 a1 P.length rP,.fz w3 a3 C.length rC]).new (pis (a.set i 0))).new (pis (b.set i 0))).kill (σ.next+1)).kill (σ.next+2)∧FI vl A∧FI vr (b.set i 0)∧TT O (i+1) A∧iter (Grp.img O C (mu O P C d) i) (nx b i-k) A=iter (Grp.img O C (mu O P C d) i) (nx b i) (a.set i 0)) (nx b i) ?_ ?_
  ·refine .fz (σ.next+1) (pis (a.set i 0)) (by simp only [pwA,seval,-iQ0]) (zO _ _) fun o1=>.fz (σ.next+2) (pis (b.set i 0)) (by simp only [pwA,seval,-iQ0]) (zO _ _) fun o2=>.here ?_
   refine⟨0,.fz true (.sl o1 0 a.length cap1) a.length (pis (a.set i 0)),.fz true (.sl o2 0 b.length cap2) b.length (pis (b.set i 0)),a.set i 0,by omega,by omega,?_,rfl,FI.mk (by simp),FI.mk (by simp),sa,rfl⟩
   simp only [pwA,seval,-iQ0];have k1:=hc1.ok;have k2:=hc2.ok;have hne:¬(σ.next+2=σ.next+1):=by omega
   simp only [sbs,sb,k1,k2,hne,false_and,if_false,Nat.le_refl,decide_true,and_self,if_true]
   rfl
  rintro m vs h' ⟨k,vl,vr,A,hkn,rfl,rfl,rfl,hvl,hvr,hA,hit⟩
  have hnx:((nx b i:Nat):Int)=at_ b i:=Int.toNat_of_nonneg bb.1;have hcap1:=hc1.ok;simp only [pwA,seval,-iQ0,pisAt hilb,hilb];refine iteI (fun hlt=>?_) fun hge2=>?_
  ·have hlt3:k<nx b i:=by omega
   simp only [pwA,seval,-iQ0];refine Zy s (by omega) hAt hR0 (hA.mono (Nat.zero_le _)) hvl fun v hv=>?_
   simp only [pwA,seval,-iQ0,wrapS hlt3 (by omega:nx b i≤4611686018427387904)]
   refine⟨nx b i-(k+1),by omega,.here ⟨k+1,v,vr,_,by omega,rfl,rfl,rfl,hv,hvr,QL s hm _,?_⟩⟩
   rw [show nx b i-k=(nx b i-(k+1))+1 by omega]at hit
   exact hit
  have hke:k=nx b i:=by omega
  subst hke;rw [Nat.sub_self]at hit
  have hA':A=iter (Grp.img O C (mu O P C d) i) (nx b i) (a.set i 0):=hit;subst hA';simp only [pwA,seval,-iQ0,wrapS hil (by omega:O.length≤4611686018427387904)]
  have ir:=hm _ _ hA sb';have irl:=ir.len;refine hAt hR0 hA sb' hvl hvr fun v hv=>?_
  have hab:IntKind.i64.wrap (at_ a i+at_ b i)=at_ a i+at_ b i:=wrap64 (by omega) (by omega)
  have hiO:i<O.length:=hil;simp only [pwA,seval,-iQ0,pisAt hila,pisAt hilb,hila,hilb,pisAt hil,hiO,hab];have hmu:∀c e:List Int,(if at_ a i+at_ b i ≥ at_ O i then(mu O P C d (pvec P i) (mu O P C d (iter (Grp.img O C (mu O P C d) i) (nx b i) (a.set i 0)) (b.set i 0))).set i (at_ a i+at_ b i-at_ O i)else(mu O P C d (iter (Grp.img O C (mu O P C d) i) (nx b i) (a.set i 0)) (b.set i 0)).set i (at_ a i+at_ b i))=mu O P C (d+1) a b:=fun _ _=>by
   simp only [mu,h0i]
  refine iteI (fun hge3=>?_) fun hlt3=>?_
  ·have hsub:IntKind.i64.wrap (at_ a i+at_ b i-at_ O i)=at_ a i+at_ b i-at_ O i:=wrap64 (by omega) (by omega)
   have e:=hmu a b;rw [if_pos hge3]at e
   simp only [pwA,seval,-iQ0,pisAt hil,hiO,hsub,wrapS hil (by omega:O.length≤4611686018427387904),hiP,hpr]
   have ir2:=hm _ _ hpv ir;have ir2l:i<(mu O P C d (pvec P i) (mu O P C d (iter (Grp.img O C (mu O P C d) i) (nx b i) (a.set i 0)) (b.set i 0))).length:=by rw [ir2.len];exact hil
   refine hAt hR0 hpv ir (FI.mk hpv.len) hv fun v2 hv2=>?_
   obtain⟨w7,a7,rfl⟩:=hv2;simp only [pwA,seval,-iQ0,pisAt hil,hiO,hsub,wrapS hil (by omega:O.length≤4611686018427387904),hiP,hpr]
   refine qw rfl (by have:=ir2.len;omega) fun cap3 hc3=>?_
   simp only [pwA,seval,-iQ0,ir2l,Nat.succ_le_of_lt ir2l,zI,za ir2l];rw [←e]at hk
   exact Gh.finF (s:=σ.next+1+2) ((((((zB σ _).new _).new _).kill (by omega)).kill (by omega)).new _) (by simp only [pwA,seval,-iQ0]) (by omega) (zO _ _) hc3.ok fun o1=>hk _ (FI.mk (by simp))
  ·have e:=hmu a b
   rw [if_neg (by omega)]at e
   have irl2:i<(mu O P C d (iter (Grp.img O C (mu O P C d) i) (nx b i) (a.set i 0)) (b.set i 0)).length:=by rw [irl];exact hil
   obtain⟨w7,a7,rfl⟩:=hv;simp only [pwA,seval,-iQ0];refine qw rfl (by omega) fun cap3 hc3=>?_
   simp only [pwA,seval,-iQ0,irl2,Nat.succ_le_of_lt irl2,zI,za irl2];rw [←e]at hk
   exact Gh.finF (s:=σ.next+1+2) ((((((zB σ _).new _).new _).kill (by omega)).kill (by omega)).new _) (by simp only [pwA,seval,-iQ0]) (by omega) (zO _ _) hc3.ok fun o1=>hk _ (FI.mk (by simp))
end Go.Proofs
namespace Go.Grp
end Go.Grp
namespace Go.Proofs
open Go.Ab Go.Lie Go.Grp
variable {σ:PHeap} {K:PV→PHeap→Prop} {O:List Int} {P:List (List Int)} {C:List (List (List Int))} {vO vP vC vx:PV} {s:Nat} {x:List Int} {rP rC:List PV}
theorem pw_sq {α:Type} {S:α→Prop} {m:α→α→α} {e:α} (M:Mon S m e) {x:α} (hx:S x):∀q,Grp.pw m e (m x x) q=Grp.pw m e x (q+q)
 | 0=>rfl
 | q+1=>by
  rw [show q+1+(q+1)=(q+q)+1+1 by omega]
  show m (Grp.pw m e (m x x) q) (m x x)=m (m (Grp.pw m e x (q+q)) x) x;rw [pw_sq M hx q,M.as (M.pw hx _) hx hx]
theorem zMV {α:Type} {S:α→Prop} {m:α→α→α} {e:α} (M:Mon S m e) {x:α} (hx:S x) (q:Nat):m x (Grp.pw m e (m x x) q)=Grp.pw m e x (q+q+1):=by
 rw [pw_sq M hx q];exact(M.pw_comm hx _).symm
theorem zFf (s:Shp O P C) {d i:Nat} (hi:O.length=d+i) (hAt:AtOK O P C d i) (M:Mon (TT O i) (mu O P C d) (zv O)) (hR:IsPr vO vP vC O P C) (hx:TT O i x) (hvx:FI vx x) {k:Int} (hk0:0≤k∧k≤1000)
  (hk:∀v,FI v (pw (mu O P C d) (zv O) x k.toNat)→K v σ):zA Tryz.prog 180 [.agg [vO,vP,vC],.int .i64 i,vx,.int .i64 k] σ K:=by
 have hn6:=s.le;have hR0:=hR;obtain⟨kn,rfl⟩:∃kn:Nat,k=kn:=⟨k.toNat,by omega⟩
 obtain⟨⟨w0,a0,rfl⟩,⟨w1,a1,rP,rfl,hP⟩,⟨w3,a3,rC,rfl,hC⟩⟩:=hR;refine zA.gh ?_;refine zC mix Tryz.func180 ?_
 conv=>arg 2;cbv
 refine zF rfl ?_;simp only [pwA,seval,-iQ0,List.length_replicate,zi,mk8 (n:=O.length) (by omega),mkL (n:=O.length) (by omega)]
 have hkp:Keep σ (((σ.new [.fz w0 a0 O.length (pis O),.fz w1 a1 P.length rP,.fz w3 a3 C.length rC]).new (pis (zv O))).kill (σ.next+1)):=((zB σ _).new _).kill (by omega)
 refine QS (fun m vs h'=>∃(k:Nat) (vo vb:PV) (A b:List Int),k≤1000∧m=k∧vs=[.int .i64 i,.int .i64 k,.ptr σ.next 0,vo,vb]∧
  h'=((σ.new [.fz w0 a0 O.length (pis O),.fz w1 a1 P.length rP,.fz w3 a3 C.length rC]).new (pis (zv O))).kill (σ.next+1)∧FI vo A∧FI vb b∧TT O i A∧TT O i b∧mu O P C d A (pw (mu O P C d) (zv O) b k)=pw (mu O P C d) (zv O) x kn) kn ?_ ?_
 ·refine .fz (σ.next+1) (pis (zv O)) (by simp only [pwA,seval,-iQ0]) (zO _ _) fun o1=>.here ?_
  refine⟨kn,.fz true (.sl o1 0 O.length (.known O.length)) O.length (pis (zv O)),vx,zv O,x,by omega,rfl,?_,rfl,FI.mk (by simp),hvx,s.zv _,hx,M.l1 (M.pw hx _)⟩
  simp only [pwA,seval,-iQ0];simp only [sbs,sb,capOK,Nat.le_refl,decide_true,and_self,if_true,hvx.sb]
 rintro m vs h' ⟨k,vo,vb,A,b,hk1,rfl,rfl,rfl,hvo,hvb,hA,hb,hinv⟩
 simp only [pwA,seval,-iQ0];refine iteI (fun hgt=>?_) fun hle=>?_
 rotate_left
 ·have hm0:m=0:=by omega
  subst hm0;rw [show pw (mu O P C d) (zv O) b 0=zv O from rfl,M.r1 hA]at hinv
  rw [show((kn:Int)).toNat=kn from Int.toNat_natCast kn,←hinv]at hk
  exact Gh.fin0 hkp (hvo.bel _) (hk _ hvo)
 have htm:Int.tmod (m:Int) 2=((m % 2:Nat):Int):=by rw [Int.tmod_eq_emod_of_nonneg (by omega)];rfl
 have htd:Int.tdiv (m:Int) 2=((m / 2:Nat):Int):=by rw [Int.tdiv_eq_ediv_of_nonneg (by omega)];rfl
 have h2:¬((2:Int)=0):=by decide
 have hwd:IntKind.i64.wrap ((m / 2:Nat):Int)=((m / 2:Nat):Int):=wrap64 (by omega) (by omega)
 have hwt:IntKind.i64.wrap ((m % 2:Nat):Int)=((m % 2:Nat):Int):=wrap64 (by omega) (by omega)
 have hbb:=M.cl hb hb
 by_cases ho:m % 2=1
 ·have ho':((m % 2:Nat):Int)=1:=by omega
  simp only [pwA,seval,-iQ0,h2,htm,ho',eq_true ho'];refine hAt hR0 hA hb hvo hvb fun v hv=>?_
  simp only [pwA,seval,-iQ0];refine hAt hR0 hb hb hvb hvb fun v2 hv2=>?_
  simp only [pwA,seval,-iQ0,h2,htd,hwd];refine⟨m / 2,by omega,.here ⟨m / 2,v,v2,_,_,by omega,rfl,rfl,rfl,hv,hv2,M.cl hA hb,hbb,?_⟩⟩
  rw [M.as hA hb (M.pw hbb _),zMV M hb,show m / 2+m / 2+1=m by omega]
  exact hinv
 ·have ho':¬((m % 2:Nat):Int)=1:=by omega
  simp only [pwA,seval,-iQ0,h2,htm,ho'];refine hAt hR0 hb hb hvb hvb fun v2 hv2=>?_
  simp only [pwA,seval,-iQ0,h2,htd,hwd];refine⟨m / 2,by omega,.here ⟨m / 2,vo,v2,_,_,by omega,rfl,rfl,rfl,hvo,hv2,hA,hbb,?_⟩⟩
  rw [pw_sq M hb,show m / 2+m / 2=m by omega]
  exact hinv
theorem zDe {n k:Nat} (hn:n≤1048576) (hkn:k<n) (hk:∀v,FI v (unitL n k)→K v σ):zA Tryz.prog 230 [.int .i64 n,.int .i64 k] σ K:=by
 refine zA.gh ?_;refine zC mix Tryz.func230 ?_
 conv=>arg 2;cbv
 refine zF rfl ?_;simp only [pwA,seval,-iQ0,List.length_replicate,zi,mk8 (n:=n) (by omega),mkL (n:=n) (by omega),hkn,Nat.succ_le_of_lt hkn,zI]
 rw [za (by simpa using hkn)]
 exact Gh.finF (s:=σ.next) (zB σ _) (by simp only [pwA,seval,-iQ0];rfl) (Nat.le_refl _) (zO _ _) (by simp [capOK]) fun o1=>hk _ (FI.mk (zh n k))
end Go.Proofs
namespace Go.Grp
end Go.Grp
namespace Go.Proofs
open Go.Ab Go.Lie Go.Grp
variable {σ:PHeap} {K:PV→PHeap→Prop} {O:List Int} {P:List (List Int)} {C:List (List (List Int))} {vO vP vC vx vf:PV} {x y f:List Int} {rP rC:List PV} {d:Nat}
theorem zLK {s off l:Nat} {cap:Cap} {ys:List Int} (hs:s<σ.next) (hr:σ.rd s off l=some (pis ys)) (hl:ys.length=l) (hb:l≤1048576) (hk:∀a,K (.fz true a l (pis ys)) σ):zA Tryz.prog 57 [.sl s off l cap] σ K:=by
 refine zA.gh ?_;have hne:¬s=σ.next:=Nat.ne_of_lt hs;refine zC mix Tryz.func57 ?_
 conv=>arg 2;cbv
 refine zF rfl ?_;simp only [pwA,seval,-iQ0];refine PSl.app (b:=0) (news:=pis ys) (m:=l) (zB σ _) (Nat.zero_le _) (PSl.new _ 1 rfl (Nat.le_refl _)) rfl (fun h0=>?_) (by rw [zI,hl,Nat.mul_one]) (by omega) (by omega) fun v' h' k1 k2=>?_
 ·rw [qM]
  simp only [h0,if_false,Nat.le_refl,if_true,Nat.mul_one,QX,hne];exact hr
 ·simp only [pwA,seval,-iQ0]at k2 ⊢
  exact k2.fin k1 (zO _ _) fun o cap=>hk _
theorem zHG {α:Type} {m:α→α→α} {h:Nat→α} {x:Nat→Nat} {c:Nat}:∀{k t:Nat} {a:α},(∀j,t≤j→j<t+k→x j=0)→fo m h x t (k+c) a=fo m h x (t+k) c a
 | 0,t,a,_=>by rw [Nat.zero_add,Nat.add_zero]
 | k+1,t,a,h0=>by
  rw [show k+1+c=(k+c)+1 by omega,fo,h0 t (Nat.le_refl _) (by omega)]
  show fo _ _ _ (t+1) (k+c) a=_;rw [zHG (fun j h1 h2=>h0 j (by omega) (by omega)),show t+1+k=t+(k+1) by omega]
theorem zL0 (s:Shp O P C) (F:Full O P C d) (hx:TT O (O.length-d) x) (hf:TT O (O.length-d) f):fo (mu O P C d) (Grp.unit O) (nx f) 0 O.length x=mu O P C d x f:=by
 have hle:=F.le;have M:=F.gp.toMon;have h1:=zHG (m:=mu O P C d) (h:=Grp.unit O) (x:=nx f) (c:=d) (k:=O.length-d) (t:=0) (a:=x) fun j _ h2=>by show(at_ f j).toNat=0;rw [hf.zero j (by omega)];rfl
 rw [show O.length-d+d=O.length by omega,Nat.zero_add]at h1
 rw [h1,M.fo_eq (fun j h1 h2=>s.unit (by omega) h1) hx]
 congr 1
 exact F.nf hf
def TGok (O:List Int) (P:List (List Int)) (C:List (List (List Int))) (d j:Nat):Prop:=
 ∀(σ:PHeap) (K:PV→PHeap→Prop) (sp se:Nat) (cap:Cap) (x:List Int) (vO vP vC:PV),PtrG σ sp vO vP vC→IsPr vO vP vC O P C→σ.obj se=some (pis x)→se<σ.next→sp≠se→full 1 cap O.length→TT O (O.length-d) x→
  K (.tup []) (σ.set se (pis (mu O P C d x (Grp.unit O j))))→zA Tryz.prog 96 [.ptr sp 0,.sl se 0 O.length cap,.int .i64 j] σ K
theorem Zq (s:Shp O P C) (F:Full O P C d) {t:Nat} (ht:O.length-d≤t) (hTG:∀j,t≤j→j<O.length→TGok O P C d j) {sp se:Nat} {cap:Cap} (hs:PtrG σ sp vO vP vC) (hR:IsPr vO vP vC O P C)
  (he:σ.obj se=some (pis x)) (hse:se<σ.next) (hne:sp≠se) (hcap:full 1 cap O.length) (hx:TT O (O.length-d) x) (hf:TT O t f) (hvf:FI vf f) (hk:K (.tup []) (σ.set se (pis (mu O P C d x f)))):zA Tryz.prog 162 [.ptr sp 0,.sl se 0 O.length cap,vf] σ K:=by
 have hn6:=s.le;have hfl:=hf.len;have M:=F.gp.toMon;obtain⟨wf,af,rfl⟩:=hvf;refine zC mix Tryz.func162 ?_
 conv=>arg 2;cbv
 refine zF rfl ?_;simp only [pwA,seval,-iQ0];refine zG (fun m vs h'=>∃(q:Nat) (y:List Int),q≤O.length∧m=O.length-q∧vs=[.ptr sp 0,.sl se 0 O.length cap,.fz wf af f.length (pis f),.int .i64 f.length,.int .i64 q]∧h'=σ.set se (pis y)∧TT O (O.length-d) y∧fo (mu O P C d) (Grp.unit O) (nx f) q (O.length-q) y=mu O P C d x f) O.length ?_ ?_
 ·exact⟨0,x,by omega,by omega,rfl,(QU he).symm,hx,zL0 s F hx (hf.mono ht)⟩
 rintro m vs h' ⟨q,y,hq,rfl,rfl,rfl,hy,hfo⟩
 simp only [pwA,seval,-iQ0];refine iteI (fun hlt=>?_) fun hge=>?_
 rotate_left
 ·have hqe:q=O.length:=by omega
  subst hqe;rw [Nat.sub_self]at hfo
  rw [←hfo]at hk
  exact hk
 have hqO:q<O.length:=by omega
 have bf:=hf.bd q hqO;have bO:=s.pr q hqO;have hnx:((nx f q:Nat):Int)=at_ f q:=Int.toNat_of_nonneg bf.1;rw [show O.length-q=(O.length-(q+1))+1 by omega]at hfo
 simp only [pwA,seval,-iQ0,pisAt hlt,hlt];refine zG (fun m vs h'=>∃(k:Nat) (y:List Int),k≤nx f q∧m=nx f q-k∧vs=[.ptr sp 0,.sl se 0 O.length cap,.int .i64 q,.fz wf af f.length (pis f),.int .i64 f.length,.int .i64 q,.int .i64 (at_ f q),.int .i64 k]∧h'=σ.set se (pis y)∧TT O (O.length-d) y∧fo (mu O P C d) (Grp.unit O) (nx f) (q+1) (O.length-(q+1)) (rep (mu O P C d) (Grp.unit O q) (nx f q-k) y)=mu O P C d x f) (nx f q) ?_ ?_
 ·exact⟨0,y,by omega,by omega,rfl,rfl,hy,hfo⟩
 rintro m vs h' ⟨k,y,hkn,rfl,rfl,rfl,hy,hfo⟩
 simp only [pwA,seval,-iQ0];refine iteI (fun hlt2=>?_) fun hge2=>?_
 ·have hlt3:k<nx f q:=by omega
  have htq:t≤q:=by
   rcases Nat.lt_or_ge q t with h|h
   ·have:=hf.zero q h;omega
   ·exact h
  have hu:TT O (O.length-d) (Grp.unit O q):=s.unit hqO (by omega)
  refine hTG q htq hqO _ _ sp se cap y vO vP vC (hs.set hne _) hR (by simp only [pwA,seval,-iQ0]) hse hne hcap hy ?_
  simp only [pwA,seval,-iQ0,wrapS hlt3 (by omega:nx f q≤4611686018427387904)]
  refine⟨_,by omega,k+1,_,by omega,rfl,rfl,rfl,M.cl hy hu,?_⟩
  rw [show nx f q-k=(nx f q-(k+1))+1 by omega]at hfo
  exact hfo
 ·have hke:k=nx f q:=by omega
  subst hke;rw [Nat.sub_self]at hfo
  simp only [pwA,seval,-iQ0,wrapS hlt (by omega:f.length≤4611686018427387904)]
  exact⟨_,by omega,q+1,y,by omega,rfl,rfl,rfl,hy,hfo⟩
end Go.Proofs
namespace Go.Grp
end Go.Grp
namespace Go.Proofs
open Go.Ab Go.Lie Go.Grp
variable {σ:PHeap} {K:PV→PHeap→Prop} {O:List Int} {P:List (List Int)} {C:List (List (List Int))} {vO vP vC vx vf:PV} {x y f:List Int} {rP rC:List PV} {d j:Nat}
def zr (x:List Int) (j:Nat):Nat→List Int
 | 0=>x
 | k+1=>(zr x j k).set (j+(1+k)) 0
theorem zAu:∀k,(zr x j k).length=x.length
 | 0=>rfl
 | k+1=>by rw [zr,List.length_set];exact zAu k
theorem zr_at:∀{k:Nat},j+(1+k)≤x.length→∀t,at_ (zr x j k) t=if j<t∧t<j+(1+k)then 0 else at_ x t
 | 0,_,t=>by rw [if_neg (by omega)];rfl
 | k+1,h,t=>by
  rw [zr,at_set (by rw [zAu];omega)]
  split
  ·rename_i e;rw [if_pos (by omega)]
  ·rename_i e
   rw [zr_at (by omega)]
   by_cases g:j<t∧t<j+(1+k)
   ·rw [if_pos g,if_pos (by omega)]
   ·rw [if_neg g,if_neg (by omega)]
theorem zMH (hj:j<x.length):zr x j (x.length-1-j)=hdz x j:=by
 refine zB4 (by rw [zAu,zCO]) fun t ht=>?_
 rw [zAu]at ht
 rw [zr_at (by omega),zA9]
 by_cases g:t≤j
 ·rw [if_neg (by omega),if_pos g]
 ·rw [if_pos (by omega),if_neg g]
theorem zGP {se n:Nat} {cap:Cap} (hc:full 1 cap n) (hj:j+1≤n):∃off cap',Qh 1 (.sl se 0 n cap) (some (.int .i64 ((j+1:Nat):Int))) none none=some (.sl se off (n-(j+1)) cap')∧(off=j+1∨(off=0∧n-(j+1)=0)):=by
 have e:(0:Int)≤((j+1:Nat):Int)∧((j+1:Nat):Int)≤(n:Int):=⟨by omega,by omega⟩
 rcases hc with rfl|rfl
 ·refine⟨j+1,.grown 1,?_,.inl rfl⟩
  rw [zBr];simp only [zAE,zAD,zBL,Option.bind_some,if_pos e,Int.toNat_natCast]
  simp
 ·rw [zBq]
  simp only [zAE,zAD,zBL,Option.bind_some,if_pos e,Int.toNat_natCast]
  by_cases h:n=j+1
  ·refine⟨0,.known (n-(j+1)),?_,.inr ⟨rfl,by omega⟩⟩
   rw [if_pos h];simp
  ·refine⟨j+1,.known (n-(j+1)),?_,.inl rfl⟩
   rw [if_neg h];simp
theorem qi (s:Shp O P C) (F:Full O P C d):∀(r:Nat) {j:Nat},O.length-d≤j→j<O.length→O.length-j≤r→TGok O P C d j
 | 0,j,h1,h2,h3=>by omega
 | r+1,j,h1,h2,h3=>by
  intro σ K sp se cap x vO vP vC hs hR he hse hne hcap hx hk;have hTG:∀j',j+1≤j'→j'<O.length→TGok O P C d j':=fun j' g1 g2=>qi s F r (by omega) g2 (by omega)
  have hn6:=s.le;have hR0:=hR;have hs0:=hs;have hxl:=hx.len;have hjx:j<x.length:=by omega
  have bx:=hx.bd j h2;have bO:=s.pr j h2;have M:=F.gp.toMon;rw [←zKA s F hx h1 h2]at hk
  obtain⟨⟨w0,a0,rfl⟩,⟨w1,a1,rP,rfl,hP⟩,⟨w3,a3,rC,rfl,hC⟩⟩:=hR;obtain⟨w5,a5,rs,hrb,hrs⟩:=cvRow s hC h2;obtain⟨w6,a6,hpr⟩:=pvRow s hP h2;have hjC:j<C.length:=by rw [s.cl];exact h2
  have hjP:j<P.length:=by rw [s.pl];exact h2
  have hpv:=s.pw j h2;have e0:σ.rd1 sp 0=some (.fz w0 a0 O.length (pis O)):=by rw [zH hs.obj];rfl
  have e1:σ.rd1 sp 1=some (.fz w1 a1 P.length rP):=by rw [zH hs.obj];rfl
  have e2:σ.rd1 sp 2=some (.fz w3 a3 C.length rC):=by rw [zH hs.obj];rfl
  have ern:∀t,σ.rd1 se t=(pis x)[t]?:=fun t=>zH he t
  obtain⟨off,cap',hsl,hoff⟩:=zGP (se:=se) hcap (Nat.succ_le_of_lt h2);have wj1:IntKind.i64.wrap ((j:Int)+1)=((j+1:Nat):Int):=wrapS h2 (by omega)
  refine zC mix Tryz.func96 ?_
  conv=>arg 2;cbv
  refine zF rfl ?_;simp only [pwA,seval,-iQ0,wj1,hsl];have hdl:(x.drop (j+1)).length=O.length-(j+1):=by simp [hxl]
  refine zLK hse (ys:=x.drop (j+1)) ?_ hdl (by omega) fun av=>?_
  ·rw [zb he,zI]
   rcases hoff with rfl|⟨rfl,h0⟩
   ·rw [if_pos (by omega),←zKc,List.take_of_length_le (by rw [List.length_drop,zI];omega)]
   ·rw [h0,if_pos (by omega),List.take_zero,List.drop_eq_nil_of_le (by omega)];rfl
  simp only [pwA,seval,-iQ0,zI];refine zG (fun m vs h'=>∃k:Nat,k≤O.length-(j+1)∧m=O.length-(j+1)-k∧vs=[.ptr sp 0,.sl se 0 O.length cap,.int .i64 j,.fz true av (O.length-(j+1)) (pis (x.drop (j+1))),.int .i64 ((O.length-(j+1):Nat):Int),.int .i64 k]∧h'=σ.set se (pis (zr x j k))) (O.length-(j+1)) ?_ ?_
  ·exact⟨0,by omega,by omega,rfl,(QU he).symm⟩
  ·rintro m vs h' ⟨k,hk1,rfl,rfl,rfl⟩
   simp only [pwA,seval,-iQ0];refine iteI (fun hlt=>?_) fun hge=>?_
   ·have e3:IntKind.i64.wrap (((j+1:Nat):Int)+(k:Int))=((j+(1+k):Nat):Int):=by rw [wrap64 (by omega) (by omega)];omega
    have hjl:j+(1+k)<O.length:=by omega
    have hjz:j+(1+k)<(zr x j k).length:=by rw [zAu];omega
    have hset:(pis (zr x j k)).take (j+(1+k))++[.int .i64 0]++(pis (zr x j k)).drop (j+(1+(k+1)))=pis (zr x j (k+1)):=by rw [show j+(1+(k+1))=j+(1+k)+1 by omega];exact za hjz
    have hle2:j+(1+(k+1))≤O.length:=by omega
    simp only [pwA,seval,-iQ0,wj1,e3,hjl,zI,zAu,hxl,hle2,hset,wrapS hlt (by omega:O.length-(j+1)≤4611686018427387904)]
    exact⟨_,by omega,k+1,by omega,rfl,rfl,rfl⟩
   have hke:k=x.length-1-j:=by omega
   subst hke;rw [zMH hjx];have hzl:(hdz x j).length=O.length:=by rw [zCO];exact hxl
   have hjz:j<(hdz x j).length:=by omega
   have hdat:at_ (hdz x j) j=at_ x j:=by rw [zA9,if_pos (Nat.le_refl _)]
   have wx1:IntKind.i64.wrap (at_ x j+1)=at_ x j+1:=wrap64 (by omega) (by omega)
   have hz2:j<((hdz x j).set j (at_ x j+1)).length:=by rw [List.length_set];exact hjz
   have hat2:at_ ((hdz x j).set j (at_ x j+1)) j=at_ x j+1:=by rw [at_set hjz,if_pos rfl]
   have p1:=pisAt hjz;have p2:=pisAt hz2;rw [hdat]at p1
   rw [hat2]at p2
   have hsle:j+1≤O.length:=h2;simp only [pwA,seval,-iQ0,h2,hzl,zI,p1,wx1,hsle,za hjz,QW];simp only [pwA,seval,-iQ0,h2,hzl,zI,p1,p2,wx1,hsle,za hjz,QW,hne,e0,pisAt h2];refine iteI (fun heq=>?_) fun hneq=>?_
   ·have hh0:((hdz x j).set j (at_ x j+1)).set j 0=(hdz x j).set j 0:=by rw [List.set_set]
    simp only [pwA,seval,-iQ0,h2,hzl,List.length_set,zI,hsle,za hz2,hh0,hne,e1,hjP,hpr];have ht0:TT O (O.length-d) ((hdz x j).set j 0):=(zFn hx fun t ht=>s.pos ht).set h2 h1 ⟨by omega,by omega⟩
    refine Zq s F (t:=j+1) (by omega) hTG (hs0.set hne (pis ((hdz x j).set j 0))) hR0 (x:=(hdz x j).set j 0) (by simp only [pwA,seval,-iQ0]) hse hne hcap ht0 hpv (FI.mk hpv.len) ?_
    simp only [pwA,seval,-iQ0,QW];have hY:TT O (O.length-d) (mu O P C d ((hdz x j).set j 0) (pvec P j)):=M.cl ht0 (hpv.mono (by omega))
    have hfoY:fo (mu O P C d) (cvec C j) (nx x) (j+(1+0)) (O.length-(j+1)-0) (mu O P C d ((hdz x j).set j 0) (pvec P j))=tstep O P C (mu O P C d) x j:=by
     rw [tstep,if_pos heq,show O.length-1-j=O.length-(j+1)-0 by omega]
    generalize mu O P C d ((hdz x j).set j 0) (pvec P j)=Y at hY hfoY ⊢
    refine zG (fun m vs h'=>∃(k:Nat) (y:List Int),k≤O.length-(j+1)∧m=O.length-(j+1)-k∧vs=[.ptr sp 0,.sl se 0 O.length cap,.int .i64 j,.fz true av (O.length-(j+1)) (pis (x.drop (j+1))),.int .i64 ((O.length-(j+1):Nat):Int),.int .i64 k]∧h'=σ.set se (pis y)∧TT O (O.length-d) y∧fo (mu O P C d) (cvec C j) (nx x) (j+(1+k)) (O.length-(j+1)-k) y=tstep O P C (mu O P C d) x j) (O.length-(j+1)) ?_ ?_
    ·exact⟨0,Y,by omega,by omega,rfl,rfl,hY,hfoY⟩
    rintro m vs h' ⟨k,y,hk1,rfl,rfl,rfl,hy,hfo⟩
    simp only [pwA,seval,-iQ0];refine iteI (fun hlt=>?_) fun hge=>?_
    rotate_left
    ·have hke:O.length-(j+1)-k=0:=by omega
     rw [hke]at hfo
     rw [←hfo]at hk
     exact hk
    have hjl:j+(1+k)<O.length:=by omega
    have hkd:k<(x.drop (j+1)).length:=by omega
    have hdat3:at_ (x.drop (j+1)) k=at_ x (j+(1+k)):=by
     simp only [at_,List.getD_eq_getElem?_getD,List.getElem?_drop,show j+1+k=j+(1+k) by omega]
    have pk:=pisAt hkd;rw [hdat3]at pk
    have bk:=hx.bd (j+(1+k)) hjl;have bOk:=s.pr _ hjl;have hnx:((nx x (j+(1+k)):Nat):Int)=at_ x (j+(1+k)):=Int.toNat_of_nonneg bk.1;obtain⟨w7,a7,hrk⟩:=hrs k (by omega)
    have hcv:=s.cj j (j+(1+k)) (by omega) hjl
    have hkr:k<O.length-1-j:=by omega
    rw [show O.length-(j+1)-k=(O.length-(j+1)-k-1)+1 by omega]at hfo
    simp only [pwA,seval,-iQ0,pk,hkd,hlt];refine zG (fun m vs h'=>∃(q:Nat) (y:List Int),q≤nx x (j+(1+k))∧m=nx x (j+(1+k))-q∧vs=[.ptr sp 0,.sl se 0 O.length cap,.int .i64 j,.int .i64 k,.fz true av (O.length-(j+1)) (pis (x.drop (j+1))),.int .i64 ((O.length-(j+1):Nat):Int),.int .i64 k,.int .i64 (at_ x (j+(1+k))),.int .i64 q]∧h'=σ.set se (pis y)∧TT O (O.length-d) y∧fo (mu O P C d) (cvec C j) (nx x) (j+(1+k)+1) (O.length-(j+1)-k-1) (rep (mu O P C d) (cvec C j (j+(1+k))) (nx x (j+(1+k))-q) y)=tstep O P C (mu O P C d) x j) (nx x (j+(1+k))) ?_ ?_
    ·exact⟨0,y,by omega,by omega,rfl,rfl,hy,hfo⟩
    rintro m vs h' ⟨q,y,hqn,rfl,rfl,rfl,hy,hfo⟩
    simp only [pwA,seval,-iQ0];refine iteI (fun hlt2=>?_) fun hge2=>?_
    ·have hlt3:q<nx x (j+(1+k)):=by omega
     simp only [pwA,seval,-iQ0,hne,e2,hjC,hrb,hkr,hrk];refine Zq s F (t:=j+1) (by omega) hTG (hs0.set hne (pis y)) hR0 (x:=y) (by simp only [pwA,seval,-iQ0]) hse hne hcap hy hcv (FI.mk hcv.len) ?_
     simp only [pwA,seval,-iQ0,QW,wrapS hlt3 (by omega:nx x (j+(1+k))≤4611686018427387904)]
     refine⟨_,by omega,q+1,_,by omega,rfl,rfl,rfl,M.cl hy (hcv.mono (by omega)),?_⟩
     rw [show nx x (j+(1+k))-q=(nx x (j+(1+k))-(q+1))+1 by omega]at hfo
     exact hfo
    ·have hqe:q=nx x (j+(1+k)):=by omega
     subst hqe;rw [Nat.sub_self]at hfo
     simp only [pwA,seval,-iQ0,wrapS hlt (by omega:O.length-(j+1)≤4611686018427387904)]
     refine⟨_,by omega,k+1,y,by omega,rfl,rfl,rfl,hy,?_⟩
     rw [show O.length-(j+1)-(k+1)=O.length-(j+1)-k-1 by omega]
     exact hfo
   ·have hY:TT O (O.length-d) ((hdz x j).set j (at_ x j+1)):=(zFn hx fun t ht=>s.pos ht).set h2 h1 ⟨by omega,by omega⟩
    have hfoY:fo (mu O P C d) (cvec C j) (nx x) (j+(1+0)) (O.length-(j+1)-0) ((hdz x j).set j (at_ x j+1))=tstep O P C (mu O P C d) x j:=by
     rw [tstep,if_neg hneq,show O.length-1-j=O.length-(j+1)-0 by omega]
    clear p2 hat2 hz2;generalize (hdz x j).set j (at_ x j+1)=Y at hY hfoY ⊢
    refine zG (fun m vs h'=>∃(k:Nat) (y:List Int),k≤O.length-(j+1)∧m=O.length-(j+1)-k∧vs=[.ptr sp 0,.sl se 0 O.length cap,.int .i64 j,.fz true av (O.length-(j+1)) (pis (x.drop (j+1))),.int .i64 ((O.length-(j+1):Nat):Int),.int .i64 k]∧h'=σ.set se (pis y)∧TT O (O.length-d) y∧fo (mu O P C d) (cvec C j) (nx x) (j+(1+k)) (O.length-(j+1)-k) y=tstep O P C (mu O P C d) x j) (O.length-(j+1)) ?_ ?_
    ·exact⟨0,Y,by omega,by omega,rfl,rfl,hY,hfoY⟩
    rintro m vs h' ⟨k,y,hk1,rfl,rfl,rfl,hy,hfo⟩
    simp only [pwA,seval,-iQ0];refine iteI (fun hlt=>?_) fun hge=>?_
    rotate_left
    ·have hke:O.length-(j+1)-k=0:=by omega
     rw [hke]at hfo
     rw [←hfo]at hk
     exact hk
    have hjl:j+(1+k)<O.length:=by omega
    have hkd:k<(x.drop (j+1)).length:=by omega
    have hdat3:at_ (x.drop (j+1)) k=at_ x (j+(1+k)):=by
     simp only [at_,List.getD_eq_getElem?_getD,List.getElem?_drop,show j+1+k=j+(1+k) by omega]
    have pk:=pisAt hkd;rw [hdat3]at pk
    have bk:=hx.bd (j+(1+k)) hjl;have bOk:=s.pr _ hjl;have hnx:((nx x (j+(1+k)):Nat):Int)=at_ x (j+(1+k)):=Int.toNat_of_nonneg bk.1;obtain⟨w7,a7,hrk⟩:=hrs k (by omega)
    have hcv:=s.cj j (j+(1+k)) (by omega) hjl
    have hkr:k<O.length-1-j:=by omega
    rw [show O.length-(j+1)-k=(O.length-(j+1)-k-1)+1 by omega]at hfo
    simp only [pwA,seval,-iQ0,pk,hkd,hlt];refine zG (fun m vs h'=>∃(q:Nat) (y:List Int),q≤nx x (j+(1+k))∧m=nx x (j+(1+k))-q∧vs=[.ptr sp 0,.sl se 0 O.length cap,.int .i64 j,.int .i64 k,.fz true av (O.length-(j+1)) (pis (x.drop (j+1))),.int .i64 ((O.length-(j+1):Nat):Int),.int .i64 k,.int .i64 (at_ x (j+(1+k))),.int .i64 q]∧h'=σ.set se (pis y)∧TT O (O.length-d) y∧fo (mu O P C d) (cvec C j) (nx x) (j+(1+k)+1) (O.length-(j+1)-k-1) (rep (mu O P C d) (cvec C j (j+(1+k))) (nx x (j+(1+k))-q) y)=tstep O P C (mu O P C d) x j) (nx x (j+(1+k))) ?_ ?_
    ·exact⟨0,y,by omega,by omega,rfl,rfl,hy,hfo⟩
    rintro m vs h' ⟨q,y,hqn,rfl,rfl,rfl,hy,hfo⟩
    simp only [pwA,seval,-iQ0];refine iteI (fun hlt2=>?_) fun hge2=>?_
    ·have hlt3:q<nx x (j+(1+k)):=by omega
     simp only [pwA,seval,-iQ0,hne,e2,hjC,hrb,hkr,hrk];refine Zq s F (t:=j+1) (by omega) hTG (hs0.set hne (pis y)) hR0 (x:=y) (by simp only [pwA,seval,-iQ0]) hse hne hcap hy hcv (FI.mk hcv.len) ?_
     simp only [pwA,seval,-iQ0,QW,wrapS hlt3 (by omega:nx x (j+(1+k))≤4611686018427387904)]
     refine⟨_,by omega,q+1,_,by omega,rfl,rfl,rfl,M.cl hy (hcv.mono (by omega)),?_⟩
     rw [show nx x (j+(1+k))-q=(nx x (j+(1+k))-(q+1))+1 by omega]at hfo
     exact hfo
    ·have hqe:q=nx x (j+(1+k)):=by omega
     subst hqe;rw [Nat.sub_self]at hfo
     simp only [pwA,seval,-iQ0,wrapS hlt (by omega:O.length-(j+1)≤4611686018427387904)]
     refine⟨_,by omega,k+1,y,by omega,rfl,rfl,rfl,hy,?_⟩
     rw [show O.length-(j+1)-(k+1)=O.length-(j+1)-k-1 by omega]
     exact hfo
theorem QT (s:Shp O P C) (F:Full O P C d) {sp se:Nat} {cap:Cap} (hs:PtrG σ sp vO vP vC) (hR:IsPr vO vP vC O P C)
  (he:σ.obj se=some (pis x)) (hse:se<σ.next) (hne:sp≠se) (hcap:full 1 cap O.length) (hx:TT O (O.length-d) x) (hf:TT O (O.length-d) f) (hvf:FI vf f) (hk:K (.tup []) (σ.set se (pis (mu O P C d x f)))):zA Tryz.prog 162 [.ptr sp 0,.sl se 0 O.length cap,vf] σ K:=
 Zq s F (Nat.le_refl _) (fun j h1 h2=>qi s F O.length h1 h2 (by omega)) hs hR he hse hne hcap hx hf hvf hk
end Go.Proofs
namespace Go.Grp
end Go.Grp
namespace Go.Proofs
open Go.Ab Go.Lie Go.Grp
variable {σ:PHeap} {K:PV→PHeap→Prop} {O:List Int} {P:List (List Int)} {C:List (List (List Int))} {vO vP vC vx vf va vb:PV} {x y f a b:List Int} {rP rC:List PV} {d j sp:Nat}
theorem zDF {v:PV} {sp:Nat} (hf:f=[]) (hvf:FI vf f) (hk:K (.tup []) σ):zA Tryz.prog 162 [.ptr sp 0,v,vf] σ K:=by
 obtain⟨wf,af,rfl⟩:=hvf;subst hf;refine zC mix Tryz.func162 ?_
 conv=>arg 2;cbv
 refine zF rfl ?_;simp only [pwA,seval,-iQ0];refine zG (fun m vs h'=>m=0∧vs=[.ptr sp 0,v,.fz wf af ([]:List Int).length (pis []),.int .i64 (([]:List Int).length:Nat),.int .i64 (0:Nat)]∧σ=h') 0 ⟨rfl,rfl,rfl⟩ ?_
 rintro m vs h' ⟨rfl,rfl,rfl⟩
 simp only [pwA,seval,-iQ0];exact hk
theorem zCf (s:Shp O P C) (F:Full O P C d) (hs:PtrG σ sp vO vP vC) (hR:IsPr vO vP vC O P C) (ha:TT O (O.length-d) a) (hb:TT O (O.length-d) b) (hva:FI va a) (hvb:FI vb b) (hk:ResI σ K (mu O P C d a b)):
  zA Tryz.prog 106 [.ptr sp 0,va,vb] σ K:=by
 have hn6:=s.le;have hal:=ha.len;have hml:=(F.gp.cl ha hb).len;have hne:sp≠σ.next:=Nat.ne_of_lt hs.lt;obtain⟨wa,aa,rfl⟩:=hva;refine zA.gh ?_;refine zC mix Tryz.func106 ?_
 conv=>arg 2;cbv
 refine zF rfl ?_;simp only [pwA,seval,-iQ0];refine zBU rfl (by omega) ⟨fun h0=>?_,fun cap hc=>?_⟩
 ·have hb0:b=[]:=List.eq_nil_of_length_eq_zero (by rw [hb.len,←hal,h0];rfl)
  simp only [pwA,seval,-iQ0];refine zDF hb0 hvb ?_;simp only [pwA,seval,-iQ0];exact Gh.fin0 (Keep.refl σ) trivial (hk.1 (List.eq_nil_of_length_eq_zero (by show(mu O P C d a b).length=0;rw [hml,←hal,h0];rfl)))
 ·rw [hal]at hc
  rw [hal];simp only [pwA,seval,-iQ0];refine QT s F (hs.new _) hR (x:=a) (by simp only [pwA,seval,-iQ0]) (by simp only [pwA,seval,-iQ0]) hne hc ha hb hvb ?_
  simp only [pwA,seval,-iQ0];rw [show O.length=(mu O P C d a b).length from hml.symm]at hc ⊢
  exact Gh.finS (zB σ _) (by simp only [pwA,seval,-iQ0]) (Nat.le_refl _) (zO _ _) (hk.2 cap hc)
theorem zCg (s:Shp O P C) (F:Full O P C d) (hs:PtrG σ sp vO vP vC) (hR:IsPr vO vP vC O P C) (ha:TT O (O.length-d) a) (hb:TT O (O.length-d) b) (hva:FI va a) (hvb:FI vb b) (hk:∀v,FI v (mu O P C d a b)→K v σ):
  zA Tryz.prog 106 [.ptr sp 0,va,vb] σ K:=zA.fzI (fun K'=>zCf s F hs hR ha hb hva hvb) fun a=>hk _ ⟨_,_,rfl⟩
theorem zKR (s:Shp O P C) (F:Full O P C d) (hs:PtrG σ sp vO vP vC) (hR:IsPr vO vP vC O P C) (ha:TT O (O.length-d) a) (hva:FI va a) {k:Int} (hk0:0≤k∧k≤1000000) (hk:ResI σ K (pw (mu O P C d) (zv O) a k.toNat)):
  zA Tryz.prog 153 [.ptr sp 0,va,.int .i64 k] σ K:=by
 have hn6:=s.le;have hal:=ha.len;have M:=F.gp.toMon;have hne:sp≠σ.next:=Nat.ne_of_lt hs.lt;have hva0:=hva;obtain⟨wa,aa,rfl⟩:=hva;rw [hal]at hva0 ⊢
 refine zA.gh ?_;refine zC mix Tryz.func153 ?_
 conv=>arg 2;cbv
 refine zF rfl ?_;simp only [pwA,seval,-iQ0,List.length_replicate,zi,mk8 (n:=O.length) (by omega),mkL (n:=O.length) (by omega)]
 refine zG (fun m vs h'=>∃q:Nat,q≤k.toNat∧m=k.toNat-q∧vs=[.ptr sp 0,.fz wa aa O.length (pis a),.sl σ.next 0 O.length (.known O.length),.int .i64 k,.int .i64 q]∧h'=σ.new (pis (pw (mu O P C d) (zv O) a q))) k.toNat ?_ ?_
 ·exact⟨0,by omega,by omega,rfl,rfl⟩
 rintro m vs h' ⟨q,hq,rfl,rfl,rfl⟩
 simp only [pwA,seval,-iQ0];refine iteI (fun hlt=>?_) fun hge=>?_
 ·have hlt3:q<k.toNat:=by omega
  have hp:=M.pw ha q;refine QT s F (hs.new _) hR (x:=pw (mu O P C d) (zv O) a q) (by simp only [pwA,seval,-iQ0]) (by simp only [pwA,seval,-iQ0]) hne (.inr rfl) hp ha hva0 ?_
  simp only [pwA,seval,-iQ0,wrapS hlt3 (by omega:k.toNat≤4611686018427387904)]
  exact⟨_,by omega,q+1,by omega,rfl,rfl,rfl⟩
 ·have hqe:q=k.toNat:=by omega
  subst hqe;have hml:=(M.pw ha k.toNat).len;have hc:full 1 (.known O.length) (pw (mu O P C d) (zv O) a k.toNat).length:=.inr (by rw [hml])
  refine Gh.finS (zB σ _) (by simp only [pwA,seval,-iQ0];rfl) (Nat.le_refl _) (zO _ _) ?_
  have:=hk.2 _ hc
  rwa [hml]at this
theorem zKS (s:Shp O P C) (F:Full O P C d) (hs:PtrG σ sp vO vP vC) (hR:IsPr vO vP vC O P C) (ha:TT O (O.length-d) a) (hva:FI va a) {k:Int} (hk0:0≤k∧k≤1000000) (hk:∀v,FI v (pw (mu O P C d) (zv O) a k.toNat)→K v σ):
  zA Tryz.prog 153 [.ptr sp 0,va,.int .i64 k] σ K:=zA.fzI (fun K'=>zKR s F hs hR ha hva hk0) fun a=>hk _ ⟨_,_,rfl⟩
theorem mu_step (s:Shp O P C) {i:Nat} (hd:O.length-d≤i) (hle:d≤O.length) (hi:i<O.length) (hx:TT O i x):TT O i (mu O P C d x (Grp.unit O i))∧at_ (mu O P C d x (Grp.unit O i)) i=if at_ x i+1=at_ O i then 0 else at_ x i+1:=by
 have hu:TT O i (Grp.unit O i):=s.unit hi (Nat.le_refl _);obtain⟨e,he⟩:∃e,O.length-i=e+1:=⟨O.length-i-1,by omega⟩
 have hie:O.length-(e+1)=i:=by omega
 have e1:mu O P C d x (Grp.unit O i)=mu O P C (e+1) x (Grp.unit O i):=by
  have:=zJS s (d:=e+1) (k:=d-(e+1)) (u:=x) (v:=Grp.unit O i) (by omega) (by rw [hie];exact hx) (by rw [hie];exact hu)
  rwa [show e+1+(d-(e+1))=d by omega]at this
 have h1:=mu_tt s (d:=e+1) (a:=x) (b:=Grp.unit O i) (by omega) (by rw [hie];exact hx) (by rw [hie];exact hu)
 rw [hie]at h1
 rw [e1];refine⟨h1,?_⟩;have bx:=hx.bd i hi;have bO:=s.pr i hi;have hat:at_ (Grp.unit O i) i=1:=by rw [at_set (by simp;exact hi),if_pos rfl]
 have hpos:=s.pos hi;have hm:∀a b,TT O (i+1) a→TT O (i+1) b→TT O (i+1) (mu O P C e a b):=fun a b ha hb=>by
  have:=mu_tt s (d:=e) (a:=a) (b:=b) (by omega) (by rwa [show O.length-e=i+1 by omega]) (by rwa [show O.length-e=i+1 by omega])
  rwa [show O.length-e=i+1 by omega]at this
 have ir:=hm _ _ (zA7 (fun x _=>QL s hm x) (nx (Grp.unit O i) i) (hx.set0 hi hpos)) (hu.set0 hi hpos)
 simp only [mu,hie];rw [hat]
 split
 ·have ir2:=hm _ _ (s.pw i hi) ir
  rw [at_set (by rw [ir2.len];exact hi),if_pos rfl]
  split<;>omega
 ·rw [at_set (by rw [ir.len];exact hi),if_pos rfl,if_neg (by omega)]
end Go.Proofs
namespace Go.Grp
end Go.Grp
namespace Go.Proofs
open Go.Ab Go.Lie Go.Grp
variable {σ:PHeap} {K:PV→PHeap→Prop} {O:List Int} {P:List (List Int)} {C:List (List (List Int))} {vO vP vC vx vf va vb:PV} {x y f a b:List Int} {rP rC:List PV} {d j sp:Nat}
theorem zJf (s:Shp O P C) (F:Full O P C d) (hs:PtrG σ sp vO vP vC) (hR:IsPr vO vP vC O P C) (ha:TT O (O.length-d) a) (hva:FI va a) (hk:∀z,TT O (O.length-d) z→mu O P C d a z=zv O→ResI σ K z):
  zA Tryz.prog 107 [.ptr sp 0,va] σ K:=by
 have hn6:=s.le;have hle:=F.le;have hal:=ha.len;have M:=F.gp.toMon;have hne:sp≠σ.next:=Nat.ne_of_lt hs.lt;have hne2:sp≠σ.next+1:=by have:=hs.lt;omega
 obtain⟨wa,aa,rfl⟩:=hva;refine zA.gh ?_;refine zC mix Tryz.func107 ?_
 conv=>arg 2;cbv
 refine zF rfl ?_;simp only [pwA,seval,-iQ0];refine zBU rfl (by omega) ⟨fun h0=>?_,fun cap hc=>?_⟩
 ·have hO0:O=[]:=List.eq_nil_of_length_eq_zero (by rw [←hal,h0];rfl)
  subst hO0;subst h0;simp only [pwA,seval,-iQ0,mk8 (n:=0) (by omega),mkL (n:=0) (by omega)]
  refine zG (fun m vs h'=>m=0∧vs=[.ptr sp 0,.fz true .nils 0 [],.sl σ.next 0 0 (.known 0),.int .i64 (0:Nat),.int .i64 (0:Nat)]∧h'=σ.new []) 0 ⟨rfl,rfl,rfl⟩ ?_
  rintro m vs h' ⟨rfl,rfl,rfl⟩
  simp only [pwA,seval,-iQ0];have hd0:d=0:=by simpa using hle
  exact Gh.finS (cs:=pis []) (zB σ _) (by simp only [pwA,seval,-iQ0];rfl) (Nat.le_refl _) (zO _ _) ((hk [] (s.zv _) (by subst hd0;rfl)).2 _ (.inr rfl))
 rw [hal]at hc
 rw [hal];simp only [pwA,seval,-iQ0,List.length_replicate,zi,mk8 (n:=O.length) (by omega),mkL (n:=O.length) (by omega)]
 refine zG (fun m vs h'=>∃(i:Nat) (r z:List Int),i≤O.length∧m=O.length-i∧vs=[.ptr sp 0,.sl σ.next 0 O.length cap,.sl (σ.next+1) 0 O.length (.known O.length),.int .i64 O.length,.int .i64 i]∧h'=(σ.new (pis r)).new (pis z)∧TT O (O.length-d) r∧TT O i r∧TT O (O.length-d) z∧mu O P C d a z=r) O.length ?_ ?_
 ·exact⟨0,a,zv O,by omega,by omega,rfl,rfl,ha,ha.mono (Nat.zero_le _),s.zv _,M.r1 ha⟩
 rintro m vs h' ⟨i,r,z,hi,rfl,rfl,rfl,hr,hri,hz,hinv⟩
 simp only [pwA,seval,-iQ0];refine iteI (fun hlt=>?_) fun hge=>?_
 rotate_left
 ·have hie:i=O.length:=by omega
  subst hie;have hr0:r=zv O:=hri.ext (s.zv _) fun j h1 h2=>by omega
  rw [hr0]at hinv
  have hzl:=hz.len
  have:=(hk z hz hinv).2 (.known O.length) (.inr (by rw [hzl]))
  rw [hzl]at this
  exact Gh.finS (s:=σ.next+1) ((zB σ _).new _) (by simp only [pwA,seval,-iQ0]) (by omega) (zO _ _) this
 simp only [pwA,seval,-iQ0];have bO:=s.pr i hlt;refine zG (fun m vs h'=>∃(r z:List Int),m=((at_ O i-at_ r i) % at_ O i).toNat∧vs=[.ptr sp 0,.sl σ.next 0 O.length cap,.sl (σ.next+1) 0 O.length (.known O.length),.int .i64 i,.int .i64 O.length,.int .i64 i]∧h'=(σ.new (pis r)).new (pis z)∧TT O (O.length-d) r∧TT O i r∧TT O (O.length-d) z∧mu O P C d a z=r) _ ⟨r,z,rfl,rfl,rfl,hr,hri,hz,hinv⟩ ?_
 rintro m vs h' ⟨r,z,rfl,rfl,rfl,hr,hri,hz,hinv⟩
 have hrl:i<r.length:=by rw [hr.len];exact hlt
 have br:=hr.bd i hlt;simp only [pwA,seval,-iQ0,hlt,pisAt hrl];refine iteI (fun heq=>?_) fun hneq=>?_
 ·simp only [pwA,seval,-iQ0,wrapS hlt (by omega:O.length≤4611686018427387904)]
  refine⟨_,by omega,i+1,r,z,by omega,rfl,rfl,rfl,hr,?_,hz,hinv⟩
  refine⟨hri.len,hri.bd,fun t ht=>?_⟩
  by_cases e:t=i
  ·subst e;exact heq
  ·exact hri.zero t (by omega)
 ·have hdi:O.length-d≤i:=by
   rcases Nat.lt_or_ge i (O.length-d)with h|h
   ·exact absurd (hr.zero i h) hneq
   ·exact h
  have hu:TT O (O.length-d) (Grp.unit O i):=s.unit hlt hdi;obtain⟨m1,m2⟩:=mu_step s hdi hle hlt hri;refine qi s F O.length hdi hlt (by omega) _ _ sp σ.next cap r vO vP vC ((hs.new _).new _) hR (by simp only [pwA,seval,-iQ0]) (by simp only [pwA,seval,-iQ0];omega) hne hc hr ?_
  simp only [pwA,seval,-iQ0];refine qi s F O.length hdi hlt (by omega) _ _ sp (σ.next+1) (.known O.length) z vO vP vC ((hs.new _).new _) hR (by simp only [pwA,seval,-iQ0]) (by simp only [pwA,seval,-iQ0]) hne2 (.inr rfl) hz ?_
  simp only [pwA,seval,-iQ0];refine⟨_,?_,_,_,rfl,rfl,M.cl hr hu,m1,M.cl hz hu,by rw [←M.as ha hz hu,hinv]⟩
  rw [m2]
  split
  ·rename_i e
   rw [Int.sub_zero,Int.emod_self]
   have:(at_ O i-at_ r i) % at_ O i=at_ O i-at_ r i:=Int.emod_eq_of_lt (by omega) (by omega)
   omega
  ·rename_i e
   have h1:(at_ O i-at_ r i) % at_ O i=at_ O i-at_ r i:=Int.emod_eq_of_lt (by omega) (by omega)
   have h2:(at_ O i-(at_ r i+1)) % at_ O i=at_ O i-(at_ r i+1):=Int.emod_eq_of_lt (by omega) (by omega)
   omega
theorem zEc (s:Shp O P C) (F:Full O P C d) (hs:PtrG σ sp vO vP vC) (hR:IsPr vO vP vC O P C) (ha:TT O (O.length-d) a) (hva:FI va a) (hk:∀v z,TT O (O.length-d) z→mu O P C d a z=zv O→FI v z→K v σ):
  zA Tryz.prog 107 [.ptr sp 0,va] σ K:=
 zA.gh (zJf s F hs hR ha hva fun z h1 h2=>⟨fun h0=>Gh.fin0 (Keep.refl σ) trivial (hk _ z h1 h2 ⟨true,.nils,by rw [h0];rfl⟩),fun cap hc=>Gh.finF (zB σ _) (by simp only [pwA,seval,-iQ0]) (Nat.le_refl _) (zO _ _) hc.ok fun o=>hk _ z h1 h2 ⟨true,.sl o 0 z.length cap,rfl⟩⟩)
theorem zF2 (s:Shp O P C) (F:Full O P C d) (hs:PtrG σ sp vO vP vC) (hR:IsPr vO vP vC O P C) (ha:TT O (O.length-d) a) (hb:TT O (O.length-d) b) (hva:FI va a) (hvb:FI vb b) (hk:∀z,TT O (O.length-d) z→mu O P C d b z=mu O P C d a b→ResI σ K z):
  zA Tryz.prog 155 [.ptr sp 0,va,vb] σ K:=by
 have M:=F.gp.toMon;refine zA.gh ?_;refine zC mix Tryz.func155 ?_
 conv=>arg 2;cbv
 refine zF rfl ?_;simp only [pwA,seval,-iQ0];refine zEc s F hs hR hb hvb fun v1 z1 h1 h2 f1=>?_
 simp only [pwA,seval,-iQ0];refine zCg s F hs hR ha hb hva hvb fun v2 f2=>?_
 simp only [pwA,seval,-iQ0];have hab:=M.cl ha hb;have hz:=M.cl h1 hab;have hr:=hk _ hz (by rw [←M.as hb h1 hab,h2,M.l1 hab])
 refine zCf s F hs hR h1 hab f1 f2 ⟨fun h0=>?_,fun cap hc=>?_⟩
 ·simp only [pwA,seval,-iQ0]
  exact Gh.ret (hr.1 h0)
 ·simp only [pwA,seval,-iQ0]
  exact Gh.ret (hr.2 cap hc)
theorem zCA (s:Shp O P C) (F:Full O P C d) (hs:PtrG σ sp vO vP vC) (hR:IsPr vO vP vC O P C) (ha:TT O (O.length-d) a) (hb:TT O (O.length-d) b) (hva:FI va a) (hvb:FI vb b) (hk:∀v z,TT O (O.length-d) z→mu O P C d b z=mu O P C d a b→FI v z→K v σ):
  zA Tryz.prog 155 [.ptr sp 0,va,vb] σ K:=
 zA.gh (zF2 s F hs hR ha hb hva hvb fun z h1 h2=>⟨fun h0=>Gh.fin0 (Keep.refl σ) trivial (hk _ z h1 h2 ⟨true,.nils,by rw [h0];rfl⟩),fun cap hc=>Gh.finF (zB σ _) (by simp only [pwA,seval,-iQ0]) (Nat.le_refl _) (zO _ _) hc.ok fun o=>hk _ z h1 h2 ⟨true,.sl o 0 z.length cap,rfl⟩⟩)
theorem Qz (s:Shp O P C) (F:Full O P C d) {i:Nat} (hi:O.length=d+(i+1)) (hs:PtrG σ sp vO vP vC) (hR:IsPr vO vP vC O P C) (hx:TT O 0 x) (hvx:FI vx x) (hk:∀v,FI v (Grp.img O C (mu O P C d) i x)→K v σ):
  zA Tryz.prog 154 [.ptr sp 0,.int .i64 i,vx] σ K:=by
 have hn6:=s.le;have hxl:=hx.len;have hil:i<O.length:=by omega
 have M:=F.gp.toMon;have hne:sp≠σ.next:=Nat.ne_of_lt hs.lt;have hR0:=hR;have hs0:=hs;have edi:O.length-d=i+1:=by omega
 obtain⟨⟨w0,a0,rfl⟩,⟨w1,a1,rP,rfl,hP⟩,⟨w3,a3,rC,rfl,hC⟩⟩:=hR;obtain⟨w5,a5,rs,hrb,hrs⟩:=cvRow s hC hil;have hiC:i<C.length:=by rw [s.cl];exact hil
 have e2:σ.rd1 sp 2=some (.fz w3 a3 C.length rC):=by rw [zH hs.obj];rfl
 have wi1:IntKind.i64.wrap ((i:Int)+1)=((i+1:Nat):Int):=wrapS hil (by omega)
 obtain⟨wx,ax,rfl⟩:=hvx;rw [hxl];have hlr:O.length-1-i=d:=by omega
 rw [hlr]at hrb hrs
 refine zA.gh ?_;refine zC mix Tryz.func154 ?_
 conv=>arg 2;cbv
 refine zF rfl ?_;simp only [pwA,seval,-iQ0,List.length_replicate,zi,mk8 (n:=O.length) (by omega),mkL (n:=O.length) (by omega),e2,hne,hiC,hrb]
 refine zG (fun m vs h'=>∃(k:Nat) (y:List Int),k≤d∧m=d-k∧vs=[.ptr sp 0,.int .i64 i,.fz wx ax O.length (pis x),.sl σ.next 0 O.length (.known O.length),.fz w5 a5 d rs,.int .i64 d,.int .i64 k]∧h'=σ.new (pis y)∧TT O (i+1) y∧fo (mu O P C d) (cvec C i) (nx x) (i+(1+k)) (d-k) y=Grp.img O C (mu O P C d) i x) d ?_ ?_
 ·exact⟨0,zv O,by omega,by omega,rfl,rfl,s.zv _,by rw [Grp.img,hlr];rfl⟩
 rintro m vs h' ⟨k,y,hkd,rfl,rfl,rfl,hy,hfo⟩
 simp only [pwA,seval,-iQ0];refine iteI (fun hlt=>?_) fun hge=>?_
 rotate_left
 ·have hke:d-k=0:=by omega
  rw [hke]at hfo
  rw [←hfo]at hk
  exact Gh.finF (zB σ _) (by simp only [pwA,seval,-iQ0];rfl) (Nat.le_refl _) (zO _ _) (by simp [capOK]) fun o=>hk _ (FI.mk hy.len)
 have hjl:i+(1+k)<O.length:=by omega
 have hjx:i+(1+k)<x.length:=by omega
 have bk:=hx.bd (i+(1+k)) hjl;have bOk:=s.pr _ hjl;have hnx:((nx x (i+(1+k)):Nat):Int)=at_ x (i+(1+k)):=Int.toNat_of_nonneg bk.1;obtain⟨w7,a7,hrk⟩:=hrs k hlt;have hcv:=s.cj i (i+(1+k)) (by omega) hjl
 have e3:IntKind.i64.wrap (((i+1:Nat):Int)+(k:Int))=((i+(1+k):Nat):Int):=by rw [wrap64 (by omega) (by omega)];omega
 rw [show d-k=(d-k-1)+1 by omega]at hfo
 simp only [pwA,seval,-iQ0,hlt,hrk,wi1,e3,hjl,pisAt hjx];refine zG (fun m vs h'=>∃(q:Nat) (y:List Int),q≤nx x (i+(1+k))∧m=nx x (i+(1+k))-q∧vs=[.ptr sp 0,.int .i64 i,.fz wx ax O.length (pis x),.sl σ.next 0 O.length (.known O.length),.fz w7 a7 O.length (pis (cvec C i (i+(1+k)))),.fz w5 a5 d rs,.int .i64 d,.int .i64 k,.int .i64 (at_ x (i+(1+k))),.int .i64 q]∧h'=σ.new (pis y)∧TT O (i+1) y∧fo (mu O P C d) (cvec C i) (nx x) (i+(1+k)+1) (d-k-1) (rep (mu O P C d) (cvec C i (i+(1+k))) (nx x (i+(1+k))-q) y)=Grp.img O C (mu O P C d) i x) (nx x (i+(1+k))) ?_ ?_
 ·exact⟨0,y,by omega,by omega,rfl,rfl,hy,hfo⟩
 rintro m vs h' ⟨q,y,hqn,rfl,rfl,rfl,hy,hfo⟩
 simp only [pwA,seval,-iQ0];refine iteI (fun hlt2=>?_) fun hge2=>?_
 ·have hlt3:q<nx x (i+(1+k)):=by omega
  refine QT s F (hs0.new _) hR0 (x:=y) (by simp only [pwA,seval,-iQ0]) (by simp only [pwA,seval,-iQ0]) hne (.inr rfl) (by rw [edi];exact hy) (by rw [edi];exact hcv) (FI.mk hcv.len) ?_
  simp only [pwA,seval,-iQ0,wrapS hlt3 (by omega:nx x (i+(1+k))≤4611686018427387904)]
  have hmy:=M.cl (a:=y) (b:=cvec C i (i+(1+k))) (by rw [edi];exact hy) (by rw [edi];exact hcv)
  rw [edi]at hmy
  refine⟨_,by omega,q+1,_,by omega,rfl,rfl,rfl,hmy,?_⟩
  rw [show nx x (i+(1+k))-q=(nx x (i+(1+k))-(q+1))+1 by omega]at hfo
  exact hfo
 ·have hqe:q=nx x (i+(1+k)):=by omega
  subst hqe;rw [Nat.sub_self]at hfo
  simp only [pwA,seval,-iQ0,wrapS hlt (by omega:d≤4611686018427387904)]
  refine⟨_,by omega,k+1,y,by omega,rfl,rfl,rfl,hy,?_⟩
  rw [show d-(k+1)=d-k-1 by omega]
  exact hfo
end Go.Proofs
namespace Go.Grp
end Go.Grp
namespace Go.Proofs
open Go.Ab Go.Lie Go.Grp
variable {σ:PHeap} {K:PV→PHeap→Prop} {O:List Int} {P:List (List Int)} {C:List (List (List Int))} {vO vP vC vx:PV} {s:Nat} {x:List Int} {rP rC:List PV}
theorem zGl (s:Shp O P C) {d i:Nat} (hi:O.length=d+(i+1)) (B:Beh O P C d) (hR:IsPr vO vP vC O P C)
  (hk:∀f0 f1 f2 f3:Int,(f0=0↔Lv O P C i)→K (.agg [.int .i64 f0,.int .i64 f1,.int .i64 f2,.int .i64 f3]) σ):zA Tryz.prog 204 [.agg [vO,vP,vC],.int .i64 i] σ K:=by
 have hn6:=s.le;have hR0:=hR;have hil:i<O.length:=by omega
 have hAt:AtOK O P C d (i+1):=zCw s (by omega)
 have M:=B.gp.toMon;rw [show O.length-d=i+1 by omega]at M
 have ed:O.length-1-i=d:=by omega
 have yes:((∀q,q<d→pw (mu O P C d) (zv O) (cvec C i (i+(1+q))) (nx O (i+(1+q)))=Grp.img O C (mu O P C d) i (pvec P (i+(1+q))))→
   (∀q r,q+(1+r)<d→mu O P C d (cvec C i (i+(1+(q+(1+r))))) (cvec C i (i+(1+q)))=mu O P C d (cvec C i (i+(1+q))) (Grp.img O C (mu O P C d) i (cvec C (i+(1+q)) (i+(1+(q+(1+r)))))))→
   Grp.img O C (mu O P C d) i (pvec P i)=pvec P i→
   (∀q,q<d→mu O P C d (pvec P i) (iter (Grp.img O C (mu O P C d) i) (nx O i) (unitL O.length (i+(1+q))))=mu O P C d (unitL O.length (i+(1+q))) (pvec P i))→Lv O P C i):=fun h1 h2 h3 h4=>by
  refine⟨fun j g1 g2=>?_,fun j k g1 g2 g3=>?_,?_,fun j g1 g2=>?_⟩
  ·have:=h1 (j-i-1) (by omega);rw [show i+(1+(j-i-1))=j by omega]at this;rw [ed];exact this
  ·have:=h2 (j-i-1) (k-j-1) (by omega);rw [show i+(1+(j-i-1))=j by omega,show i+(1+(j-i-1+(1+(k-j-1))))=k by omega]at this;rw [ed];exact this
  ·rw [ed];exact h3
  ·have:=h4 (j-i-1) (by omega);rw [show i+(1+(j-i-1))=j by omega]at this;rw [ed];exact this
 obtain⟨⟨w0,a0,rfl⟩,⟨w1,a1,rP,rfl,hP⟩,⟨w3,a3,rC,rfl,hC⟩⟩:=hR;obtain⟨w5,a5,rs,hrb,hrs⟩:=cvRow s hC hil;have hiC:i<C.length:=by rw [s.cl];exact hil
 have hiP:i<P.length:=by rw [s.pl];exact hil
 refine zA.gh ?_;have fin:∀{f0 f1 f2 f3:Int} {σ':PHeap},(f0=0↔Lv O P C i)→Keep σ σ'→Gh σ K (.agg [.int .i64 f0,.int .i64 f1,.int .i64 f2,.int .i64 f3]) σ':=fun h k=>Gh.fin0 k ⟨trivial,trivial,trivial,trivial,trivial⟩ (hk _ _ _ _ h)
 have no:∀{f0:Int},f0≠0→¬Lv O P C i→(f0=0↔Lv O P C i):=fun h g=>⟨fun x=>absurd x h,fun x=>absurd x g⟩
 refine zR mix Tryz.func204 cf204 rfl ?_;dsimp only [if204,qI,eI,qD,eD,mI0,kI0,lI0,LI0,fI0,xI0,bI0,cI0,nI0,sI0,C2,C3,mD0,lD0,fD0,xD0,I0,vI0,R0,S0];simp only [pwA,seval,-iQ0];have hkp:∀cs:List PV,Keep σ ((σ.new [.fz w0 a0 O.length (pis O),.fz w1 a1 P.length rP,.fz w3 a3 C.length rC]).new cs):=fun cs=>(zB σ _).new _
 have wi1:IntKind.i64.wrap ((i:Int)+1)=((i+1:Nat):Int):=wrapS hil (by omega)
 -- first condition
 simp only [pwA,seval,-iQ0,wi1];refine zG (fun m vs h'=>∃q:Nat,q≤d∧m=d-q∧vs=[.int .i64 i,.ptr σ.next 0,.ptr (σ.next+1) 0,.int .i64 O.length,.int .i64 i,.int .i64 ((i+(1+q):Nat):Int)]∧
  h'=(σ.new [.fz w0 a0 O.length (pis O),.fz w1 a1 P.length rP,.fz w3 a3 C.length rC]).new [.int .i64 0,.int .i64 0,.int .i64 0,.int .i64 0]∧∀q',q'<q→pw (mu O P C d) (zv O) (cvec C i (i+(1+q'))) (nx O (i+(1+q')))=Grp.img O C (mu O P C d) i (pvec P (i+(1+q')))) d ?_ ?_
 ·exact⟨0,by omega,by omega,rfl,rfl,fun q h=>by omega⟩
 rintro m vs h' ⟨q,hq,rfl,rfl,rfl,hall⟩
 simp only [pwA,seval,-iQ0];refine iteI (fun hlt=>?_) fun hge=>?_
 ·have hjO:i+(1+q)<O.length:=by omega
  have hjP:i+(1+q)<P.length:=by rw [s.pl];exact hjO
  obtain⟨w6,a6,hrk⟩:=hrs q (by omega)
  obtain⟨w7,a7,hpr⟩:=pvRow s hP hjO;have hjr:q<O.length-1-i:=by omega
  have hcv:=s.cj i (i+(1+q)) (by omega) (by omega)
  have hpv:=s.pw (i+(1+q)) hjO;have hO:=s.pr _ hjO;have e3:IntKind.i64.wrap (((i+(1+q):Nat):Int)-(i:Int))=((1+q:Nat):Int):=by rw [wrap64 (by omega) (by omega)];omega
  have e4:IntKind.i64.wrap (((1+q:Nat):Int)-1)=(q:Int):=by rw [wrap64 (by omega) (by omega)];omega
  have e5:IntKind.i64.wrap (((i+(1+q):Nat):Int)+1)=((i+(1+(q+1)):Nat):Int):=by rw [wrap64 (by omega) (by omega)];omega
  simp only [pwA,seval,-iQ0,wi1,hiC,hrb,e3,e4,hjr,hrk,hjO,pisAt hjO];refine zFf s (by omega) hAt M hR0 hcv (FI.mk hcv.len) (by omega) fun v hv=>?_
  simp only [pwA,seval,-iQ0,wi1,hiC,hrb,e3,e4,hjr,hrk,hjO,pisAt hjO,hjP,hpr];refine Zy s (by omega) hAt hR0 (hpv.mono (Nat.zero_le _)) (FI.mk hpv.len) fun v2 hv2=>?_
  obtain⟨w8,a8,rfl⟩:=hv;obtain⟨w9,a9,rfl⟩:=hv2;simp only [pwA,seval,-iQ0,hjP,hpr];refine QJ rfl rfl (by have:=(M.pw hcv (at_ O (i+(1+q))).toNat).len;omega) ?_
  by_cases he:pw (mu O P C d) (zv O) (cvec C i (i+(1+q))) (nx O (i+(1+q)))=Grp.img O C (mu O P C d) i (pvec P (i+(1+q)))
  ·simp only [pwA,seval,-iQ0,eq_true he,e5]
   refine⟨_,by omega,q+1,by omega,rfl,rfl,fun q' h=>?_⟩
   by_cases e:q'=q
   ·subst e;exact he
   ·exact hall q' (by omega)
  ·simp only [pwA,seval,-iQ0,he]
   exact fin (no (by decide) fun L=>he (by have:=L.pow (i+(1+q)) (by omega) hjO;rwa [ed]at this)) (hkp _)
 have hqd:q=d:=by omega
 subst hqd
 -- second condition
 simp only [pwA,seval,-iQ0,wi1];refine zG (fun m vs h'=>∃q':Nat,q'≤q∧m=q-q'∧vs=[.int .i64 i,.ptr σ.next 0,.ptr (σ.next+1) 0,.int .i64 O.length,.int .i64 i,.int .i64 ((i+(1+q'):Nat):Int)]∧
  h'=(σ.new [.fz w0 a0 O.length (pis O),.fz w1 a1 P.length rP,.fz w3 a3 C.length rC]).new [.int .i64 0,.int .i64 0,.int .i64 0,.int .i64 0]∧
  ∀t r,t<q'→t+(1+r)<q→mu O P C q (cvec C i (i+(1+(t+(1+r))))) (cvec C i (i+(1+t)))=mu O P C q (cvec C i (i+(1+t))) (Grp.img O C (mu O P C q) i (cvec C (i+(1+t)) (i+(1+(t+(1+r))))))) q ?_ ?_
 ·exact⟨0,by omega,by omega,rfl,rfl,fun t r h=>by omega⟩
 rintro m vs h' ⟨t,ht,rfl,rfl,rfl,hall2⟩
 simp only [pwA,seval,-iQ0];refine iteI (fun hlt=>?_) fun hge=>?_
 ·have hjO:i+(1+t)<O.length:=by omega
  have hjC:i+(1+t)<C.length:=by rw [s.cl];exact hjO
  obtain⟨w6,a6,hrk⟩:=hrs t (by omega)
  obtain⟨w7,a7,rs2,hrb2,hrs2⟩:=cvRow s hC hjO;have hjr:t<O.length-1-i:=by omega
  have hcv:=s.cj i (i+(1+t)) (by omega) (by omega)
  have e3:IntKind.i64.wrap (((i+(1+t):Nat):Int)-(i:Int))=((1+t:Nat):Int):=by rw [wrap64 (by omega) (by omega)];omega
  have e4:IntKind.i64.wrap (((1+t:Nat):Int)-1)=(t:Int):=by rw [wrap64 (by omega) (by omega)];omega
  have e5:IntKind.i64.wrap (((i+(1+t):Nat):Int)+1)=((i+(1+(t+1)):Nat):Int):=by rw [wrap64 (by omega) (by omega)];omega
  simp only [pwA,seval,-iQ0,e5];refine zG (fun m vs h'=>∃r:Nat,t+(1+r)≤q∧m=q-(t+(1+r))∧vs=[.int .i64 i,.ptr σ.next 0,.ptr (σ.next+1) 0,.int .i64 O.length,.int .i64 i,.int .i64 ((i+(1+t):Nat):Int),.int .i64 ((i+(1+(t+(1+r))):Nat):Int)]∧
   h'=(σ.new [.fz w0 a0 O.length (pis O),.fz w1 a1 P.length rP,.fz w3 a3 C.length rC]).new [.int .i64 0,.int .i64 0,.int .i64 0,.int .i64 0]∧
   ∀r',r'<r→t+(1+r')<q→mu O P C q (cvec C i (i+(1+(t+(1+r'))))) (cvec C i (i+(1+t)))=mu O P C q (cvec C i (i+(1+t))) (Grp.img O C (mu O P C q) i (cvec C (i+(1+t)) (i+(1+(t+(1+r'))))))) (q-(t+1)) ?_ ?_
  ·exact⟨0,by omega,by omega,rfl,rfl,fun r' h=>by omega⟩
  rintro m vs h' ⟨r,hr,rfl,rfl,rfl,hall3⟩
  simp only [pwA,seval,-iQ0];refine iteI (fun hlt2=>?_) fun hge2=>?_
  ·have hkO:i+(1+(t+(1+r)))<O.length:=by omega
   obtain⟨w8,a8,hrk2⟩:=hrs (t+(1+r)) (by omega)
   obtain⟨w9,a9,hrk3⟩:=hrs2 r (by omega)
   rw [show i+(1+t)+(1+r)=i+(1+(t+(1+r))) by omega]at hrk3
   have hcv2:=s.cj i (i+(1+(t+(1+r)))) (by omega) hkO
   have hcv3:=s.cj (i+(1+t)) (i+(1+(t+(1+r)))) (by omega) hkO
   have hkr:t+(1+r)<O.length-1-i:=by omega
   have hkr2:r<O.length-1-(i+(1+t)):=by omega
   have f3:IntKind.i64.wrap (((i+(1+(t+(1+r))):Nat):Int)-(i:Int))=((1+(t+(1+r)):Nat):Int):=by rw [wrap64 (by omega) (by omega)];omega
   have f4:IntKind.i64.wrap (((1+(t+(1+r)):Nat):Int)-1)=((t+(1+r):Nat):Int):=by rw [wrap64 (by omega) (by omega)];omega
   have f5:IntKind.i64.wrap (((i+(1+(t+(1+r))):Nat):Int)+1)=((i+(1+(t+(1+(r+1)))):Nat):Int):=by rw [wrap64 (by omega) (by omega)];omega
   have f6:IntKind.i64.wrap (((i+(1+(t+(1+r))):Nat):Int)-((i+(1+t):Nat):Int))=((1+r:Nat):Int):=by rw [wrap64 (by omega) (by omega)];omega
   have f7:IntKind.i64.wrap (((1+r:Nat):Int)-1)=(r:Int):=by rw [wrap64 (by omega) (by omega)];omega
   simp only [pwA,seval,-iQ0,wi1,hiC,hrb,e3,e4,f3,f4,f6,f7,hjr,hrk,hkr,hrk2,hjC,hrb2,hkr2,hrk3];refine Zy s (by omega) hAt hR0 (hcv3.mono (Nat.zero_le _)) (FI.mk hcv3.len) fun v hv=>?_
   have hz:=QL s (i:=i) (m:=mu O P C q) (fun a b ha hb=>M.cl ha hb) (cvec C (i+(1+t)) (i+(1+(t+(1+r)))))
   simp only [pwA,seval,-iQ0,wi1,hiC,hrb,e3,e4,f3,f4,f6,f7,hjr,hrk,hkr,hrk2,hjC,hrb2,hkr2,hrk3];refine hAt hR0 hcv2 hcv (FI.mk hcv2.len) (FI.mk hcv.len) fun v2 hv2=>?_
   simp only [pwA,seval,-iQ0,wi1];refine hAt hR0 hcv hz (FI.mk hcv.len) hv fun v3 hv3=>?_
   obtain⟨w10,a10,rfl⟩:=hv2;obtain⟨w11,a11,rfl⟩:=hv3;simp only [pwA,seval,-iQ0];refine QJ rfl rfl (by have:=(M.cl hcv2 hcv).len;omega) ?_
   by_cases he:mu O P C q (cvec C i (i+(1+(t+(1+r))))) (cvec C i (i+(1+t)))=mu O P C q (cvec C i (i+(1+t))) (Grp.img O C (mu O P C q) i (cvec C (i+(1+t)) (i+(1+(t+(1+r))))))
   ·simp only [pwA,seval,-iQ0,eq_true he,f5]
    refine⟨_,by omega,r+1,by omega,rfl,rfl,fun r' h1 h2=>?_⟩
    by_cases e:r'=r
    ·subst e;exact he
    ·exact hall3 r' (by omega) h2
   ·simp only [pwA,seval,-iQ0,he]
    exact fin (no (by decide) fun L=>he (by have:=L.cj (i+(1+t)) (i+(1+(t+(1+r)))) (by omega) (by omega) hkO;rwa [ed]at this)) (hkp _)
  ·simp only [pwA,seval,-iQ0,e5]
   refine⟨_,by omega,t+1,by omega,rfl,rfl,fun t' r' h1 h2=>?_⟩
   by_cases e:t'=t
   ·subst e;exact hall3 r' (by omega) h2
   ·exact hall2 t' r' (by omega) h2
 -- third condition
 obtain⟨w6,a6,hpr⟩:=pvRow s hP hil;have hpv:=s.pw i hil;simp only [pwA,seval,-iQ0,hiP,hpr];refine Zy s (by omega) hAt hR0 (hpv.mono (Nat.zero_le _)) (FI.mk hpv.len) fun v hv=>?_
 obtain⟨w7,a7,rfl⟩:=hv;simp only [pwA,seval,-iQ0];refine QJ rfl hpv.len.symm (by have:=(QL s (i:=i) (m:=mu O P C q) (fun a b ha hb=>M.cl ha hb) (pvec P i)).len;omega) ?_
 by_cases he3:Grp.img O C (mu O P C q) i (pvec P i)=pvec P i
 rotate_left
 ·simp only [pwA,seval,-iQ0,he3]
  exact fin (no (by decide) fun L=>he3 (by have:=L.fix;rwa [ed]at this)) (hkp _)
 simp only [pwA,seval,-iQ0,eq_true he3,wi1]
 -- fourth condition
 refine zG (fun m vs h'=>∃q':Nat,q'≤q∧m=q-q'∧vs=[.int .i64 i,.ptr σ.next 0,.ptr (σ.next+1) 0,.int .i64 O.length,.int .i64 i,.fz w6 a6 O.length (pis (pvec P i)),.int .i64 ((i+(1+q'):Nat):Int)]∧
  h'=(σ.new [.fz w0 a0 O.length (pis O),.fz w1 a1 P.length rP,.fz w3 a3 C.length rC]).new [.int .i64 0,.int .i64 0,.int .i64 0,.int .i64 0]∧
  ∀t,t<q'→mu O P C q (pvec P i) (iter (Grp.img O C (mu O P C q) i) (nx O i) (unitL O.length (i+(1+t))))=mu O P C q (unitL O.length (i+(1+t))) (pvec P i)) q ?_ ?_
 ·exact⟨0,by omega,by omega,rfl,rfl,fun t h=>by omega⟩
 rintro m vs h' ⟨t,ht,rfl,rfl,rfl,hall4⟩
 simp only [pwA,seval,-iQ0];refine iteI (fun hlt=>?_) fun hge=>?_
 rotate_left
 ·exact fin ⟨fun _=>yes hall (fun t' r' h=>hall2 t' r' (by omega) h) he3 (fun t' h=>hall4 t' (by omega)),fun _=>rfl⟩ (hkp _)
 have hjO:i+(1+t)<O.length:=by omega
 have hO:=s.pr i hil;have e5:IntKind.i64.wrap (((i+(1+t):Nat):Int)+1)=((i+(1+(t+1)):Nat):Int):=by rw [wrap64 (by omega) (by omega)];omega
 have hun:TT O (i+1) (unitL O.length (i+(1+t))):=s.unit hjO (by omega)
 simp only [pwA,seval,-iQ0];refine zDe (by omega) hjO fun v hv=>?_
 simp only [pwA,seval,-iQ0];refine zG (fun m vs h'=>∃(k:Nat) (v2:PV) (A:List Int),k≤nx O i∧m=nx O i-k∧vs=[.int .i64 i,.ptr σ.next 0,.ptr (σ.next+1) 0,.int .i64 O.length,.int .i64 i,.fz w6 a6 O.length (pis (pvec P i)),.int .i64 ((i+(1+t):Nat):Int),v,v2,.int .i64 k]∧
  h'=(σ.new [.fz w0 a0 O.length (pis O),.fz w1 a1 P.length rP,.fz w3 a3 C.length rC]).new [.int .i64 0,.int .i64 0,.int .i64 0,.int .i64 0]∧FI v2 A∧TT O (i+1) A∧iter (Grp.img O C (mu O P C q) i) (nx O i-k) A=iter (Grp.img O C (mu O P C q) i) (nx O i) (unitL O.length (i+(1+t)))) (nx O i) ?_ ?_
 ·exact⟨0,v,_,by omega,by omega,rfl,rfl,hv,hun,rfl⟩
 rintro m vs h' ⟨k,v2,A,hkn,rfl,rfl,rfl,hv2,hA,hit⟩
 have hnx:((nx O i:Nat):Int)=at_ O i:=Int.toNat_of_nonneg (by omega)
 simp only [pwA,seval,-iQ0,pisAt hil,hil];refine iteI (fun hlt2=>?_) fun hge2=>?_
 ·have hlt3:k<nx O i:=by omega
  refine Zy s (by omega) hAt hR0 (hA.mono (Nat.zero_le _)) hv2 fun v3 hv3=>?_
  simp only [pwA,seval,-iQ0,wrapS hlt3 (by omega:nx O i≤4611686018427387904)]
  refine⟨_,by omega,k+1,v3,_,by omega,rfl,rfl,hv3,QL s (fun a b ha hb=>M.cl ha hb) _,?_⟩
  rw [show nx O i-k=(nx O i-(k+1))+1 by omega]at hit
  exact hit
 have hke:k=nx O i:=by omega
 subst hke;rw [Nat.sub_self]at hit
 have hA':A=iter (Grp.img O C (mu O P C q) i) (nx O i) (unitL O.length (i+(1+t))):=hit;subst hA';simp only [pwA,seval,-iQ0,wi1];refine hAt hR0 hpv hA (FI.mk hpv.len) hv2 fun v3 hv3=>?_
 simp only [pwA,seval,-iQ0,wi1];refine hAt hR0 hun hpv hv (FI.mk hpv.len) fun v4 hv4=>?_
 obtain⟨w8,a8,rfl⟩:=hv3;obtain⟨w9,a9,rfl⟩:=hv4;simp only [pwA,seval,-iQ0];refine QJ rfl rfl (by have:=(M.cl hpv hA).len;omega) ?_
 by_cases he:mu O P C q (pvec P i) (iter (Grp.img O C (mu O P C q) i) (nx O i) (unitL O.length (i+(1+t))))=mu O P C q (unitL O.length (i+(1+t))) (pvec P i)
 ·simp only [pwA,seval,-iQ0,eq_true he,e5]
  refine⟨_,by omega,t+1,by omega,rfl,rfl,fun t' h=>?_⟩
  by_cases e:t'=t
  ·subst e;exact he
  ·exact hall4 t' (by omega)
 ·simp only [pwA,seval,-iQ0,he]
  exact fin (no (by decide) fun L=>he (by have:=L.inn (i+(1+t)) (by omega) hjO;rwa [ed]at this)) (hkp _)
end Go.Proofs
namespace Go.Grp
end Go.Grp
namespace Go.Proofs
open Go.Ab Go.Lie Go.Grp
variable {σ:PHeap} {K:PV→PHeap→Prop} {O:List Int} {P:List (List Int)} {C:List (List (List Int))} {vO vP vC vx:PV} {s:Nat} {x:List Int} {rP rC:List PV}
theorem zGm (s:Shp O P C) (hR:IsPr vO vP vC O P C)
  (hk:∀f0 f1 f2 f3:Int,(f0=0↔Cons O P C)→K (.agg [.int .i64 f0,.int .i64 f1,.int .i64 f2,.int .i64 f3]) σ):zA Tryz.prog 152 [.agg [vO,vP,vC]] σ K:=by
 have hn6:=s.le;have hR0:=hR;obtain⟨⟨w0,a0,rfl⟩,⟨w1,a1,rP,rfl,hP⟩,⟨w3,a3,rC,rfl,hC⟩⟩:=hR;refine zA.gh ?_;have fin:∀{f0 f1 f2 f3:Int} {σ':PHeap},(f0=0↔Cons O P C)→Keep σ σ'→Gh σ K (.agg [.int .i64 f0,.int .i64 f1,.int .i64 f2,.int .i64 f3]) σ':=fun h k=>Gh.fin0 k ⟨trivial,trivial,trivial,trivial,trivial⟩ (hk _ _ _ _ h)
 have hw1:IntKind.i64.wrap ((O.length:Int)-1)=(O.length:Int)-1:=wrap64 (by omega) (by omega)
 refine zC mix Tryz.func152 ?_
 conv=>arg 2;cbv
 refine zF rfl ?_;simp only [pwA,seval,-iQ0,hw1];refine zG (fun m vs h'=>∃k:Nat,k≤O.length∧m=k∧vs=[.ptr σ.next 0,.ptr (σ.next+1) 0,.int .i64 ((k:Int)-1)]∧Keep ((σ.new [.fz w0 a0 O.length (pis O),.fz w1 a1 P.length rP,.fz w3 a3 C.length rC]).new [.int .i64 0,.int .i64 0,.int .i64 0,.int .i64 0]) h'∧∀j,k≤j→j<O.length→Lv O P C j) O.length ?_ ?_
 ·exact⟨O.length,Nat.le_refl _,rfl,rfl,Keep.refl _,fun j h1 h2=>by omega⟩
 rintro m vs h' ⟨k,hkO,rfl,rfl,hk1,hall⟩
 have hkp:Keep σ h':=((zB σ _).new _).trans hk1;have hn1:σ.next+2≤h'.next:=hk1.next;have hobj1:h'.obj σ.next=some [.fz w0 a0 O.length (pis O),.fz w1 a1 P.length rP,.fz w3 a3 C.length rC]:=by rw [hk1.obj _ (by simp [PHeap.new];omega)];simp [PHeap.new]
 have hobj2:h'.obj (σ.next+1)=some [.int .i64 0,.int .i64 0,.int .i64 0,.int .i64 0]:=by rw [hk1.obj _ (by simp [PHeap.new])];simp [PHeap.new]
 have hrd3:h'.rd σ.next 0 3=some [.fz w0 a0 O.length (pis O),.fz w1 a1 P.length rP,.fz w3 a3 C.length rC]:=by simp [PHeap.rd,hobj1]
 have hwr:∀f0 f1 f2 f3:Int,h'.wr (σ.next+1) 0 [.int .i64 f0,.int .i64 f1,.int .i64 f2,.int .i64 f3]=some (h'.set (σ.next+1) [.int .i64 f0,.int .i64 f1,.int .i64 f2,.int .i64 f3]):=fun f0 f1 f2 f3=>by
  have:∀cs:List PV,cs.length=4→cs.all PV.one=true→h'.wr (σ.next+1) 0 cs=some (h'.set (σ.next+1) cs):=fun cs hl ho=>by
   simp only [PHeap.wr,hobj2,Option.bind_some,ho,hl];simp [PHeap.set,List.drop_eq_nil_of_le,hl]
  exact this _ rfl rfl
 have hne1:¬σ.next=h'.next:=by omega
 have hne2:¬σ.next+1=h'.next:=by omega
 rcases Nat.eq_zero_or_pos m with rfl|hmp
 ·simp only [pwA,seval,-iQ0,show ¬((0:Int)≤((0:Nat):Int)-1) by omega,hwr]
  exact fin ⟨fun _ j hj=>hall j (Nat.zero_le _) hj,fun _=>rfl⟩ (hkp.set (by omega) _)
 obtain⟨i,rfl⟩:∃i,m=i+1:=⟨m-1,by omega⟩
 have e:((i+1:Nat):Int)-1=(i:Int):=by omega
 rw [e];have hil:i<O.length:=hkO;have hw2:IntKind.i64.wrap ((i:Int)-1)=(i:Int)-1:=wrap64 (by omega) (by omega)
 have B:Beh O P C (O.length-(i+1)):=zJx s (by omega) fun j h1 h2=>hall j (by omega) h2
 simp only [pwA,seval,-iQ0,hrd3];refine zGl s (d:=O.length-(i+1)) (by omega) B hR0 fun f0 f1 f2 f3 hf=>?_
 simp only [pwA,seval,-iQ0];refine iteI (fun h0=>?_) fun h0=>?_
 ·simp only [pwA,seval,-iQ0,hw2]
  refine⟨i,by omega,i,by omega,rfl,rfl,hk1.new _,fun j h1 h2=>?_⟩
  by_cases e:j=i
  ·subst e;exact hf.1 h0
  ·exact hall j (by omega) h2
 ·simp only [pwA,seval,-iQ0,hne1,hne2,hwr]
  exact fin ⟨fun h=>absurd h h0,fun h=>absurd (hf.2 (h i hil)) h0⟩ ((hkp.set (by omega) _).new _)
theorem zCv (s:Shp O P C) (hR:IsPr vO vP vC O P C) (hk:∀t:Bool,(t=true↔Cons O P C)→K (.bool t) σ):zA Tryz.prog 85 [.agg [vO,vP,vC]] σ K:=by
 have h0:=hR.O.one;have h1:=hR.P.one;have h2:=hR.C.one;refine zA.gh ?_;refine zC mix Tryz.func85 ?_
 conv=>arg 2;cbv
 refine zF rfl ?_;simp only [pwA,seval,-iQ0,h0,h1,h2];refine zGm s hR fun f0 f1 f2 f3 hf=>?_
 simp only [pwA,seval,-iQ0];exact Gh.fin0 (zB σ _) trivial (hk _ (by rw [decide_eq_true_iff];exact hf))
theorem zCi (hR:IsPr vO vP vC O P C) (sz:SzP O P C) (hk:∀t:Bool,(t=true↔zQ O P C∧Cons O P C)→K (.bool t) σ):zA Tryz.prog 32 [.agg [vO,vP,vC]] σ K:=by
 have h0:=hR.O.one;have h1:=hR.P.one;have h2:=hR.C.one;have fl:∀{A:Prop},¬A→((false=true)↔A):=fun h=>⟨fun x=>(by cases x),fun x=>absurd x h⟩
 refine zA.gh ?_;refine zC mix Tryz.func32 ?_
 conv=>arg 2;cbv
 refine zF rfl ?_;simp only [pwA,seval,-iQ0,h0,h1,h2];refine zm hR sz fun t ht=>?_
 cases t with
 | false=>
  simp only [pwA,seval,-iQ0];exact Gh.fin0 (zB σ _) trivial (hk _ (fl fun h=>by cases ht.2 h.1))
 | true=>
  have hp:=ht.1 rfl;simp only [pwA,seval,-iQ0,h0,h1,h2];refine zCv hp.shp hR fun t ht=>?_
  simp only [pwA,seval,-iQ0];exact Gh.fin0 (zB σ _) trivial (hk _ ⟨fun h=>⟨hp,ht.1 h⟩,fun h=>ht.2 h.2⟩)
end Go.Proofs
namespace Go.Grp
end Go.Grp
namespace Go.Proofs
open Go.Ab Go.Lie Go.Grp
variable {σ:PHeap} {K:PV→PHeap→Prop} {O:List Int} {P:List (List Int)} {C:List (List (List Int))} {vO vP vC vx vf va vb:PV} {x y f a b:List Int} {rP rC:List PV} {d j sp:Nat}
theorem zEs (s:Shp O P C) (F:Full O P C d) {i:Nat} (hi:O.length=d+(i+1)) (hs:PtrG σ sp vO vP vC) (hR:IsPr vO vP vC O P C)
  (hk:∀f0 f1 f2 f3:Int,((f0=0∧f1=0∧f2=0∧f3=0∧Lv O P C i)∨(f0≠0∧¬Lv O P C i))→K (.agg [.int .i64 f0,.int .i64 f1,.int .i64 f2,.int .i64 f3]) σ):zA Tryz.prog 88 [.ptr sp 0,.int .i64 i] σ K:=by
 have hn6:=s.le;have hR0:=hR;have hil:i<O.length:=by omega
 have M:=F.gp.toMon;have G:=F.gp;have edi:O.length-d=i+1:=by omega
 have ed:O.length-1-i=d:=by omega
 have hne:¬sp=σ.next:=Nat.ne_of_lt hs.lt;have hs1:∀cs,PtrG (σ.new cs) sp vO vP vC:=fun cs=>hs.new cs
 have yes:((∀q,q<d→pw (mu O P C d) (zv O) (cvec C i (i+(1+q))) (nx O (i+(1+q)))=Grp.img O C (mu O P C d) i (pvec P (i+(1+q))))→
   (∀q r,q+(1+r)<d→mu O P C d (cvec C i (i+(1+(q+(1+r))))) (cvec C i (i+(1+q)))=mu O P C d (cvec C i (i+(1+q))) (Grp.img O C (mu O P C d) i (cvec C (i+(1+q)) (i+(1+(q+(1+r)))))))→
   Grp.img O C (mu O P C d) i (pvec P i)=pvec P i→
   (∀q,q<d→mu O P C d (pvec P i) (iter (Grp.img O C (mu O P C d) i) (nx O i) (unitL O.length (i+(1+q))))=mu O P C d (unitL O.length (i+(1+q))) (pvec P i))→Lv O P C i):=fun h1 h2 h3 h4=>by
  refine⟨fun j g1 g2=>?_,fun j k g1 g2 g3=>?_,?_,fun j g1 g2=>?_⟩
  ·have:=h1 (j-i-1) (by omega);rw [show i+(1+(j-i-1))=j by omega]at this;rw [ed];exact this
  ·have:=h2 (j-i-1) (k-j-1) (by omega);rw [show i+(1+(j-i-1))=j by omega,show i+(1+(j-i-1+(1+(k-j-1))))=k by omega]at this;rw [ed];exact this
  ·rw [ed];exact h3
  ·have:=h4 (j-i-1) (by omega);rw [show i+(1+(j-i-1))=j by omega]at this;rw [ed];exact this
 have imgt:∀x,TT O (O.length-d) (Grp.img O C (mu O P C d) i x):=fun x=>by
  rw [edi];exact QL s (fun a b ha hb=>by have:=M.cl (a:=a) (b:=b) (by rw [edi];exact ha) (by rw [edi];exact hb);rwa [edi]at this) x
 obtain⟨⟨w0,a0,rfl⟩,⟨w1,a1,rP,rfl,hP⟩,⟨w3,a3,rC,rfl,hC⟩⟩:=hR;obtain⟨w5,a5,rs,hrb,hrs⟩:=cvRow s hC hil;have hiC:i<C.length:=by rw [s.cl];exact hil
 have hiP:i<P.length:=by rw [s.pl];exact hil
 have e0:σ.rd1 sp 0=some (.fz w0 a0 O.length (pis O)):=by rw [zH hs.obj];rfl
 have e1:σ.rd1 sp 1=some (.fz w1 a1 P.length rP):=by rw [zH hs.obj];rfl
 have e2:σ.rd1 sp 2=some (.fz w3 a3 C.length rC):=by rw [zH hs.obj];rfl
 refine zA.gh ?_;have fin:∀{f0 f1 f2 f3:Int} {σ':PHeap},((f0=0∧f1=0∧f2=0∧f3=0∧Lv O P C i)∨(f0≠0∧¬Lv O P C i))→Keep σ σ'→Gh σ K (.agg [.int .i64 f0,.int .i64 f1,.int .i64 f2,.int .i64 f3]) σ':=fun h k=>Gh.fin0 k ⟨trivial,trivial,trivial,trivial,trivial⟩ (hk _ _ _ _ h)
 have no:∀{f0 f1 f2 f3:Int},f0≠0→¬Lv O P C i→((f0=0∧f1=0∧f2=0∧f3=0∧Lv O P C i)∨(f0≠0∧¬Lv O P C i)):=fun h g=>.inr ⟨h,g⟩
 have hkp:∀cs:List PV,Keep σ (σ.new cs):=fun cs=>zB σ _
 have wi1:IntKind.i64.wrap ((i:Int)+1)=((i+1:Nat):Int):=wrapS hil (by omega)
 refine zR mix Tryz.func88 cf88 rfl ?_;dsimp only [if88,qI,eI,qD,eD,mI0,kI0,lI0,fI0,xI0,bI0,cI0,nI0,sI0,pI0,C2,C3,mD0,lD0,fD0,xD0,pD0,I0,vI0,R0,S0];simp only [pwA,seval,-iQ0,e0,hne]
 -- first condition
 simp only [pwA,seval,-iQ0,wi1];refine zG (fun m vs h'=>∃q:Nat,q≤d∧m=d-q∧vs=[.ptr sp 0,.int .i64 i,.ptr σ.next 0,.int .i64 O.length,.int .i64 i,.int .i64 ((i+(1+q):Nat):Int)]∧
  h'=σ.new [.int .i64 0,.int .i64 0,.int .i64 0,.int .i64 0]∧∀q',q'<q→pw (mu O P C d) (zv O) (cvec C i (i+(1+q'))) (nx O (i+(1+q')))=Grp.img O C (mu O P C d) i (pvec P (i+(1+q')))) d ?_ ?_
 ·exact⟨0,by omega,by omega,rfl,rfl,fun q h=>by omega⟩
 rintro m vs h' ⟨q,hq,rfl,rfl,rfl,hall⟩
 simp only [pwA,seval,-iQ0];refine iteI (fun hlt=>?_) fun hge=>?_
 ·have hjO:i+(1+q)<O.length:=by omega
  have hjP:i+(1+q)<P.length:=by rw [s.pl];exact hjO
  obtain⟨w6,a6,hrk⟩:=hrs q (by omega)
  obtain⟨w7,a7,hpr⟩:=pvRow s hP hjO;have hjr:q<O.length-1-i:=by omega
  have hcv:=s.cj i (i+(1+q)) (by omega) (by omega)
  have hcv':TT O (O.length-d) (cvec C i (i+(1+q))):=by rw [edi];exact hcv
  have hpv:=s.pw (i+(1+q)) hjO;have hO:=s.pr _ hjO;have e3:IntKind.i64.wrap (((i+(1+q):Nat):Int)-(i:Int))=((1+q:Nat):Int):=by rw [wrap64 (by omega) (by omega)];omega
  have e4:IntKind.i64.wrap (((1+q:Nat):Int)-1)=(q:Int):=by rw [wrap64 (by omega) (by omega)];omega
  have e5:IntKind.i64.wrap (((i+(1+q):Nat):Int)+1)=((i+(1+(q+1)):Nat):Int):=by rw [wrap64 (by omega) (by omega)];omega
  simp only [pwA,seval,-iQ0,e0,e1,e2,hne,wi1,hiC,hrb,e3,e4,hjr,hrk,hjO,pisAt hjO,hjP,hpr];refine zKS s F (hs1 _) hR0 hcv' (FI.mk hcv.len) (by omega) fun v hv=>?_
  simp only [pwA,seval,-iQ0,e0,e1,e2,hne,wi1,hiC,hrb,e3,e4,hjr,hrk,hjO,pisAt hjO,hjP,hpr];refine Qz s F hi (hs1 _) hR0 (hpv.mono (Nat.zero_le _)) (FI.mk hpv.len) fun v2 hv2=>?_
  obtain⟨w8,a8,rfl⟩:=hv;obtain⟨w9,a9,rfl⟩:=hv2;simp only [pwA,seval,-iQ0];refine zAQ rfl rfl (by have:=(M.pw hcv' (at_ O (i+(1+q))).toNat).len;omega) ?_
  by_cases he:pw (mu O P C d) (zv O) (cvec C i (i+(1+q))) (nx O (i+(1+q)))=Grp.img O C (mu O P C d) i (pvec P (i+(1+q)))
  ·simp only [pwA,seval,-iQ0,eq_true he,e5]
   refine⟨_,by omega,q+1,by omega,rfl,rfl,fun q' h=>?_⟩
   by_cases e:q'=q
   ·subst e;exact he
   ·exact hall q' (by omega)
  ·simp only [pwA,seval,-iQ0,he]
   exact fin (no (by decide) fun L=>he (by have:=L.pow (i+(1+q)) (by omega) hjO;rwa [ed]at this)) (hkp _)
 have hqd:q=d:=by omega
 subst hqd
 -- second condition
 simp only [pwA,seval,-iQ0,wi1];refine zG (fun m vs h'=>∃q':Nat,q'≤q∧m=q-q'∧vs=[.ptr sp 0,.int .i64 i,.ptr σ.next 0,.int .i64 O.length,.int .i64 i,.int .i64 ((i+(1+q'):Nat):Int)]∧
  h'=σ.new [.int .i64 0,.int .i64 0,.int .i64 0,.int .i64 0]∧
  ∀t r,t<q'→t+(1+r)<q→mu O P C q (cvec C i (i+(1+(t+(1+r))))) (cvec C i (i+(1+t)))=mu O P C q (cvec C i (i+(1+t))) (Grp.img O C (mu O P C q) i (cvec C (i+(1+t)) (i+(1+(t+(1+r))))))) q ?_ ?_
 ·exact⟨0,by omega,by omega,rfl,rfl,fun t r h=>by omega⟩
 rintro m vs h' ⟨t,ht,rfl,rfl,rfl,hall2⟩
 simp only [pwA,seval,-iQ0];refine iteI (fun hlt=>?_) fun hge=>?_
 ·have hjO:i+(1+t)<O.length:=by omega
  have hjC:i+(1+t)<C.length:=by rw [s.cl];exact hjO
  obtain⟨w6,a6,hrk⟩:=hrs t (by omega)
  obtain⟨w7,a7,rs2,hrb2,hrs2⟩:=cvRow s hC hjO;have hjr:t<O.length-1-i:=by omega
  have hcv:=s.cj i (i+(1+t)) (by omega) (by omega)
  have hcv':TT O (O.length-q) (cvec C i (i+(1+t))):=by rw [edi];exact hcv
  have e3:IntKind.i64.wrap (((i+(1+t):Nat):Int)-(i:Int))=((1+t:Nat):Int):=by rw [wrap64 (by omega) (by omega)];omega
  have e4:IntKind.i64.wrap (((1+t:Nat):Int)-1)=(t:Int):=by rw [wrap64 (by omega) (by omega)];omega
  have e5:IntKind.i64.wrap (((i+(1+t):Nat):Int)+1)=((i+(1+(t+1)):Nat):Int):=by rw [wrap64 (by omega) (by omega)];omega
  simp only [pwA,seval,-iQ0,e5];refine zG (fun m vs h'=>∃r:Nat,t+(1+r)≤q∧m=q-(t+(1+r))∧vs=[.ptr sp 0,.int .i64 i,.ptr σ.next 0,.int .i64 O.length,.int .i64 i,.int .i64 ((i+(1+t):Nat):Int),.int .i64 ((i+(1+(t+(1+r))):Nat):Int)]∧
   h'=σ.new [.int .i64 0,.int .i64 0,.int .i64 0,.int .i64 0]∧
   ∀r',r'<r→t+(1+r')<q→mu O P C q (cvec C i (i+(1+(t+(1+r'))))) (cvec C i (i+(1+t)))=mu O P C q (cvec C i (i+(1+t))) (Grp.img O C (mu O P C q) i (cvec C (i+(1+t)) (i+(1+(t+(1+r'))))))) (q-(t+1)) ?_ ?_
  ·exact⟨0,by omega,by omega,rfl,rfl,fun r' h=>by omega⟩
  rintro m vs h' ⟨r,hr,rfl,rfl,rfl,hall3⟩
  simp only [pwA,seval,-iQ0];refine iteI (fun hlt2=>?_) fun hge2=>?_
  ·have hkO:i+(1+(t+(1+r)))<O.length:=by omega
   obtain⟨w8,a8,hrk2⟩:=hrs (t+(1+r)) (by omega)
   obtain⟨w9,a9,hrk3⟩:=hrs2 r (by omega)
   rw [show i+(1+t)+(1+r)=i+(1+(t+(1+r))) by omega]at hrk3
   have hcv2:=s.cj i (i+(1+(t+(1+r)))) (by omega) hkO
   have hcv2':TT O (O.length-q) (cvec C i (i+(1+(t+(1+r))))):=by rw [edi];exact hcv2
   have hcv3:=s.cj (i+(1+t)) (i+(1+(t+(1+r)))) (by omega) hkO
   have hkr:t+(1+r)<O.length-1-i:=by omega
   have hkr2:r<O.length-1-(i+(1+t)):=by omega
   have f3:IntKind.i64.wrap (((i+(1+(t+(1+r))):Nat):Int)-(i:Int))=((1+(t+(1+r)):Nat):Int):=by rw [wrap64 (by omega) (by omega)];omega
   have f4:IntKind.i64.wrap (((1+(t+(1+r)):Nat):Int)-1)=((t+(1+r):Nat):Int):=by rw [wrap64 (by omega) (by omega)];omega
   have f5:IntKind.i64.wrap (((i+(1+(t+(1+r))):Nat):Int)+1)=((i+(1+(t+(1+(r+1)))):Nat):Int):=by rw [wrap64 (by omega) (by omega)];omega
   have f6:IntKind.i64.wrap (((i+(1+(t+(1+r))):Nat):Int)-((i+(1+t):Nat):Int))=((1+r:Nat):Int):=by rw [wrap64 (by omega) (by omega)];omega
   have f7:IntKind.i64.wrap (((1+r:Nat):Int)-1)=(r:Int):=by rw [wrap64 (by omega) (by omega)];omega
   simp only [pwA,seval,-iQ0,e0,e1,e2,hne,wi1,hiC,hrb,e3,e4,f3,f4,f6,f7,hjr,hrk,hkr,hrk2,hjC,hrb2,hkr2,hrk3];refine zCA s F (hs1 _) hR0 hcv2' hcv' (FI.mk hcv2.len) (FI.mk hcv.len) fun v z hz1 hz2 hv=>?_
   simp only [pwA,seval,-iQ0,e0,e1,e2,hne,wi1,hiC,hrb,e3,e4,f3,f4,f6,f7,hjr,hrk,hkr,hrk2,hjC,hrb2,hkr2,hrk3];refine Qz s F hi (hs1 _) hR0 (hcv3.mono (Nat.zero_le _)) (FI.mk hcv3.len) fun v2 hv2=>?_
   have hz:=imgt (cvec C (i+(1+t)) (i+(1+(t+(1+r)))));obtain⟨w10,a10,rfl⟩:=hv;obtain⟨w11,a11,rfl⟩:=hv2;simp only [pwA,seval,-iQ0];refine zAQ rfl rfl (by have:=hz1.len;omega) ?_
   by_cases he:z=Grp.img O C (mu O P C q) i (cvec C (i+(1+t)) (i+(1+(t+(1+r)))))
   ·simp only [pwA,seval,-iQ0,eq_true he,f5]
    refine⟨_,by omega,r+1,by omega,rfl,rfl,fun r' h1 h2=>?_⟩
    by_cases e:r'=r
    ·subst e;rw [←he];exact hz2.symm
    ·exact hall3 r' (by omega) h2
   ·simp only [pwA,seval,-iQ0,he]
    exact fin (no (by decide) fun L=>he (by
     have:=L.cj (i+(1+t)) (i+(1+(t+(1+r)))) (by omega) (by omega) hkO
     rw [ed]at this
     exact G.cancel hcv' hz1 hz (hz2.trans this))) (hkp _)
  ·simp only [pwA,seval,-iQ0,e5]
   refine⟨_,by omega,t+1,by omega,rfl,rfl,fun t' r' h1 h2=>?_⟩
   by_cases e:t'=t
   ·subst e;exact hall3 r' (by omega) h2
   ·exact hall2 t' r' (by omega) h2
 -- third condition
 obtain⟨w6,a6,hpr⟩:=pvRow s hP hil;have hpv:=s.pw i hil;have hpv':TT O (O.length-q) (pvec P i):=by rw [edi];exact hpv
 simp only [pwA,seval,-iQ0,e1,hne,hiP,hpr];refine Qz s F hi (hs1 _) hR0 (hpv.mono (Nat.zero_le _)) (FI.mk hpv.len) fun v hv=>?_
 obtain⟨w7,a7,rfl⟩:=hv;simp only [pwA,seval,-iQ0];refine zAQ rfl hpv.len.symm (by have:=(imgt (pvec P i)).len;omega) ?_
 by_cases he3:Grp.img O C (mu O P C q) i (pvec P i)=pvec P i
 rotate_left
 ·simp only [pwA,seval,-iQ0,he3]
  exact fin (no (by decide) fun L=>he3 (by have:=L.fix;rwa [ed]at this)) (hkp _)
 simp only [pwA,seval,-iQ0,eq_true he3,wi1]
 -- fourth condition
 refine zG (fun m vs h'=>∃q':Nat,q'≤q∧m=q-q'∧vs=[.ptr sp 0,.int .i64 i,.ptr σ.next 0,.int .i64 O.length,.int .i64 i,.fz w6 a6 O.length (pis (pvec P i)),.int .i64 ((i+(1+q'):Nat):Int)]∧
  h'=σ.new [.int .i64 0,.int .i64 0,.int .i64 0,.int .i64 0]∧
  ∀t,t<q'→mu O P C q (pvec P i) (iter (Grp.img O C (mu O P C q) i) (nx O i) (unitL O.length (i+(1+t))))=mu O P C q (unitL O.length (i+(1+t))) (pvec P i)) q ?_ ?_
 ·exact⟨0,by omega,by omega,rfl,rfl,fun t h=>by omega⟩
 rintro m vs h' ⟨t,ht,rfl,rfl,rfl,hall4⟩
 simp only [pwA,seval,-iQ0];refine iteI (fun hlt=>?_) fun hge=>?_
 rotate_left
 ·exact fin (.inl ⟨rfl,rfl,rfl,rfl,yes hall (fun t' r' h=>hall2 t' r' (by omega) h) he3 (fun t' h=>hall4 t' (by omega))⟩) (hkp _)
 have hjO:i+(1+t)<O.length:=by omega
 have hO:=s.pr i hil;have e5:IntKind.i64.wrap (((i+(1+t):Nat):Int)+1)=((i+(1+(t+1)):Nat):Int):=by rw [wrap64 (by omega) (by omega)];omega
 have hun:TT O (i+1) (unitL O.length (i+(1+t))):=s.unit hjO (by omega)
 have hun':TT O (O.length-q) (unitL O.length (i+(1+t))):=by rw [edi];exact hun
 simp only [pwA,seval,-iQ0];refine zBW (by omega) hjO fun av=>?_
 simp only [pwA,seval,-iQ0,e0,hne,hil,pisAt hil];refine zG (fun m vs h'=>∃(k:Nat) (v2:PV) (A:List Int),k≤nx O i∧m=nx O i-k∧vs=[.ptr sp 0,.int .i64 i,.ptr σ.next 0,.int .i64 O.length,.int .i64 i,.fz w6 a6 O.length (pis (pvec P i)),.int .i64 ((i+(1+t):Nat):Int),v2,.int .i64 (at_ O i),.int .i64 k]∧
  h'=σ.new [.int .i64 0,.int .i64 0,.int .i64 0,.int .i64 0]∧FI v2 A∧TT O (O.length-q) A∧iter (Grp.img O C (mu O P C q) i) (nx O i-k) A=iter (Grp.img O C (mu O P C q) i) (nx O i) (unitL O.length (i+(1+t)))) (nx O i) ?_ ?_
 ·exact⟨0,.fz true av O.length (pis (unitL O.length (i+(1+t)))),_,by omega,by omega,rfl,rfl,FI.mk (zh _ _),hun',rfl⟩
 rintro m vs h' ⟨k,v2,A,hkn,rfl,rfl,rfl,hv2,hA,hit⟩
 have hnx:((nx O i:Nat):Int)=at_ O i:=Int.toNat_of_nonneg (by omega)
 simp only [pwA,seval,-iQ0];refine iteI (fun hlt2=>?_) fun hge2=>?_
 ·have hlt3:k<nx O i:=by omega
  refine Qz s F hi (hs1 _) hR0 (hA.mono (Nat.zero_le _)) hv2 fun v3 hv3=>?_
  simp only [pwA,seval,-iQ0,wrapS hlt3 (by omega:nx O i≤4611686018427387904)]
  refine⟨_,by omega,k+1,v3,_,by omega,rfl,rfl,hv3,imgt _,?_⟩
  rw [show nx O i-k=(nx O i-(k+1))+1 by omega]at hit
  exact hit
 have hke:k=nx O i:=by omega
 subst hke;rw [Nat.sub_self]at hit
 have hA':A=iter (Grp.img O C (mu O P C q) i) (nx O i) (unitL O.length (i+(1+t))):=hit;subst hA';simp only [pwA,seval,-iQ0];refine zBW (by omega) hjO fun av2=>?_
 simp only [pwA,seval,-iQ0];refine zCA s F (hs1 _) hR0 hun' hpv' (FI.mk (zh _ _)) (FI.mk hpv.len) fun v z hz1 hz2 hv=>?_
 obtain⟨w8,a8,rfl⟩:=hv2;obtain⟨w9,a9,rfl⟩:=hv;simp only [pwA,seval,-iQ0];refine zAQ rfl rfl (by have:=hA.len;omega) ?_
 by_cases he:iter (Grp.img O C (mu O P C q) i) (nx O i) (unitL O.length (i+(1+t)))=z
 ·simp only [pwA,seval,-iQ0,eq_true he,e5]
  refine⟨_,by omega,t+1,by omega,rfl,rfl,fun t' h=>?_⟩
  by_cases e:t'=t
  ·subst e;rw [he];exact hz2
  ·exact hall4 t' (by omega)
 ·simp only [pwA,seval,-iQ0,he]
  exact fin (no (by decide) fun L=>he (by
   have:=L.inn (i+(1+t)) (by omega) hjO
   rw [ed]at this
   exact G.cancel hpv' hA hz1 (this.trans hz2.symm))) (hkp _)
end Go.Proofs
namespace Go.Grp
end Go.Grp
namespace Go.Proofs
open Go.Ab Go.Lie Go.Grp
variable {σ:PHeap} {K:PV→PHeap→Prop} {O:List Int} {P:List (List Int)} {C:List (List (List Int))} {vO vP vC vx vf va vb:PV} {x y f a b:List Int} {rP rC:List PV} {d j sp:Nat}
theorem zCX (s:Shp O P C) (hs:PtrG σ sp vO vP vC) (hR:IsPr vO vP vC O P C) (hk:∀r:Int,(r=0↔Cons O P C)→K (.int .i64 r) σ):zA Tryz.prog 34 [.ptr sp 0] σ K:=by
 have hn6:=s.le;have hR0:=hR;have hs0:=hs;obtain⟨⟨w0,a0,rfl⟩,⟨w1,a1,rP,rfl,hP⟩,⟨w3,a3,rC,rfl,hC⟩⟩:=hR;have e0:σ.rd1 sp 0=some (.fz w0 a0 O.length (pis O)):=by rw [zH hs.obj];rfl
 refine zC mix Tryz.func34 ?_
 conv=>arg 2;cbv
 refine zF rfl ?_;simp only [pwA,seval,-iQ0,e0];refine zG (fun m vs h'=>∃k:Nat,k≤O.length∧m=k∧vs=[.ptr sp 0,.int .i64 k]∧σ=h'∧∀j,k≤j→j<O.length→Lv O P C j) O.length ?_ ?_
 ·exact⟨O.length,Nat.le_refl _,rfl,rfl,rfl,fun j h1 h2=>by omega⟩
 rintro m vs h' ⟨k,hkO,rfl,rfl,rfl,hall⟩
 rcases Nat.eq_zero_or_pos m with rfl|hmp
 ·have h00:¬((0:Int)<((0:Nat):Int)):=by omega
  simp only [pwA,seval,-iQ0,h00];exact hk _ ⟨fun _ j hj=>hall j (Nat.zero_le _) hj,fun _=>rfl⟩
 obtain⟨i,rfl⟩:∃i,m=i+1:=⟨m-1,by omega⟩
 have hpos:(0:Int)<((i+1:Nat):Int):=by omega
 have hw:IntKind.i64.wrap (((i+1:Nat):Int)-1)=(i:Int):=by rw [wrap64 (by omega) (by omega)];omega
 have F:Full O P C (O.length-(i+1)):=full_of s (by omega) fun j h1 h2=>hall j (by omega) h2
 simp only [pwA,seval,-iQ0,hpos,hw];refine zEs s F (i:=i) (by omega) hs0 hR0 fun f0 f1 f2 f3 hf=>?_
 rcases hf with ⟨rfl,rfl,rfl,rfl,L⟩|⟨h0,hn⟩
 ·simp only [pwA,seval,-iQ0,hpos,hw]
  refine⟨i,by omega,i,by omega,rfl,rfl,fun j h1 h2=>?_⟩
  by_cases e:j=i
  ·subst e;exact L
  ·exact hall j (by omega) h2
 ·simp only [pwA,seval,-iQ0,hpos,hw,h0,Bool.false_and]
  exact hk _ ⟨fun h=>absurd h (by omega),fun h=>absurd (h i (by omega)) hn⟩
theorem qg (hR:IsPr vO vP vC O P C) (sz:SzP O P C) (hk:∀t:Bool,(t=true↔zQ O P C∧Cons O P C)→K (.bool t) σ):zA Tryz.prog 9 [.agg [vO,vP,vC]] σ K:=by
 have h0:=hR.O.one;have h1:=hR.P.one;have h2:=hR.C.one;have fl:∀{A:Prop},¬A→((false=true)↔A):=fun h=>⟨fun x=>(by cases x),fun x=>absurd x h⟩
 have hpt:PtrG (σ.new [vO,vP,vC]) σ.next vO vP vC:=⟨by simp only [pwA,seval,-iQ0],by simp only [pwA,seval,-iQ0]⟩
 refine zA.gh ?_;refine zC mix Tryz.func9 ?_
 conv=>arg 2;cbv
 refine zF rfl ?_;simp only [pwA,seval,-iQ0,h0,h1,h2];refine qV hR sz fun t ht=>?_
 cases t with
 | false=>
  simp only [pwA,seval,-iQ0];exact Gh.fin0 (zB σ _) trivial (hk _ (fl fun h=>by cases ht.2 h.1))
 | true=>
  have hp:=ht.1 rfl;simp only [pwA,seval,-iQ0];refine zCX hp.shp hpt hR fun r hr=>?_
  simp only [pwA,seval,-iQ0];exact Gh.fin0 (zB σ _) trivial (hk _ (by rw [decide_eq_true_iff];exact⟨fun h=>⟨hp,hr.1 h⟩,fun h=>hr.2 h.2⟩))
end Go.Proofs
set_option linter.unusedSectionVars false
namespace Go.Grp
open Go.Ab Go.Lie
variable {α:Type} {S:α→Prop} {m:α→α→α} {e:α} {a b c x y z g:α}
noncomputable def ginv [Inhabited α] (S:α→Prop) (m:α→α→α) (e a:α):α:=Classical.epsilon fun b=>S b∧m a b=e
section
variable [Inhabited α]
theorem Gp.inv_in (G:Gp S m e) (ha:S a):S (ginv S m e a)∧m a (ginv S m e a)=e:=by
 obtain⟨b,h1,h2,h3⟩:=G.inv ha;exact Classical.epsilon_spec (p:=fun b=>S b∧m a b=e) ⟨b,h1,h2⟩
theorem Gp.inv_eq (G:Gp S m e) (ha:S a) (hb:S b) (h:m a b=e):b=ginv S m e a:=G.cancel ha hb (G.inv_in ha).1 (h.trans (G.inv_in ha).2.symm)
theorem Gp.inv_l (G:Gp S m e) (ha:S a):m (ginv S m e a) a=e:=by
 obtain⟨b,h1,h2,h3⟩:=G.inv ha;rw [←G.inv_eq ha h1 h2];exact h3
theorem Gp.inv_r (G:Gp S m e) (ha:S a):m a (ginv S m e a)=e:=(G.inv_in ha).2
noncomputable def com (S:α→Prop) (m:α→α→α) (e x y:α):α:=m (ginv S m e x) (m (ginv S m e y) (m x y))
end
end Go.Grp
namespace Go.Grp
open Go.Ab Go.Lie
variable {O:List Int} {P:List (List Int)} {C:List (List (List Int))} {x y z:List Int} {A B:List Int→Prop}
abbrev gS (O:List Int):List Int→Prop:=TT O 0
abbrev gm (O:List Int) (P:List (List Int)) (C:List (List (List Int))):List Int→List Int→List Int:=mu O P C O.length
theorem Full.g (F:Full O P C O.length):Gp (gS O) (gm O P C) (zv O):=by
 have:=F.gp
 rwa [Nat.sub_self]at this
noncomputable abbrev gcom (O:List Int) (P:List (List Int)) (C:List (List (List Int))) (x y:List Int):List Int:=com (gS O) (gm O P C) (zv O) x y
theorem Full.nfx (F:Full O P C O.length) (hx:gS O x):ph (gm O P C) (zv O) (unit O) (nx x) 0 O.length=x:=by
 have:=F.nf (x:=x) (by rw [Nat.sub_self];exact hx)
 unfold Ph at this
 rwa [Nat.sub_self]at this
end Go.Grp
namespace Go.Grp
open Go.Ab Go.Lie
variable {O:List Int} {P:List (List Int)} {C:List (List (List Int))} {x y z a b c:List Int} {A B:List Int→Prop} {d t i:Nat}
def Cent (O:List Int) (C:List (List (List Int))):Prop:=True
def addm (o a b:Int):Int:=if a+b ≥ o then a+b-o else a+b
theorem zLH {o a b:Int} (ha:0≤a∧a<o) (hb:0≤b∧b<o) (h:addm o a b=a):b=0:=by
 unfold addm at h;split at h<;>omega
def Upto (O:List Int) (t:Nat) (x y:List Int):Prop:=∀j,j<t→at_ x j=at_ y j
theorem zLx (s:Shp O P C) (hd:d+1≤O.length) (hi:i=O.length-(d+1)) (h0:at_ b i=0) (ha:TT O i a) (hb:TT O i b):mu O P C (d+1) a b=(mu O P C d (a.set i 0) (b.set i 0)).set i (at_ a i):=by
 have ba:=ha.bd i (by omega)
 subst hi;simp only [mu];rw [h0,if_neg (by omega),show nx b (O.length-(d+1))=0 by show(at_ b _).toNat=0;rw [h0];rfl,Int.add_zero]
 rfl
theorem zBO (s:Shp O P C):∀{d:Nat} {b:List Int},d≤O.length→O.length-d≤t→t<O.length→TT O (O.length-d) b→TT O t a→Upto O t (mu O P C d b a) b∧at_ (mu O P C d b a) t=addm (at_ O t) (at_ b t) (at_ a t)
 | 0,b,hd,h1,h2,hb,ha=>by omega
 | d+1,b,hd,h1,h2,hb,ha=>by
  have hi:O.length-(d+1)<O.length:=by omega
  have e:O.length-d=O.length-(d+1)+1:=by omega
  have hpos:=s.pos hi;have bl:O.length-(d+1)<b.length:=by rw [hb.len];exact hi
  have hbs:=hb.set0 hi hpos;rw [←e]at hbs
  by_cases ht:O.length-(d+1)=t
  ·have hr:=mu_tt s hd hb (ha.mono (by omega):TT O (O.length-(d+1)) a)
   refine⟨fun j hj=>by rw [hr.zero j (by omega),hb.zero j (by omega)],?_⟩
   have hm:∀a b,TT O (O.length-d) a→TT O (O.length-d) b→TT O (O.length-d) (mu O P C d a b):=fun a b h1 h2=>mu_tt s (by omega) h1 h2
   have has:=(ha.mono (by omega):TT O (O.length-(d+1)) a).set0 hi hpos
   rw [←e]at has
   have ir:=hm _ _ (zA7 (fun x _=>by rw [e];exact QL s (by rw [←e];exact hm) x) (nx a (O.length-(d+1))) hbs) has
   have hw:TT O (O.length-d) (pvec P (O.length-(d+1))):=by rw [e];exact s.pw _ hi
   have ir2:=hm _ _ hw ir;rw [←ht];simp only [mu,addm]
   split
   ·rw [at_set (by rw [ir2.len];exact hi),if_pos rfl]
   ·rw [at_set (by rw [ir.len];exact hi),if_pos rfl]
  ·have ha0:at_ a (O.length-(d+1))=0:=ha.zero _ (by omega)
   rw [zLx s hd rfl ha0 hb (ha.mono (by omega)),zg ha0 (by rw [ha.len];exact hi)]
   obtain⟨i1,i2⟩:=zBO s (d:=d) (by omega) (by omega) h2 hbs ha
   have hml:=(mu_tt s (by omega:d≤O.length) hbs (ha.mono (by omega):TT O (O.length-d) a)).len
   refine⟨fun j hj=>?_,?_⟩
   ·rw [at_set (by rw [hml];exact hi)]
    split
    ·rename_i h;rw [h]
    ·rename_i h;rw [i1 j hj,at_set bl,if_neg h]
   ·rw [at_set (by rw [hml];exact hi),if_neg (by omega),i2,at_set bl,if_neg (by omega)]
end Go.Grp
namespace Go.Grp
open Go.Ab Go.Lie
variable {O:List Int} {P:List (List Int)} {C:List (List (List Int))} {x y z a b c g:List Int} {A B:List Int→Prop} {t i:Nat}
section
variable (s:Shp O P C) (F:Full O P C O.length) (hC:Cent O C)
include s F hC
theorem behind (hz:gS O z) (hc:gS O c) (h:Upto O t (gm O P C z c) z) (ht:t≤O.length):TT O t c:=by
 have:∀k,k≤t→TT O k c:=by
  intro k
  induction k with
  | zero=>intro _;exact hc
  | succ k ih=>
   intro hk;have hck:=ih (by omega)
   obtain⟨r1,r2⟩:=zBO s (d:=O.length) (t:=k) (a:=c) (b:=z) (Nat.le_refl _) (by omega) (by omega) (by rw [Nat.sub_self];exact hz) hck
   have e:=h k (by omega)
   show TT O (k+1) c;have e2:addm (at_ O k) (at_ z k) (at_ c k)=at_ z k:=by rw [←r2];exact e
   have:=zLH (hz.bd k (by omega)) (hc.bd k (by omega)) e2
   refine⟨hc.len,hc.bd,fun j hj=>?_⟩
   by_cases g:j=k
   ·subst g;exact this
   ·exact hck.zero j (by omega)
 exact this t (Nat.le_refl _)
theorem tt_cl (ht:t≤O.length) (hx:TT O t x) (hy:TT O t y):TT O t (gm O P C x y):=by
 have G:=F.g;have h0:=G.cl (hx.mono (Nat.zero_le _)) (hy.mono (Nat.zero_le _));rcases Nat.lt_or_ge t O.length with h|h
 ·obtain⟨r1,_⟩:=zBO s (d:=O.length) (t:=t) (a:=y) (b:=x) (Nat.le_refl _) (by omega) h (by rw [Nat.sub_self];exact hx.mono (Nat.zero_le _)) hy
  exact⟨h0.len,h0.bd,fun j hj=>(r1 j hj).trans (hx.zero j hj)⟩
 ·have hx0:x=zv O:=hx.ext (s.zv _) fun j h1 h2=>by omega
  rw [hx0,G.l1 (hy.mono (Nat.zero_le _))];exact hy
end
end Go.Grp
namespace Go.Grp
open Go.Ab Go.Lie
variable {O:List Int} {P:List (List Int)} {C:List (List (List Int))} {x y z a b c g:List Int} {u v L:List (List Int)} {t i k:Nat}
def zMM (O:List Int):List (List Int):=(List.range O.length).map (unit O)
noncomputable def comL (O:List Int) (P:List (List Int)) (C:List (List (List Int))) (L:List (List Int)):List (List Int):=
 L.flatMap fun x=>((List.range O.length).map fun i=>gcom O P C x (unit O i)).filter fun c=>decide (c≠zv O)
noncomputable def Lc (O:List Int) (P:List (List Int)) (C:List (List (List Int))):Nat→List (List Int)
 | 0=>zMM O
 | k+1=>comL O P C (Lc O P C k)
section
variable (s:Shp O P C) (F:Full O P C O.length)
include s F
end
end Go.Grp
namespace Go.Grp
end Go.Grp
namespace Go.Proofs
open Go.Ab Go.Lie Go.Grp
variable {σ:PHeap} {K:PV→PHeap→Prop} {O:List Int} {P:List (List Int)} {C:List (List (List Int))} {vO vP vC vx vy vf va vb:PV} {x y f a b:List Int} {rP rC:List PV} {d j sp:Nat}
theorem zJX (s:Shp O P C) (hR:IsPr vO vP vC O P C) (ha:gS O a) (hb:gS O b) (hva:FI va a) (hvb:FI vb b) (hk:∀v,FI v (gm O P C a b)→K v σ):zA Tryz.prog 50 [.agg [vO,vP,vC],va,vb] σ K:=by
 have h0:=hR.O.one;have h1:=hR.P.one;have h2:=hR.C.one;refine zA.gh ?_;refine zC mix Tryz.func50 ?_
 conv=>arg 2;cbv
 refine zF rfl ?_;simp only [pwA,seval,-iQ0,h0,h1,h2];refine zCw s (d:=O.length) (i:=0) (by omega) hR ha hb hva hvb fun v hv=>?_
 simp only [pwA,seval,-iQ0];exact Gh.fin0 (zB σ _) (hv.bel _) (hk v hv)
end Go.Proofs
namespace Go.Grp
end Go.Grp
namespace Go.Proofs
open Go.Ab Go.Lie Go.Grp
theorem zDz {a b:List Int} (j:Nat):at_ (a++b) j=if j<a.length then at_ a j else at_ b (j-a.length):=by
 by_cases h:j<a.length
 ·rw [if_pos h,at_eq h,at_eq (by rw [List.length_append];omega),List.getElem_append_left h]
 ·rw [if_neg h]
  by_cases h2:j-a.length<b.length
  ·rw [at_eq h2,at_eq (by rw [List.length_append];omega),List.getElem_append_right (by omega)]
  ·rw [at_ge (v:=a++b) (by rw [List.length_append];omega),at_ge (v:=b) (by omega)]
def ordF (O:List Int):Nat→Int
 | 0=>1
 | i+1=>ordF O i*at_ O i
def numF (O x:List Int):Nat→Int
 | 0=>0
 | i+1=>numF O x i*at_ O i+at_ x i
def dgs (O:List Int):Nat→Nat→List Int
 | 0,_=>[]
 | c+1,k=>dgs O c (k / (at_ O c).toNat)++[((k % (at_ O c).toNat:Nat):Int)]
theorem ZR (O:List Int):∀c k,(dgs O c k).length=c
 | 0,_=>rfl
 | c+1,k=>by simp [dgs,ZR O c]
theorem zJq {O:List Int} (h:∀j,j<O.length→2≤at_ O j∧at_ O j≤7):∀{c k:Nat},c≤O.length→∀j,j<c→0≤at_ (dgs O c k) j∧at_ (dgs O c k) j<at_ O j
 | 0,k,hc,j,hj=>by omega
 | c+1,k,hc,j,hj=>by
  have hb:=h c (by omega)
  rw [dgs,zDz,ZR]
  by_cases e:j<c
  ·rw [if_pos e];exact zJq h (by omega) j e
  ·obtain rfl:j=c:=by omega
   rw [if_neg e,Nat.sub_self];show 0≤((k % (at_ O j).toNat:Nat):Int)∧((k % (at_ O j).toNat:Nat):Int)<at_ O j
   have:=Nat.mod_lt k (show 0<(at_ O j).toNat by omega)
   omega
theorem qX {O:List Int} {P:List (List Int)} {C:List (List (List Int))} (s:Shp O P C) (k:Nat):gS O (dgs O O.length k):=
 ⟨ZR _ _ _,fun j hj=>zJq s.pr (Nat.le_refl _) j hj,fun j hj=>by omega⟩
theorem Zr {O:List Int} (h:∀j,j<O.length→2≤at_ O j∧at_ O j≤7):∀{i:Nat},i≤O.length→1≤ordF O i∧ordF O i≤7 ^ i
 | 0,_=>by simp [ordF]
 | i+1,hi=>by
  obtain⟨h1,h2⟩:=Zr h (i:=i) (by omega)
  obtain⟨h3,h4⟩:=h i (by omega)
  have e1:=Int.mul_le_mul_of_nonneg_left (a:=1) (b:=at_ O i) (c:=ordF O i) (by omega) (by omega)
  have e2:=Int.mul_le_mul h2 h4 (by omega) (by omega)
  rw [ordF,Int.pow_succ];omega
theorem pow7 {i:Nat} (h:i≤6):(7:Int) ^ i≤117649:=by
 match i,h with
 | 0,_=>decide
 | 1,_=>decide
 | 2,_=>decide
 | 3,_=>decide
 | 4,_=>decide
 | 5,_=>decide
 | 6,_=>decide
theorem zA4 {O x:List Int} (h:∀j,j<O.length→2≤at_ O j∧at_ O j≤7) (hx:∀j,j<O.length→0≤at_ x j∧at_ x j<at_ O j):∀{i:Nat},i≤O.length→0≤numF O x i∧numF O x i<ordF O i
 | 0,_=>by simp [ordF,numF]
 | i+1,hi=>by
  obtain⟨h1,h2⟩:=zA4 h hx (i:=i) (by omega)
  obtain⟨h3,h4⟩:=h i (by omega)
  obtain⟨h5,h6⟩:=hx i (by omega)
  have e1:=Int.mul_nonneg h1 (show 0≤at_ O i by omega)
  have e2:=Int.mul_le_mul_of_nonneg_right (a:=numF O x i+1) (b:=ordF O i) (c:=at_ O i) (by omega) (by omega)
  rw [Int.add_mul,Int.one_mul]at e2
  rw [ordF,numF];omega
variable {σ:PHeap} {K:PV→PHeap→Prop} {O:List Int} {P:List (List Int)} {C:List (List (List Int))} {vO vP vC vx:PV} {x:List Int} {sp:Nat}
theorem zAa (s:Shp O P C) (hs:PtrG σ sp vO vP vC) (hO:FI vO O) (hk:K (.int .i64 (ordF O O.length)) σ):zA Tryz.prog 42 [.ptr sp 0] σ K:=by
 have hn6:=s.le;obtain⟨w0,a0,rfl⟩:=hO;have e0:σ.rd1 sp 0=some (.fz w0 a0 O.length (pis O)):=by rw [zH hs.obj];rfl
 refine zC mix Tryz.func42 ?_
 conv=>arg 2;cbv
 refine zF rfl ?_;simp only [pwA,seval,-iQ0,e0];refine zG (fun m vs h'=>∃i:Nat,i≤O.length∧m=O.length-i∧vs=[.int .i64 (ordF O i),.fz w0 a0 O.length (pis O),.int .i64 O.length,.int .i64 i]∧σ=h') O.length ⟨0,by omega,by omega,rfl,rfl⟩ ?_
 rintro m vs h' ⟨i,hi,rfl,rfl,rfl⟩
 simp only [pwA,seval,-iQ0];refine iteI (fun hlt=>?_) fun hge=>?_
 rotate_left
 ·have hie:i=O.length:=by omega
  subst hie;exact hk
 have hb:=Zr s.pr (i:=i+1) hlt;have h7:=pow7 (i:=i+1) (by omega)
 have ha:=at_eq hlt;have hm:ordF O i*O[i]=ordF O (i+1):=by rw [ordF,ha]
 have hw:IntKind.i64.wrap (ordF O i*O[i])=ordF O (i+1):=by rw [hm,wrap64 (by omega) (by omega)]
 simp only [pwA,seval,-iQ0,hlt,gi hlt,zM,hw,wrapS hlt (by omega:O.length≤4611686018427387904)]
 exact⟨_,by omega,i+1,by omega,rfl,rfl⟩
end Go.Proofs
namespace Go.Lie
open Go.Ab
variable {p:Int} {n:Nat} {W:List (List Int)}
def dep:List Int→Nat
 | []=>0
 | x::xs=>if x=0 then dep xs+1 else 0
end Go.Lie
