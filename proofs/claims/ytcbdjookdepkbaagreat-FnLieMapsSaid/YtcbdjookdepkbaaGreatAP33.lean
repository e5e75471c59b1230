/- What a law is handed, laid as frozen values: Lie rings, lists of elements. -/
import Derived.Test.YtcbdjookdepkbaaGreatAP29
import Derived.Test.YtcbdjookdepkbaaGreatAP31
import Derived.Test.YtcbdjookdepkbaaGreatAAbPz
import Derived.Test.YtcbdjookdepkbaaGreatAAbPt
import Derived.Test.YtcbdjookdepkbaaGreatRows
import Derived.Lib.SmallJoins
import Derived.WalkKit
import Derived.ProofKit
open Int renaming reduceNatCast'→iQ0
set_option maxRecDepth 100000
namespace Go.Grp
end Go.Grp
set_option linter.unusedSimpArgs false
set_option linter.unusedVariables false
namespace Go.Proofs
open Go.Ab Go.Lie Go.Grp
variable {σ:PHeap} {K:PV→PHeap→Prop} {O:List Int} {P:List (List Int)} {C:List (List (List Int))} {vO vP vC vx:PV} {s:Nat} {x:List Int} {rP rC:List PV}
theorem pisAt {i:Nat} (h:i<x.length):(pis x)[i]? = some (.int .i64 (at_ x i)):=by rw [zN,gi h,at_eq h];rfl
end Go.Proofs
namespace Go.Proofs
open Go.Ab Go.Lie
variable {σ:PHeap} {K:PV→PHeap→Prop} {p p':Int} {n:Nat} {W W':List (List Int)} {B B':List (List (List Int))} {vP vB vP' vB' vL:PV} {s s' j0:Nat} {im:List (List Int)}
theorem zI1 {P m q r:Nat} (hr:r<P) (h:q<P ^ m):((List.range (q*P+r+1)).map (digs P (m+1)))=((List.range (q*P+r)).map (digs P (m+1)))++[digs P m q++[(r:Int)]]:=by
 rw [List.range_succ,List.map_append,List.map_cons,List.map_nil,zEn hr]
theorem zKS {w:Bool} {a:AV} {xs:List Int} {l:Nat} (hl:l=xs.length) (hb:xs.length≤4294967296) (hk:∀v h',Keep σ h'→PAcc σ.next 1 h' v l (pis xs)→K v h'):zA Tryz.prog 67 [.fz w a l (pis xs)] σ K:=by
 subst hl;exact zBO rfl hb ⟨fun h0=>hk _ _ (Keep.refl _) (.inl ⟨rfl,by rw [h0];rfl,by rw [h0];rfl⟩),fun cap hc=>hk _ _ (zC _ _) (PSl.own hc (by simp [PHeap.new]) (by simp [pis]) (Nat.le_refl _) (by simp [PHeap.new])).acc⟩
theorem zKH {P:Nat} (hs:PtrR σ s p vP vB) (hP:FII vP W) (hW:W.length=n) (hn:n≤6) (hp:p=(P:Int)) (hP2:2≤P∧P≤7) (hb:P ^ n≤729) (hk:∀v,FII v (allE P n)→K v σ):zA Tryz.prog 29 [.ptr s 0] σ K:=by
 subst hp;obtain⟨wp,ap,rp,rfl,hrp⟩:=hP;have pb:∀m,m≤n→P ^ m≤729:=fun m hm=>Nat.le_trans (Nat.pow_le_pow_right (by omega) hm) hb
 refine zA.pwf fun w=>zA.gh ?_
 have e1:σ.rd1 s 1=some (.fz wp ap W.length rp):=by rw [zG hs.obj];rfl
 have e0:σ.rd1 s 0=some (.int .i64 P):=by rw [zG hs.obj];rfl
 have hsl:=hs.lt;refine zD mix Tryz.func29 ?_;have hn1:¬s=σ.next:=by omega
 have hn2:¬s=σ.next+1:=by omega
 simp only [pwA,seval,-iQ0,e1,hn1,hn2];have w0:(allE P 0)=[[]]:=by simp [allE,digs]
 refine Zx (fun m vs h'=>∃(i:Nat) (v:PV),i≤n∧m=n-i∧vs=[.ptr s 0,v,.int .i64 W.length,.int .i64 i]∧Keep σ h'∧FII v (allE P i)) n ?_ ?_
 ·simp only [pwA,seval,-iQ0]
  refine .fzh σ.next [] (by simp only [pwA,seval,-iQ0]) trivial fun o1=>?_
  refine .fz (σ.next+1) [.fz true (.sl o1 0 0 (.known 0)) 0 []] ?_ ⟨trivial,trivial⟩ fun o2=>.here ⟨0,.fz true (.sl o2 0 1 (.known 1)) 1 [.fz true (.sl o1 0 0 (.known 0)) 0 []],by omega,by omega,?_,?_,?_⟩
  ·simp [PHeap.sub,PHeap.kill,PHeap.new,sbs,sb,capOK]
  ·simp [sbs,sb,capOK]
  ·exact((((zC σ _).new _).kill (by omega)).sub w (by omega)).kill (by omega)
  ·rw [w0]
   exact⟨_,_,_,rfl,(All2.nil FI).snoc ⟨_,_,rfl⟩⟩
 rintro m vs h' ⟨i,v,hi,rfl,rfl,hkp,hv⟩
 have hvv:=hv;obtain⟨wv,av,rv,rfl,hrv⟩:=hv;simp only [pwA,seval,-iQ0];refine iteI (fun hlt=>?_) fun hge=>?_
 rotate_left
 ·have hie:i=n:=by omega
  subst hie;exact Gh.fin0 hkp trivial (hk _ hvv)
 have hlt':i<n:=by omega
 have hpi:=pb i (by omega)
 have hpi1:=pb (i+1) (by omega)
 rw [Nat.pow_succ]at hpi1
 have hel:=qZ P i;refine zF (fun m vs h2=>∃(q:Nat) (vA:PV) (rows:List PV),q≤P ^ i∧m=P ^ i-q∧vs=[.ptr s 0,vA,.int .i64 W.length,.int .i64 i,.fz wv av (allE P i).length rv,.int .i64 (allE P i).length,.int .i64 q]∧Keep σ h2∧PAcc σ.next 1 h2 vA (q*P) rows∧All2 FI rows ((List.range (q*P)).map (digs P (i+1)))) (P ^ i) ?_ ?_
 ·exact⟨0,_,[],by omega,by omega,rfl,hkp,by rw [Nat.zero_mul];exact PAcc.nil _ _ _,by rw [Nat.zero_mul];exact All2.nil _⟩
 rintro m vs h2 ⟨q,vA,rows,hq,rfl,rfl,hk2,ha,hrows⟩
 have hs2:=hs.keep hk2;have e02:h2.rd1 s 0=some (.int .i64 P):=by rw [zG hs2.obj];rfl
 simp only [pwA,seval,-iQ0];refine iteI (fun hltq=>?_) fun hgeq=>?_
 rotate_left
 ·have hqe:q=P ^ i:=by omega
  subst hqe;have hpos:0<P ^ i*P:=Nat.mul_pos (Nat.pow_pos (by omega)) (by omega)
  obtain⟨t,cap,rfl,hc,q2,q3,q4,q5⟩:=ha.pos hpos;simp only [pwA,seval,-iQ0,wrapS hlt (by omega:W.length≤4611686018427387904)]
  refine⟨n-(i+1),by omega,.fz t rows q2 (hrows.bI 0) fun o1=>.here ⟨i+1,.fz true (.sl o1 0 (P ^ i*P) cap) (P ^ i*P) rows,by omega,rfl,?_,hk2.kill q4,_,_,rows,by rw [qZ,Nat.pow_succ],?_⟩⟩
  ·simp [sbs,sb,hc.ok]
  ·unfold allE
   rw [Nat.pow_succ];exact hrows
 have hql:q<(allE P i).length:=hltq;rw [hel]at hltq
 have hqP:q*P+P≤P ^ i*P:=by
  have:=Nat.mul_le_mul_right P (show q+1≤P ^ i by omega)
  rw [Nat.add_mul]at this;omega
 obtain⟨w4,a4,hr⟩:=hrv.rowI hql;rw [zGQ hql,qo]at hr
 simp only [pwA,seval,-iQ0,hql,hr,e02];refine Zx (fun m vs h3=>∃(r:Nat) (vA:PV) (rows:List PV),r≤P∧m=P-r∧vs=[.ptr s 0,vA,.fz w4 a4 i (pis (digs P i q)),.int .i64 W.length,.int .i64 i,.fz wv av (allE P i).length rv,.int .i64 (allE P i).length,.int .i64 q,.int .i64 P,.int .i64 r]∧Keep σ h3∧PAcc σ.next 1 h3 vA (q*P+r) rows∧All2 FI rows ((List.range (q*P+r)).map (digs P (i+1)))) P ?_ ?_
 ·exact .here ⟨0,vA,rows,by omega,by omega,rfl,hk2,ha,hrows⟩
 clear ha hrows rows vA
 rintro m vs h3 ⟨r,vA,rows,hr',rfl,rfl,hk3,ha,hrows⟩
 simp only [pwA,seval,-iQ0];refine iteI (fun hltr=>?_) fun hger=>?_
 rotate_left
 ·have hre:r=P:=by omega
  subst hre;simp only [pwA,seval,-iQ0,wrapS hql (by omega:(allE r i).length≤4611686018427387904)]
  refine⟨_,by omega,q+1,vA,rows,by omega,rfl,rfl,hk3,by rw [Nat.add_mul,Nat.one_mul];exact ha,by rw [Nat.add_mul,Nat.one_mul];exact hrows⟩
 have hltr':r<P:=by omega
 simp only [pwA,seval,-iQ0];refine zKS (qo _ _ _).symm (by rw [qo];omega) fun vC h4 k4 a4'=>?_
 simp only [pwA,seval,-iQ0];refine PAcc.push (bytes:=8) (σb:=h3) k4 a4' (by omega) (by omega) fun vR h5 k5 a5=>?_
 obtain⟨sR,cR,rfl,hcR,g2,g3,g4,g5⟩:=a5;simp only [pwA,seval,-iQ0];refine PAcc.pushS (bytes:=24) (σb:=σ) (hk3.trans k5) (ha.keep k5) rfl (by omega) (by omega) fun v6 h6 k6 a6 o6 n6 l6=>?_
 simp only [pwA,seval,-iQ0,wrapS hltr' (by omega:P≤4611686018427387904)]
 have hb6:Bels 0 (pis (digs P i q)++[.int .i64 r]):=by
  have:=zZ 0 (digs P i q++[(r:Int)])
  simpa [pis]using this
 refine⟨P-(r+1),by omega,.fzh sR _ (by rw [o6 sR g5 (ha.ne g4)];exact g2) hb6 fun o1=>.here ⟨r+1,v6,rows++[.fz true (.sl o1 0 (i+1) cR) (i+1) (pis (digs P i q)++[.int .i64 r])],by omega,rfl,?_,?_,?_,?_⟩⟩
 ·have:=(PSl.fzr w k6 a6 (s:=sR) (cs:=pis (digs P i q)++[.int .i64 r]) (by have:=hk3.next;omega) (n6 sR g5) o1).2.2
  simp only [sbs,sb,this]
 ·exact(PSl.fzr w k6 a6 (by have:=hk3.next;omega) (n6 sR g5) o1).1
 ·have:=(PSl.fzr w k6 a6 (s:=sR) (cs:=pis (digs P i q)++[.int .i64 r]) (by have:=hk3.next;omega) (n6 sR g5) o1).2.1
  rw [zD5 (hrows.bI 0) hcR.ok]at this
  exact this.acc
 ·rw [←Nat.add_assoc,zI1 hltr' hltq]
  refine hrows.snoc ⟨true,.sl o1 0 (i+1) cR,?_⟩;rw [List.length_append,qo];simp [pis]
end Go.Proofs
namespace Go.Proofs
open Go.Ab Go.Lie
variable {σ:PHeap} {K:PV→PHeap→Prop} {p p':Int} {n:Nat} {W W':List (List Int)} {B B':List (List (List Int))} {vP vB vP' vB' vL:PV} {s s' j0:Nat} {im:List (List Int)}
theorem zLH {P k0:Nat} (hR:IsR vP vB W B) (hW:W.length=n) (hn:n≤6) (hp:p=(P:Int)) (hP2:2≤P∧P≤7) (hk0:k0≤1000000) (hk:∀v,FI v (digs P n k0)→K v σ):zA Tryz.prog 78 [.agg [.int .i64 p,vP,vB],.int .i64 k0] σ K:=by
 subst hp;have h1:=hR.P.one;have h2:=hR.B.one;refine zA.gh ?_;refine zD mix Tryz.func78 ?_;simp only [pwA,seval,-iQ0,h1,h2];refine zCb hR hW (by omega) fun cap hc=>?_
 have ew:IntKind.i64.wrap ((n:Int)-1)=(n:Int)-1:=wrap64 (by omega) (by omega)
 simp only [pwA,seval,-iQ0,ew];refine zF (fun m vs h'=>∃(c kk:Nat) (out:List Int),c≤n∧m=c∧vs=[.int .i64 kk,.ptr σ.next 0,.sl (σ.next+1) 0 n cap,.int .i64 ((c:Int)-1)]∧h'=(σ.new [.int .i64 P,vP,vB]).new (pis out)∧out.length=n∧kk≤k0∧digs P c kk++out.drop c=digs P n k0) n ?_ ?_
 ·refine⟨n,k0,List.replicate n 0,Nat.le_refl _,rfl,rfl,rfl,by simp,Nat.le_refl _,?_⟩
  rw [List.drop_of_length_le (by simp),List.append_nil]
 rintro m vs h' ⟨c,kk,out,hcn,rfl,rfl,rfl,hol,hkk,hd⟩
 rcases Nat.eq_zero_or_pos m with rfl|hpos
 ·simp only [pwA,seval,-iQ0,show ¬((0:Int)≤((0:Nat):Int)-1) by omega]
  have he:out=digs P n k0:=by simpa [digs]using hd
  rw [←he]at hk
  clear he hd;rw [←hol]at hc ⊢
  exact Gh.finF (s:=σ.next+1) ((zC σ _).new _) (by simp only [pwA,seval,-iQ0]) (by omega) (zZ _ _) hc.ok fun o1=>hk _ ⟨_,_,rfl⟩
 ·obtain⟨c,rfl⟩:∃c,m=c+1:=⟨m-1,by omega⟩
  have e:((c+1:Nat):Int)-1=(c:Int):=by omega
  have hco:c<out.length:=by omega
  have hcn':c<n:=by omega
  have ew2:IntKind.i64.wrap ((c:Int)-1)=(c:Int)-1:=wrap64 (by omega) (by omega)
  rw [e];have hP0:¬(P:Int)=0:=by omega
  have et:(kk:Int).tmod (P:Int)=((kk % P:Nat):Int):=rfl;have ed:(kk:Int).tdiv (P:Int)=((kk / P:Nat):Int):=rfl;have hdl:kk / P≤kk:=Nat.div_le_self _ _;have ewq:∀q:Nat,q≤kk→IntKind.i64.wrap (q:Int)=(q:Int):=fun q hq=>wrap64 (by omega) (by omega)
  have ewq:=ewq _ hdl;have hco1:c+1≤out.length:=hco;have hset:=qM hco (x:=((kk % P:Nat):Int));simp only [pwA,seval,-iQ0,hP0,et,ed,ewq,hcn',hco1,zY,hset,ew2];refine⟨c,Nat.lt_succ_self c,c,kk / P,out.set c ((kk % P:Nat):Int),by omega,rfl,rfl,rfl,by rw [List.length_set];exact hol,Nat.le_trans hdl hkk,?_⟩
  rw [←hd,digs,List.append_assoc]
  congr 1
  rw [List.drop_eq_getElem_cons (by rw [List.length_set];exact hco),List.getElem_set_self,List.drop_set_of_lt (by omega)]
  rfl
end Go.Proofs
namespace Go.Proofs.YtcbdjookdepkbaaGreat
open Go.ChangeShapes Go.WideShapes Go.ChangeAt Go.RowKit Go.Ab Go.Joins Go.Lie Go.Proofs
theorem own:ownKnob Tryz.prog.godebug=none:=by kernel_rfl
theorem laidOut:laidOutB Tryz.prog=true:=by kernel_rfl
variable {H:Type} {enc:TypeId×Value→H} {W w0:World} {j:Inj} {h:AHeap}
end Go.Proofs.YtcbdjookdepkbaaGreat
