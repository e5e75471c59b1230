/- A group of the families, drawn. -/
import Derived.Test.YtfoidnlodahfjaaGreatAP42
import Derived.Test.YtfoidnlodahfjaaGreatAP33
open Int renaming reduceNatCast'→iQ0
set_option maxRecDepth 100000
namespace Go.Grp
end Go.Grp
set_option linter.unusedSimpArgs false
set_option linter.unusedVariables false
set_option linter.unusedSectionVars false
namespace Go.Proofs
open Go.Ab Go.Lie Go.Grp
variable {σ σ0 h h':PHeap} {K:PV→PHeap→Prop} {b s t k nP nC r s0 i j:Nat} {L L':Nat→Nat} {Q Q':Nat→Prop} {len:Nat→Nat} {v vO vP vC c vX vS vL:PV} {x O xs bs:List Int} {P M:List (List Int)} {C:List (List (List Int))} {cs:List PV}
structure Fm (N:Nat) (O:List Int) (P:List (List Int)) (C:List (List (List Int))):Prop where
 n:O.length≤N
 ob:∀a∈O,1≤a∧a≤1000
 q:PQ3 (fun m=>m=O.length) P C O.length O.length (fun i=>O.length-1-i)
theorem Fm.mono {N N':Nat} (a:Fm N O P C) (h:N≤N'):Fm N' O P C:=⟨Nat.le_trans a.n h,a.ob,a.q⟩
theorem Fm.nil (N:Nat):Fm N [] [] []:=⟨Nat.zero_le _,fun a h=>(by cases h),rfl,rfl,fun r h=>(by cases h),fun i h=>absurd h (Nat.not_lt_zero _),fun q h=>by cases h⟩
theorem isP.b1 {p:Int} (h:isP p):1≤p∧p≤1000:=by have:=h.bd;omega
theorem PW.fin2 {e:Int} (a:PW L b h Q O nP nC len vO vP vC) (hk:Keep σ h) (hb:σ.next≤b) (k:∀wO wP wC P C,IsPr wO wP wC O P C→PQ3 Q P C nP nC len→K (.tup [.agg [wO,wP,wC],.int .i64 e]) σ):Gh σ K (.tup [.agg [vO,vP,vC],.int .i64 e]) h:=by
 obtain⟨t1,a1,rfl,a3⟩:=a.hO.tree;obtain⟨t2,P,⟨b1,rfl,b3⟩,b4⟩:=a.hP.tree;obtain⟨t3,C,⟨c1,rfl,c3⟩,c4,c5,c6⟩:=a.hC.tree;have et:(TR.tup [TR.agg [t1,t2,t3],.leaf (.int .i64 e)]).pv=.tup [.agg [t1.pv,t2.pv,t3.pv],.int .i64 e]:=by simp only [TR.pv,TR.pvs]
 rw [←et];refine Gh.treeF hk (zAg (b:=b) hb ⟨⟨qy a1,qy b1,qy c1,trivial⟩,trivial,trivial⟩) fun aa=>?_
 have:=k (t1.fz aa) (t2.fz aa) (t3.fz aa) P C ⟨a3 aa,(b3 aa).1,c3 aa⟩ ⟨b4,c4,(b3 aa).2,c5,c6⟩
 simpa only [TR.fz,TR.fzs]using this
theorem q8 {n m a c:Int} (hn:1≤n∧n≤1000) (hm:1≤m∧m≤1000) (ha:0≤a∧a≤1000) (hc:0≤c∧c≤1000)
  (hk:∀wO wP wC O P C,IsPr wO wP wC O P C→Fm 18 O P C→K (.agg [wO,wP,wC]) σ):zA Tryz.prog 225 [.int .i64 n,.int .i64 m,.int .i64 a,.int .i64 c] σ K:=by
 refine zA.gh ?_;refine zN mix Tryz.func225 cf225 rfl ?_;dsimp only [if225,eI,qD,eD,mI0,kI0,lI0,LI0,xI0,bI0,cI0,sI0,eI0,C1,C3,mD0,lD0,fD0,xD0,I0,vI0,wD0,R0,S0];simp only [pwA,seval,-iQ0];refine Z6 hn fun v1 x1 t1 hv1 hl1 hp1=>?_
 have h11:=hv1.one;simp only [pwA,seval,-iQ0];refine Z6 hm fun v2 x2 t2 hv2 hl2 hp2=>?_
 simp only [pwA,seval,-iQ0];obtain⟨w1,a1,rfl⟩:=hv1;refine zq rfl (by omega) fun cap1 hc1=>?_
 obtain⟨w2,a2,rfl⟩:=hv2;simp only [pwA,seval,-iQ0];generalize hH:σ.new [PV.fz true AV.nils 0 [],PV.fz true AV.nils 0 [],PV.fz true AV.nils 0 []]=H;have hHn:H.next=σ.next+1:=by rw [←hH];rfl
 have kH:Keep σ H:=by rw [←hH];exact zB _ _
 have ob1:H.obj σ.next=some [PV.fz true AV.nils 0 [],PV.fz true AV.nils 0 [],PV.fz true AV.nils 0 []]:=by rw [←hH];simp only [pwA,seval,-iQ0]
 clear hH;rw [←hHn];refine PSl.cat (σb:=H) (bytes:=8) (m:=x2.length) (news:=pis x2) (zB H _) (PSl.own (n:=x1.length) hc1 (by rw [zG,if_pos rfl]) (by rw [zK,Nat.mul_one]) (Nat.le_refl _) (Nat.lt_succ_self _)) (by rw [zK]) (by omega) (by omega) fun v3 h3 k3 a3=>?_
 rw [Z4,←List.length_append]at a3
 obtain⟨O,hO⟩:∃O,O=x1++x2:=⟨_,rfl⟩
 rw [←hO]at a3
 have hOl:O.length=x1.length+x2.length:=by rw [hO,List.length_append]
 have hOb:∀a∈O,1≤a∧a≤1000:=fun a h=>by
  rw [hO]at h
  rcases List.mem_append.1 h with h|h
  ·exact(hp1 a h).b1
  ·exact(hp2 a h).b1
 clear hO;obtain⟨so,capO,rfl,q1,q2,q3,q4,q5⟩:=a3;have hn3:=k3.next;simp only [pwA,seval,-iQ0];refine qX q2 q5 (by omega) fun L h vO vP vC k4 p4=>?_
 have hn4:=k4.next;have a5:=TB.start (r:=σ.next) p4 (by omega) (by rw [k4.obj _ (by omega),k3.obj _ (by omega)];exact ob1) hn4
 have k5:=k4.new [vO,vP,vC];simp only [pwA,seval,-iQ0,p4.hO.one,p4.hP.one,p4.hC.one];generalize h.next=s at *
 clear p4 k4;generalize hN:O.length=N at *
 refine zF (fun m' vs h=>∃(i:Nat) (L:Nat→Nat),i≤N∧m'=N-i∧vs=[.int .i64 m,.int .i64 a,.int .i64 c,.ptr σ.next 0,.fz w1 a1 x1.length (pis x1),.sl so 0 N capO,.ptr s 0,.int .i64 x1.length,.int .i64 i]∧Keep h3 h∧TB h3.next h (fun m=>m=N) O L N N (fun j=>N-1-j) σ.next s vO vP vC) N ?_ ?_
 ·exact⟨0,_,Nat.zero_le _,rfl,rfl,k5,a5⟩
 clear a5 k5
 rintro m' vs h ⟨i,L,hi,rfl,rfl,k5,a5⟩
 have hn5:=k5.next;have wi:IntKind.i64.wrap ((i:Int)+1)=((i+1:Nat):Int):=by rw [wrap64 (by omega) (by omega)];omega
 simp only [pwA,seval,-iQ0,wi];refine iteI (fun hlt=>?_) fun hge=>?_
 ·have hlt':((i+1:Nat):Int)<(N:Int):=by omega
  refine iteI (fun he=>?_) fun he=>?_
  ·exact⟨_,by omega,i+1,L,by omega,rfl,rfl,k5,a5⟩
  have hiN:i<N:=by omega
  have hiN':(i:Int)<(N:Int):=by omega
  obtain⟨sP,capP,rfl,hbP,hlP,put⟩:=a5.putPx hiN;have nP1:¬sP=h.next:=by omega
  simp only [pwA,seval,-iQ0,a5.r1,wi];refine Qm (by omega) hlt fun cap2 hc2=>?_
  obtain⟨ds,L',w,a6⟩:=put (xs:=unitL N (i+1)) (cp:=cap2) (zb ..) (by rw [zb];exact hc2)
  rw [zb]at w
  have k6:Keep h3 ((h.new (pis (unitL N (i+1)))).set sP ds):=(k5.new _).set (by omega) _
  have r1:(h.new (pis (unitL N (i+1)))).rd1 s 1=some (.sl sP 0 N capP):=(a5.new _).r1;generalize h.new (pis (unitL N (i+1)))=g at *
  simp only [pwA,seval,-iQ0,r1,hiN,hiN',w,wi];refine⟨_,by omega,i+1,L',by omega,rfl,rfl,k6,a6⟩
 clear wi hge hi;have dig:∀{g:PHeap} {K':PV→PHeap→Prop} {f:Nat} {y:Int},Keep h3 g→0≤y∧y≤1000000→(∀ys cap,ys.length=N→full 1 cap N→K' (.sl g.next 0 N cap) (g.new (pis ys)))→zA Tryz.prog 237 [.sl so 0 N capO,.int .i64 f,.int .i64 y] g K':=fun {g K' f y} kg hy hk'=>
  zFF (O:=O) (n:=N) (by rw [kg.obj so q5];exact q2) (by have:=kg.next;omega) hN (by omega) hOb hy hk'
 have fin:∀{g:PHeap} {L:Nat→Nat},Keep h3 g→TB h3.next g (fun m=>m=N) O L N N (fun j=>N-1-j) σ.next s vO vP vC→
   g.wr σ.next 0 [vO,vP,vC]=some (g.set σ.next [vO,vP,vC])∧(g.set σ.next [vO,vP,vC]).rd σ.next 0 3=some [vO,vP,vC]∧Gh σ K (.agg [vO,vP,vC]) (g.set σ.next [vO,vP,vC]):=fun {g L} kg a=>by
  obtain⟨e1,e2,e3⟩:=a.fin;refine⟨e1,e2,e3.fin (((kH.trans k3).trans kg).set (Nat.le_refl _) _) (by omega) fun wO wP wC P C r1 r2=>hk wO wP wC O P C r1 ⟨by omega,hOb,?_⟩⟩
  rw [hN];exact r2
 have hm0:¬m=0:=by omega
 have hx0:0≤a.tmod m:=Int.tmod_nonneg m ha.1;have hx1:a.tmod m≤1000:=by have:=Int.tmod_lt_of_pos a (show 0<m by omega);omega
 simp only [pwA,seval,-iQ0];refine iteI (fun hpos=>?_) fun hz=>?_
 rotate_left
 ·have hz0:x1.length=0:=by omega
  simp only [pwA,seval,-iQ0,hm0];refine zF (fun m' vs h'=>∃(x:Int),m'=0∧vs=[.int .i64 m,.ptr σ.next 0,.fz w1 a1 x1.length (pis x1),.sl so 0 N capO,.ptr s 0,.int .i64 x1.length,.int .i64 x,.int .i64 (0:Nat)]∧h'=h) 0 ?_ ?_
  ·exact⟨_,rfl,rfl,rfl⟩
  rintro m' vs h ⟨x,rfl,rfl,rfl⟩
  obtain⟨e1,e2,e3⟩:=fin k5 a5;simp only [pwA,seval,-iQ0,hz0,a5.r3,e1,e2];exact e3
 have hl0:x1.length-1<N:=by omega
 have hl0':((x1.length-1:Nat):Int)<(N:Int):=by omega
 have wl:IntKind.i64.wrap ((x1.length:Int)-1)=((x1.length-1:Nat):Int):=by rw [wrap64 (by omega) (by omega)];omega
 obtain⟨sP,capP,rfl,hbP,hlP,put⟩:=a5.putPx hl0;have nP1:¬sP=h.next:=by omega
 simp only [pwA,seval,-iQ0,a5.r1,wl,hl0,hl0'];refine dig (f:=x1.length) k5 (by omega) fun ys cap2 hys hc2=>?_
 obtain⟨ds,L',w,a6⟩:=put (xs:=ys) (cp:=cap2) hys (by rw [hys];exact hc2)
 rw [hys]at w
 have k6:Keep h3 ((h.new (pis ys)).set sP ds):=(k5.new _).set (by omega) _
 have r1:(h.new (pis ys)).rd1 s 1=some (.sl sP 0 N capP):=(a5.new _).r1;generalize h.new (pis ys)=g at *
 simp only [pwA,seval,-iQ0,r1,hl0,hl0',w,wl,hm0];generalize g.set sP ds=g2 at *
 refine zF (fun m' vs h=>∃(i:Nat) (x:Int) (L:Nat→Nat),i≤x1.length∧m'=x1.length-i∧vs=[.int .i64 m,.ptr σ.next 0,.fz w1 a1 x1.length (pis x1),.sl so 0 N capO,.ptr s 0,.int .i64 x1.length,.int .i64 x,.int .i64 i]∧0≤x∧x≤1000∧Keep h3 h∧TB h3.next h (fun m=>m=N) O L N N (fun j=>N-1-j) σ.next s vO (.sl sP 0 N capP) vC) x1.length ?_ ?_
 ·exact⟨0,_,L',Nat.zero_le _,rfl,rfl,hx0,hx1,k6,a6⟩
 clear k6 a6 w put nP1 hlP k5 a5 hn5
 rintro m' vs h ⟨i,x,L,hi,rfl,rfl,x0,x1k,k5,a5⟩
 have hn5:=k5.next;simp only [pwA,seval,-iQ0];refine iteI (fun hlt=>?_) fun hge=>?_
 rotate_left
 ·obtain⟨e1,e2,e3⟩:=fin k5 a5
  simp only [pwA,seval,-iQ0,a5.r3,e1,e2];exact e3
 refine zF (fun m' vs h=>∃(j:Nat) (L:Nat→Nat),x1.length≤j∧j≤N∧m'=N-j∧vs=[.int .i64 m,.ptr σ.next 0,.fz w1 a1 x1.length (pis x1),.sl so 0 N capO,.ptr s 0,.int .i64 x1.length,.int .i64 x,.int .i64 i,.int .i64 j]∧Keep h3 h∧TB h3.next h (fun m=>m=N) O L N N (fun j=>N-1-j) σ.next s vO (.sl sP 0 N capP) vC) (N-x1.length) ?_ ?_
 ·exact⟨x1.length,L,Nat.le_refl _,by omega,rfl,rfl,k5,a5⟩
 clear k5 a5 hn5
 rintro m' vs h ⟨j,L,hj1,hj,rfl,rfl,k5,a5⟩
 have hn5:=k5.next;have hiN:i<N:=by omega
 have hiN':(i:Int)<(N:Int):=by omega
 have hix:(i:Int)<(x1.length:Int):=by omega
 simp only [pwA,seval,-iQ0];refine iteI (fun hlt2=>?_) fun hge=>?_
 rotate_left
 ·have xi:=(hp1 _ (List.getElem_mem hlt)).b1
  have gx:(pis x1)[i]? = some (.int .i64 x1[i]):=by rw [zL,gi hlt];rfl
  simp only [pwA,seval,-iQ0,hlt,hix,gx];refine zHi ⟨x0,x1k⟩ ⟨by omega,xi.2⟩ hm fun y hy=>?_
  simp only [pwA,seval,-iQ0,wrapS hlt (by omega:x1.length≤4611686018427387904)]
  exact⟨_,by omega,i+1,y,L,by omega,rfl,rfl,hy.1,hy.2,k5,a5⟩
 have hji:j-i-1<N-1-i:=by omega
 have hji':((j-i-1:Nat):Int)<((N-1-i:Nat):Int):=by omega
 have wj:IntKind.i64.wrap ((j:Int)-(i:Int))=(j:Int)-(i:Int):=wrap64 (by omega) (by omega)
 have wj1:IntKind.i64.wrap ((j:Int)-(i:Int)-1)=((j-i-1:Nat):Int):=by rw [wrap64 (by omega) (by omega)];omega
 obtain⟨sC,capC,u,capu,rfl,q7,hbC,hlC,hbu,hlu,put⟩:=a5.putCx hiN hji;have nC1:¬sC=h.next:=by omega
 have nu1:¬u=h.next:=by omega
 simp only [pwA,seval,-iQ0,a5.r2,q7,hiN,hiN',wj,wj1];refine dig (f:=j) k5 (by omega) fun ys cap2 hys hc2=>?_
 obtain⟨ds,L',rC,w,a6⟩:=put (xs:=ys) (cp:=cap2) hys (by rw [hys];exact hc2)
 rw [hys]at w
 have r2:(h.new (pis ys)).rd1 s 2=some (.sl sC 0 N capC):=(a5.new _).r2;have k6:Keep h3 ((h.new (pis ys)).set u ds):=(k5.new _).set (by omega) _
 generalize h.new (pis ys)=g at *
 simp only [pwA,seval,-iQ0,r2,rC,hiN,hiN',hji,hji',w,wj,wj1,wrapS (by omega:j<N) (by omega:N≤4611686018427387904)]
 exact⟨_,by omega,j+1,L',by omega,by omega,rfl,rfl,k6,a6⟩
theorem zJb {n:Int} (hn:1≤n∧n≤1000) (hk:∀e wO wP wC O P C,IsPr wO wP wC O P C→Fm 6 O P C→K (.tup [.agg [wO,wP,wC],.int .i64 e]) σ):zA Tryz.prog 224 [.int .i64 n] σ K:=by
 have nil:∀e,K (.tup [.agg [.fz true .nils 0 [],.fz true .nils 0 [],.fz true .nils 0 []],.int .i64 e]) σ:=fun e=>
  hk e _ _ _ [] [] [] ⟨⟨true,.nils,rfl⟩,⟨true,.nils,[],rfl,All2.nil _⟩,⟨true,.nils,[],rfl,All2.nil _⟩⟩ (Fm.nil 6)
 have nilG:∀{h:PHeap} {e:Int},Keep σ h→Gh σ K (.tup [.agg [.fz true .nils 0 [],.fz true .nils 0 [],.fz true .nils 0 []],.int .i64 e]) h:=fun {h e} kh=>by
  have et:(TR.tup [TR.agg [.nil,.nil,.nil],.leaf (.int .i64 e)]).pv=.tup [.agg [.fz true .nils 0 [],.fz true .nils 0 [],.fz true .nils 0 []],.int .i64 e]:=by simp only [TR.pv,TR.pvs]
  rw [←et];refine Gh.treeF kh ⟨⟨trivial,trivial,trivial,trivial⟩,trivial,trivial⟩ fun aa=>?_
  simpa only [TR.fz,TR.fzs]using nil e
 refine zA.gh ?_;refine zC mix Tryz.func224 ?_
 conv=>arg 2;cbv
 refine zD rfl ?_;simp only [pwA,seval,-iQ0];refine zBD ?_;simp only [pwA,seval,-iQ0];refine iteI (fun hin=>?_) fun hout=>?_
 rotate_left
 ·exact nilG (zB _ _)
 refine Z6 hn fun v1 O t1 hv1 hl1 hp1=>?_
 have h11:=hv1.one;obtain⟨w1,a1,rfl⟩:=hv1;cases t1
 ·simp only [pwA,seval,-iQ0]
  exact nilG (zB _ _)
 simp only [pwA,seval,-iQ0];refine iteI (fun h6=>?_) fun h6=>?_
 ·exact nilG (zB _ _)
 have hO6:O.length≤6:=by omega
 generalize hH:σ.new [PV.fz true AV.nils 0 [],PV.fz true AV.nils 0 [],PV.fz true AV.nils 0 []]=H;have hHn:H.next=σ.next+1:=by rw [←hH];rfl
 have kH:Keep σ H:=by rw [←hH];exact zB _ _
 have ob1:H.obj σ.next=some [PV.fz true AV.nils 0 [],PV.fz true AV.nils 0 [],PV.fz true AV.nils 0 []]:=by rw [←hH];simp only [pwA,seval,-iQ0]
 clear hH;refine zBN ⟨w1,a1,rfl⟩ (by omega) fun L h vO vP vC k4 p4=>?_
 have hn4:=k4.next;have a5:=TB.start (r:=σ.next) p4 (by omega) (by rw [k4.obj _ (by omega)];exact ob1) hn4
 have k5:=k4.new [vO,vP,vC];simp only [pwA,seval,-iQ0,p4.hO.one,p4.hP.one,p4.hC.one];generalize h.next=s at *
 clear p4 k4;generalize hN:O.length=N at *
 refine zF (fun m' vs h=>∃(i:Nat) (L:Nat→Nat),i≤N∧m'=N-i∧vs=[.ptr σ.next 0,.fz w1 a1 N (pis O),.ptr s 0,.int .i64 i]∧Keep H h∧TB H.next h (fun m=>m=N) O L N N (fun j=>N-1-j) σ.next s vO vP vC) N ?_ ?_
 ·exact⟨0,_,Nat.zero_le _,rfl,rfl,k5,a5⟩
 clear a5 k5
 rintro m' vs h ⟨i,L,hi,rfl,rfl,k5,a5⟩
 have hn5:=k5.next;have wi:IntKind.i64.wrap ((i:Int)+1)=((i+1:Nat):Int):=by rw [wrap64 (by omega) (by omega)];omega
 simp only [pwA,seval,-iQ0,wi];refine iteI (fun hlt=>?_) fun hge=>?_
 ·have hlt':((i+1:Nat):Int)<(N:Int):=by omega
  have hiN:i<N:=by omega
  have hiN':(i:Int)<(N:Int):=by omega
  obtain⟨sP,capP,rfl,hbP,hlP,put⟩:=a5.putPx hiN;have nP1:¬sP=h.next:=by omega
  simp only [pwA,seval,-iQ0,a5.r1,wi];refine Qm (by omega) hlt fun cap2 hc2=>?_
  obtain⟨ds,L',w,a6⟩:=put (xs:=unitL N (i+1)) (cp:=cap2) (zb ..) (by rw [zb];exact hc2)
  rw [zb]at w
  have k6:Keep H ((h.new (pis (unitL N (i+1)))).set sP ds):=(k5.new _).set (by omega) _
  have r1:(h.new (pis (unitL N (i+1)))).rd1 s 1=some (.sl sP 0 N capP):=(a5.new _).r1;generalize h.new (pis (unitL N (i+1)))=g at *
  simp only [pwA,seval,-iQ0,r1,hiN,hiN',w,wi];refine⟨_,by omega,i+1,L',by omega,rfl,rfl,k6,a6⟩
 obtain⟨e1,e2,e3⟩:=a5.fin;simp only [pwA,seval,-iQ0,a5.r3,e1,e2];refine e3.fin2 ((kH.trans k5).set (Nat.le_refl _) _) (by omega) fun wO wP wC P C r1 r2=>hk 0 wO wP wC O P C r1 ⟨by omega,fun a h=>(hp1 a h).b1,?_⟩
 rw [hN];exact r2
theorem zEi {g:PHeap} {t:Nat} {xs ds:List PV} (ht:¬t=g.next):(g.new xs).set t ds=(g.set t ds).new xs:=by simp only [pwA,seval,-iQ0,ht]
theorem zEe {g:PHeap} {t i:Nat} {xs ds v:List PV} (h1:(g.new xs).wr t i v=some ((g.new xs).set t ds)) (ht:¬t=g.next):∃g',g.wr t i v=some g'∧g'.new xs=(g.new xs).set t ds:=by
 rw [zEi ht]at h1 ⊢
 simp only [pwA,seval,-iQ0,ht]at h1
 exact Option.map_eq_some_iff.1 h1
theorem zCp {p:Int} (so:So σ s0 vS bs) (hp:2≤p∧p≤7) (hk:∀wO wP wC O P C σ',IsPr wO wP wC O P C→Fm 18 O P C→Mv σ s0 σ'→So σ' s0 vS bs→K (.agg [wO,wP,wC]) σ'):zA Tryz.prog 226 [.ptr s0 0,.int .i64 p] σ K:=by
 have hlt:=so.lt;refine zA.gh ?_;refine zC mix Tryz.func226 ?_
 conv=>arg 2;cbv
 refine zD rfl ?_;simp only [pwA,seval,-iQ0];generalize hH:σ.new [PV.fz true AV.nils 0 [],PV.fz true AV.nils 0 [],PV.fz true AV.nils 0 []]=H;have hHn:H.next=σ.next+1:=by rw [←hH];rfl
 have kH:Keep σ H:=by rw [←hH];exact zB _ _
 have ob1:H.obj σ.next=some [PV.fz true AV.nils 0 [],PV.fz true AV.nils 0 [],PV.fz true AV.nils 0 []]:=by rw [←hH];simp only [pwA,seval,-iQ0]
 clear hH;rw [←hHn];obtain⟨O,hO⟩:∃O,O=[p,p,p]:=⟨_,rfl⟩
 have hO3:O.length=3:=by rw [hO];rfl
 have ob:∀a∈O,1≤a∧a≤1000:=fun a h=>by
  rw [hO]at h
  simp only [List.mem_cons,List.not_mem_nil,or_false,or_self]at h
  omega
 have tr:∀{g:PHeap} {K':PV→PHeap→Prop},g.obj H.next=some (pis O)→H.next<g.next→(∀L h vO vP vC,Keep g h→PW L g.next h (fun m=>m=3) O 3 3 (fun j=>3-1-j) vO vP vC→K' (.agg [vO,vP,vC]) h)→zA Tryz.prog 203 [.sl H.next 0 3 (.known 3)] g K':=fun {g K'} h1 h2 h3=>by
  have:=qX (cap:=.known 3) h1 h2 (by omega) (K:=K') (by rw [hO3];exact h3)
  rw [hO3]at this;exact this
 refine tr (by rw [zG,if_pos rfl,hO];rfl) (Nat.lt_succ_self _) fun L h vO vP vC k4 p4=>?_
 clear tr;have hn4:H.next+1≤h.next:=k4.next;have kH4:Keep H h:=(zB H _).trans k4;have a5:=TB.start (r:=σ.next) p4 (by show σ.next<H.next+1;omega) (by rw [kH4.obj _ (by omega)];exact ob1) k4.next
 have km5:KM σ s0 (h.new [vO,vP,vC]):=so.kmK ((kH.trans kH4).new _);have so5:So (h.new [vO,vP,vC]) s0 vS bs:=so.keep ((kH.trans kH4).new _);generalize hb:(H.new [PV.int IntKind.i64 p,PV.int IntKind.i64 p,PV.int IntKind.i64 p]).next=b at *
 have hbH:b=H.next+1:=hb.symm;simp only [pwA,seval,-iQ0,p4.hO.one,p4.hP.one,p4.hC.one];clear hb p4 kH4;have hsn:h.next<(h.new [vO,vP,vC]).next:=Nat.lt_succ_self _;generalize h.new [vO,vP,vC]=g at *
 generalize h.next=s at *
 clear k4;have fin:∀{g:PHeap} {L':Nat→Nat},KM σ s0 g→So g s0 vS bs→TB b g (fun m=>m=3) O L' 3 3 (fun i=>3-1-i) σ.next s vO vP vC→
   g.wr σ.next 0 [vO,vP,vC]=some (g.set σ.next [vO,vP,vC])∧(g.set σ.next [vO,vP,vC]).rd σ.next 0 3=some [vO,vP,vC]∧Gh σ K (.agg [vO,vP,vC]) (g.set σ.next [vO,vP,vC]):=fun {g L'} km so' a=>by
  obtain⟨e1,e2,e3⟩:=a.fin;refine⟨e1,e2,e3.finKM (km.set (by omega) _) (so'.set (by omega) _) hlt (by omega) fun wO wP wC P C σ' x1 x2 x3 x4=>hk wO wP wC O P C σ' x1 ⟨by omega,ob,?_⟩ x3 x4⟩
  rw [hO3];exact x2
 obtain⟨sC,capC,u,capu,rfl,q7,hbC,hlC,hbu,hlu,put⟩:=a5.putCx (i:=0) (j:=0) (by decide) (by decide)
 obtain⟨ds,L',rC,w,a6⟩:=put (xs:=[0,1,1]) (cp:=.known 3) rfl (.inr rfl);have nu1:¬u=g.next:=by omega
 have km6:KM σ s0 ((g.new (pis [0,1,1])).set u ds):=(km5.keep (zB _ _)).set (by omega) _
 have so6:So ((g.new (pis [0,1,1])).set u ds) s0 vS bs:=(so5.keep (zB _ _)).set (by omega) _
 have e1:∀y:Int,pis [0,y,1]=[PV.int .i64 0,PV.int .i64 y,PV.int .i64 1]:=fun _=>rfl
 have e2:∀y:Int,pis [0,0,y]=[PV.int .i64 0,PV.int .i64 0,PV.int .i64 y]:=fun _=>rfl
 have h03:(0:Int)<((3:Nat):Int):=by decide
 have h13:(1:Int)<((3:Nat):Int):=by decide
 have h02:(0:Int)<((2:Nat):Int):=by decide
 have h02':(0:Int)<((3-1-0:Nat):Int):=by decide
 obtain⟨g',w1,w2⟩:=zEe w nu1;rw [e1]at w2 km6 so6 a6
 generalize (g.new [PV.int .i64 0,PV.int .i64 1,PV.int .i64 1]).set u ds=g6 at *
 have w1:g.wr u 0 [PV.sl g.next 0 3 (.known 3)]=some g':=w1;simp only [pwA,seval,-iQ0,a5.r2,q7,nu1,w1,w2,h03,h02,h02'];have hs0:s0<b:=by omega
 have hr1:s0≠σ.next:=by omega
 refine zO (n:=2) so6 (by decide) fun x1 g7 hx1 m7 so7=>?_
 have a7:=a6.mv hs0 hr1 m7;have km7:=km6.mv hlt m7
 by_cases h0:x1=0
 rotate_left
 ·obtain⟨e1,e2,e3⟩:=fin km7 so7 a7
  simp only [pwA,seval,-iQ0,h0,a7.r3,e1,e2];exact e3
 have step:∀{g:PHeap} {L:Nat→Nat} (i:Nat) (y:Int),i<3→KM σ s0 g→So g s0 vS bs→TB b g (fun m=>m=3) O L 3 3 (fun j=>3-1-j) σ.next s vO vP (.sl sC 0 3 capC)→
   ∃sP capP g' G L',vP=.sl sP 0 3 capP∧¬sP=g.next∧g.rd1 s 1=some (.sl sP 0 3 capP)∧(g.new [PV.int .i64 0,PV.int .i64 0,PV.int .i64 y]).rd1 s 1=some (.sl sP 0 3 capP)∧g.wr sP i [.sl g.next 0 3 (.known 3)]=some g'∧g'.new [PV.int .i64 0,PV.int .i64 0,PV.int .i64 y]=G∧
    KM σ s0 G∧So G s0 vS bs∧TB b G (fun m=>m=3) O L' 3 3 (fun j=>3-1-j) σ.next s vO vP (.sl sC 0 3 capC):=fun {g L} i y hi km so a=>by
  obtain⟨sP,capP,e,hbP,hlP,put⟩:=a.putPx (i:=i) hi;obtain⟨ds,L',w,a9⟩:=put (xs:=[0,0,y]) (cp:=.known 3) rfl (.inr rfl);obtain⟨g',w1,w2⟩:=zEe w (by omega)
  have r:=(a.new [PV.int .i64 0,PV.int .i64 0,PV.int .i64 y]).r1;have r':=a.r1;rw [e]at r r'
  exact⟨sP,capP,g',_,L',e,by omega,r',r,w1,w2,(km.keep (zB _ _)).set (by omega) _,(so.keep (zB _ _)).set (by omega) _,a9⟩
 simp only [pwA,seval,-iQ0,h0,a7.r1];refine zO (n:=p) so7 (by omega) fun y1 g8 hy1 m8 so8=>?_
 have a8:=a7.mv hs0 hr1 m8;obtain⟨sP,capP,g9,G,L9,rfl,n8,r8,r8',w8,e8,km9,so9,a9⟩:=step 0 y1 (by decide) (km7.mv hlt m8) so8 a8
 simp only [pwA,seval,-iQ0,r8,r8',n8,w8,e8,h03,a9.r1];refine zO (n:=p) so9 (by omega) fun y2 g10 hy2 m10 so10=>?_
 have a10:=a9.mv hs0 hr1 m10;obtain⟨sP',capP',g11,G2,L11,e',n10,r10,r10',w10,e10,km11,so11,a11⟩:=step 1 y2 (by decide) (km9.mv hlt m10) so10 a10
 simp only [PV.sl.injEq]at e'
 obtain⟨rfl,-,-,rfl⟩:=e';obtain⟨e1,e2,e3⟩:=fin km11 so11 a11;simp only [pwA,seval,-iQ0,r10,r10',n10,w10,e10,h13,a11.r3,e1,e2];exact e3
end Go.Proofs
namespace Go.Grp
end Go.Grp
namespace Go.Proofs
open Go.Ab Go.Lie Go.Grp Go.Mx
variable {σ:PHeap} {K:PV→PHeap→Prop} {p:Int} {n na:Nat} {v w xs ys:List Int} {A B M:List (List Int)} {vA vB vM vv v0:PV}
theorem zLX {α:Type} {a b:List α} {i:Nat} (hl:a.length=b.length) (hi:i<a.length):(a.take i++b.drop i).set i a[i]=a.take (i+1)++b.drop (i+1):=by
 have h1:(a.take i).length=i:=by rw [List.length_take];omega
 rw [List.set_append_right _ _ (by omega),h1,Nat.sub_self,List.drop_eq_getElem_cons (by omega:i<b.length),List.set_cons_zero,List.take_succ_eq_append_getElem hi,List.append_assoc]
 rfl
theorem zLY {α:Type} {a b:List α} {i:Nat} (hl:a.length=b.length) (hi:i<b.length):(a.take i++b.drop i)[i]? = some b[i]:=by
 have h1:(a.take i).length=i:=by rw [List.length_take];omega
 rw [List.getElem?_append_right (by omega),h1,List.getElem?_drop,Nat.sub_self,Nat.add_zero,List.getElem?_eq_getElem hi]
theorem zH4 {x:Int} {r out:List Int} (h:r.length=out.length) {j:Nat} (hj:j<out.length):(vstep p x r out)[j]'(by rw [Zy h];exact hj)=(out[j] + x*r[j]) % p:=by
 simp [vstep]
theorem sm6 {a b:Int} (ha:0≤a∧a≤6) (hb:0≤b∧b≤6):0≤a*b∧a*b≤36:=by
 have h1:=Int.mul_nonneg ha.1 hb.1;have h2:=Int.mul_le_mul ha.2 hb.2 hb.1 (by decide)
 omega
theorem zLD {i:Nat} (hi:i<A.length):(mm p n A B).take (i+1)=(mm p n A B).take i++[vt p n A[i] B]:=by
 rw [List.take_succ_eq_append_getElem (by rw [zAL];exact hi)]
 simp [mm]
theorem zGU (hp:2≤p∧p≤7) (hA:Ma p n A) (hv:Ve p A.length v) (hn:n≤8) (hal:A.length≤8) (hvA:FII vA A) (hvv:FI vv v) (hk:∀z,FI z (vt p n v A)→K z σ):
  zA Tryz.prog 243 [.int .i64 p,vv,vA,.int .i64 n] σ K:=by
 have h1:=hvA.one;have hvl:=hv.len;obtain⟨wv,av,rfl⟩:=hvv;obtain⟨wA,aA,rA,rfl,hrA⟩:=hvA;have hl:=(vt_ve (by omega:0<p) hA hv.len).len
 refine zA.gh ?_;refine zN mix Tryz.func243 cf243 rfl ?_;dsimp only [if243,eI,qD,mI0,kI0,bI0,cI0,sI0,mD0,lD0,xD0,G0,gm0,aI0,zI0,wD0,R0,S0];simp only [pwA,seval,-iQ0,List.length_replicate,zf,mk8 (n:=n) (by omega),mkL (n:=n) (by omega)]
 refine zF (fun m vs h'=>∃i:Nat,i≤v.length∧m=v.length-i∧vs=[.int .i64 p,.fz wv av v.length (pis v),.fz wA aA A.length rA,.sl σ.next 0 n (.known n),.int .i64 i]∧h'=σ.new (pis (vmul p n v A i))) v.length ?_ ?_
 ·exact⟨0,by omega,by omega,rfl,rfl⟩
 rintro m vs h' ⟨i,hi,rfl,rfl,rfl⟩
 by_cases hlt:i<v.length
 rotate_left
 ·have hie:i=v.length:=by omega
  subst hie;simp only [pwA,seval,-iQ0,Nat.lt_irrefl];exact Gh.finF (s:=σ.next) (zB σ _) (by simp only [pwA,seval,-iQ0];rfl) (Nat.le_refl _) (zM _ _) (show capOK (.known n) n=true by simp [capOK]) fun o=>hk _ ⟨true,.sl o 0 n (.known n),by rw [hl]⟩
 have hiA:i<A.length:=by omega
 obtain⟨w4,a4,hr⟩:=hrA.rowI hiA;have hrow:=hA.row hiA;rw [row_eq hiA]at hrow
 have hrl:=hrow.len;have hml:=ZV (v:=v) hA (i:=i) (by omega)
 have hve:=zGg (v:=v) (by omega:0<p) hA (i:=i) (by omega)
 have bx:=hv.bd i;rw [at_eq hlt]at bx
 have hvs:vmul p n v A (i+1)=vstep p v[i] A[i] (vmul p n v A i):=by rw [vmul,at_eq hlt,row_eq hiA]
 generalize hacc:vmul p n v A i=acc at *
 have hvsl:(vstep p v[i] A[i] acc).length=acc.length:=Zy (by omega)
 simp only [pwA,seval,-iQ0,hlt,hiA];refine zF (fun m vs h'=>∃j:Nat,j≤n∧m=n-j∧vs=[.int .i64 p,.fz wv av v.length (pis v),.fz wA aA A.length rA,.sl σ.next 0 n (.known n),.int .i64 i,.int .i64 j]∧h'=σ.new (pis ((vstep p v[i] A[i] acc).take j++acc.drop j))) n ?_ ?_
 ·exact⟨0,by omega,by omega,rfl,by rw [List.take_zero,List.drop_zero,List.nil_append]⟩
 rintro m vs h' ⟨j,hj,rfl,rfl,rfl⟩
 by_cases hjn:j<n
 rotate_left
 ·have hje:j=n:=by omega
  subst hje;simp only [pwA,seval,-iQ0,Nat.lt_irrefl,wrapS hlt (by omega:v.length≤4611686018427387904)]
  refine⟨_,by omega,i+1,by omega,rfl,rfl,?_⟩
  rw [List.drop_of_length_le (by omega),List.append_nil,List.take_of_length_le (by omega),hvs]
 have hjr:j<A[i].length:=by omega
 have hja:j<acc.length:=by omega
 have c1:=hrow.bd j;have c2:=hve.bd j;rw [at_eq hjr]at c1
 rw [at_eq hja]at c2
 have c3:=sm6 (a:=v[i]) (b:=A[i][j]) (by omega) (by omega)
 have e1:=zLY hvsl hja;have hlen:j+1≤((vstep p v[i] A[i] acc).take j++acc.drop j).length:=by simp;omega
 have ew1:IntKind.i64.wrap (v[i] * A[i][j])=v[i] * A[i][j]:=wrap64 (by omega) (by omega)
 have ew2:IntKind.i64.wrap (acc[j] + v[i] * A[i][j])=acc[j] + v[i] * A[i][j]:=wrap64 (by omega) (by omega)
 have hp0:¬p=0:=by omega
 have et:(acc[j] + v[i] * A[i][j]).tmod p=(acc[j] + v[i] * A[i][j]) % p:=Int.tmod_eq_emod_of_nonneg (by omega)
 have hem:=Int.emod_nonneg (acc[j] + v[i] * A[i][j]) hp0;have hem2:=Int.emod_lt_of_pos (acc[j] + v[i] * A[i][j]) (by omega:0<p)
 have ew3:IntKind.i64.wrap ((acc[j] + v[i] * A[i][j]) % p)=(acc[j] + v[i] * A[i][j]) % p:=wrap64 (by omega) (by omega)
 simp only [pwA,seval,-iQ0,hjn,hiA,hr,hjr,hlt,zL,zK,gi hlt,gi hjr,e1,hlen,ew1,ew2,hp0,et,ew3,wrapS hjn (by omega:n≤4611686018427387904)]
 refine⟨_,by omega,j+1,by omega,rfl,rfl,?_⟩
 rw [zh (by simp;omega)]
 have hjv:j<(vstep p v[i] A[i] acc).length:=by omega
 rw [←zLX hvsl hjv,zH4 (by omega) hja]
theorem zEV (hp:2≤p∧p≤7) (hA:Ma p B.length A) (hB:Ma p n B) (hn:n≤8) (hbl:B.length≤8) (hal:A.length≤8) (hvA:FII vA A) (hvB:FII vB B) (hk:∀v,FII v (mm p n A B)→K v σ):
  zA Tryz.prog 239 [.int .i64 p,vA,vB,.int .i64 n] σ K:=by
 have h1:=hvA.one;have h2:=hvB.one;have hvBB:=hvB;obtain⟨wA,aA,rA,rfl,hrA⟩:=hvA;refine zA.gh ?_;refine zC mix Tryz.func239 ?_
 conv=>arg 2;cbv
 refine zD rfl ?_;simp only [pwA,seval,-iQ0];refine zF (fun m vs h'=>∃(i:Nat) (vC:PV) (rows:List PV),i≤A.length∧m=A.length-i∧vs=[.int .i64 p,.fz wA aA A.length rA,vB,.int .i64 n,vC,.int .i64 i]∧Keep σ h'∧PSl σ.next 1 h' vC i rows∧All2 FI rows ((mm p n A B).take i)) A.length ?_ ?_
 ·exact⟨0,_,[],by omega,by omega,rfl,zB σ _,PSl.new _ 1 rfl (Nat.le_refl _),by rw [List.take_zero];exact All2.nil _⟩
 rintro m vs h' ⟨i,vC,rows,hi,rfl,rfl,hkp,ha,hall⟩
 simp only [pwA,seval,-iQ0];refine iteI (fun hlt=>?_) fun hge=>?_
 rotate_left
 ·have hie:i=A.length:=by omega
  subst hie;rw [List.take_of_length_le (by rw [zAL];exact Nat.le_refl _)]at hall
  exact ha.fin hkp (hall.bI 0) fun o cap=>hk _ ⟨true,_,rows,by rw [zAL],hall⟩
 obtain⟨w4,a4,hr⟩:=hrA.rowI hlt;have hrow:=hA _ (List.getElem_mem hlt);simp only [pwA,seval,-iQ0,hlt,hr];refine zGU hp hB hrow hn hbl hvBB ⟨w4,a4,rfl⟩ fun z hz=>?_
 have hzz:=hz;obtain⟨wz,az,rfl⟩:=hz;simp only [pwA,seval,-iQ0];refine PSl.push (bytes:=24) hkp ha (by omega) (by omega) fun v' h2 k2 a2=>?_
 simp only [pwA,seval,-iQ0,wrapS hlt (by omega:A.length≤4611686018427387904)]
 refine⟨_,by omega,i+1,v',_,by omega,rfl,rfl,k2,a2,?_⟩
 rw [zLD hlt];exact hall.snoc hzz
end Go.Proofs
namespace Go.Grp
end Go.Grp
namespace Go.Proofs
open Go.Ab Go.Lie Go.Grp Go.Mx
variable {σ σ0 h h':PHeap} {K:PV→PHeap→Prop} {b s t k nP nC r s0 i j:Nat} {L L':Nat→Nat} {Q Q':Nat→Prop} {len:Nat→Nat} {v vO vP vC c vX vS vL vM:PV} {x O xs bs:List Int} {P M:List (List Int)} {C:List (List (List Int))} {cs:List PV}
theorem ZE {p m:Int} (hp:2≤p∧p≤7) (hm:1≤m∧m≤1000) (hM:MatX σ vM M) (hMa:Ma p M.length M) (hl:1≤M.length∧M.length≤8)
  (hk:∀wO wP wC O P C,IsPr wO wP wC O P C→Fm 18 O P C→K (.agg [wO,wP,wC]) σ):zA Tryz.prog 227 [.int .i64 p,vM,.int .i64 m] σ K:=by
 refine zA.gh ?_;refine zN mix Tryz.func227 cf227 rfl ?_;dsimp only [if227,eI,qD,eD,mI0,kI0,lI0,LI0,xI0,bI0,cI0,sI0,eI0,C1,mD0,lD0,fD0,xD0,I0,vI0,wD0,R0,S0];simp only [pwA,seval,-iQ0,hM.one];refine Z6 hm fun v1 x1 t1 hv1 hl1 hp1=>?_
 have h11:=hv1.one;simp only [pwA,seval,-iQ0,hM.one];obtain⟨w1,a1,rfl⟩:=hv1;refine zq rfl (by omega) fun cap1 hc1=>?_
 generalize hH:σ.new [PV.fz true AV.nils 0 [],PV.fz true AV.nils 0 [],PV.fz true AV.nils 0 []]=H;have hHn:H.next=σ.next+1:=by rw [←hH];rfl
 have kH:Keep σ H:=by rw [←hH];exact zB _ _
 have ob1:H.obj σ.next=some [PV.fz true AV.nils 0 [],PV.fz true AV.nils 0 [],PV.fz true AV.nils 0 []]:=by rw [←hH];simp only [pwA,seval,-iQ0]
 clear hH;simp only [pwA,seval,-iQ0,hM.one];have hMH:=hM.keep kH;obtain⟨n,hn⟩:∃n,n=M.length:=⟨_,rfl⟩
 have hlen:=hM.pLen;have hone:=hM.one;have wn:∀{i:Nat},i<n→IntKind.i64.wrap ((i:Int)+1)=((i+1:Nat):Int):=fun {i} hi=>by rw [wrap64 (by omega) (by omega)];omega
 rw [←hn]at hlen hl
 refine zF (fun m' vs h=>∃(i:Nat) (v:PV),i≤n∧m'=n-i∧vs=[.int .i64 p,vM,.ptr σ.next 0,.fz w1 a1 x1.length (pis x1),v,.int .i64 i]∧Keep H h∧PSl H.next 1 h v (x1.length+i) (pis (x1++List.replicate i p))) n ?_ ?_
 ·refine⟨0,.sl H.next 0 x1.length cap1,Nat.zero_le _,rfl,rfl,zB H _,?_⟩
  have:=PSl.own (b:=H.next) (h:=H.new (pis x1)) (s:=H.next) (n:=x1.length) (e:=1) (cs:=pis x1) hc1 (by rw [zG,if_pos rfl]) (by rw [zK,Nat.mul_one]) (Nat.le_refl _) (Nat.lt_succ_self _)
  simpa using this
 rintro m' vs h ⟨i,v,hi,rfl,rfl,k3,a3⟩
 simp only [pwA,seval,-iQ0,hlen,hone];refine iteI (fun hlt=>?_) fun hge=>?_
 ·have hlt':(i:Int)<(n:Int):=by omega
  refine PSl.push (σb:=H) (bytes:=8) k3 a3 (by omega) (by omega) fun v2 h2 k2 a2=>?_
  simp only [pwA,seval,-iQ0,wn hlt,hone];refine⟨_,by omega,i+1,v2,by omega,rfl,rfl,k2,?_⟩
  have e:pis (x1++List.replicate (i+1) p)=pis (x1++List.replicate i p)++[.int .i64 p]:=by rw [List.replicate_succ',←List.append_assoc];simp [pis]
  rw [e];exact a2
 have hin:i=n:=by omega
 subst hin;generalize hnn:i=n at *
 obtain⟨O,hO⟩:∃O,O=x1++List.replicate n p:=⟨_,rfl⟩
 rw [←hO]at a3
 have hOl:O.length=x1.length+n:=by rw [hO,List.length_append,List.length_replicate]
 have hOb:∀a∈O,1≤a∧a≤1000:=fun a h=>by
  rw [hO]at h
  rcases List.mem_append.1 h with h|h
  ·exact(hp1 a h).b1
  ·rw [(List.mem_replicate.1 h).2];omega
 clear hO;rw [←hOl]at a3
 obtain⟨so,capO,rfl,q1,q2,q3,q4,q5⟩:=a3;have hn3:=k3.next;generalize h=h3 at *
 have hM3:=hMH.keep k3;simp only [pwA,seval,-iQ0];refine qX q2 q5 (by omega) fun L h vO vP vC k4 p4=>?_
 have hn4:=k4.next;have a5:=TB.start (r:=σ.next) p4 (by omega) (by rw [k4.obj _ (by omega),k3.obj _ (by omega)];exact ob1) hn4
 have k5:=k4.new [vO,vP,vC];simp only [pwA,seval,-iQ0,p4.hO.one,p4.hP.one,p4.hC.one];generalize h.next=s at *
 clear p4 k4;generalize hN:O.length=N at *
 refine zF (fun m' vs h=>∃(i:Nat) (L:Nat→Nat),i≤x1.length∧m'=x1.length-i∧vs=[.int .i64 p,vM,.ptr σ.next 0,.fz w1 a1 x1.length (pis x1),.sl so 0 N capO,.ptr s 0,.int .i64 x1.length,.int .i64 i]∧Keep h3 h∧TB h3.next h (fun m=>m=N) O L N N (fun j=>N-1-j) σ.next s vO vP vC) x1.length ?_ ?_
 ·exact⟨0,_,Nat.zero_le _,rfl,rfl,k5,a5⟩
 clear a5 k5
 rintro m' vs h ⟨i,L,hi,rfl,rfl,k5,a5⟩
 have hn5:=k5.next;have wi:IntKind.i64.wrap ((i:Int)+1)=((i+1:Nat):Int):=by rw [wrap64 (by omega) (by omega)];omega
 simp only [pwA,seval,-iQ0,wi,hone];refine iteI (fun hlt=>?_) fun hge=>?_
 ·have hiN:i<N:=by omega
  have hiN':(i:Int)<(N:Int):=by omega
  obtain⟨sP,capP,rfl,hbP,hlP,put⟩:=a5.putPx hiN;have nP1:¬sP=h.next:=by omega
  simp only [pwA,seval,-iQ0,a5.r1,wi];refine Qm (by omega) (by omega) fun cap2 hc2=>?_
  obtain⟨ds,L',w,a6⟩:=put (xs:=unitL N (i+1)) (cp:=cap2) (zb ..) (by rw [zb];exact hc2)
  rw [zb]at w
  have k6:Keep h3 ((h.new (pis (unitL N (i+1)))).set sP ds):=(k5.new _).set (by omega) _
  have r1:(h.new (pis (unitL N (i+1)))).rd1 s 1=some (.sl sP 0 N capP):=(a5.new _).r1;generalize h.new (pis (unitL N (i+1)))=g at *
  simp only [pwA,seval,-iQ0,r1,hiN,hiN',w,wi,hone];refine⟨_,by omega,i+1,L',by omega,rfl,rfl,k6,a6⟩
 clear wi hge hi;have fin:∀{g:PHeap} {L:Nat→Nat},Keep h3 g→TB h3.next g (fun m=>m=N) O L N N (fun j=>N-1-j) σ.next s vO vP vC→
   g.wr σ.next 0 [vO,vP,vC]=some (g.set σ.next [vO,vP,vC])∧(g.set σ.next [vO,vP,vC]).rd σ.next 0 3=some [vO,vP,vC]∧Gh σ K (.agg [vO,vP,vC]) (g.set σ.next [vO,vP,vC]):=fun {g L} kg a=>by
  obtain⟨e1,e2,e3⟩:=a.fin;refine⟨e1,e2,e3.fin (((kH.trans k3).trans kg).set (Nat.le_refl _) _) (by omega) fun wO wP wC P C r1 r2=>hk wO wP wC O P C r1 ⟨by omega,hOb,?_⟩⟩
  rw [hN];exact r2
 refine zI9 (hM3.keep k5) (by omega) (fun r hr=>by have:=(hMa r hr).len;omega) fun wI hI=>?_
 simp only [pwA,seval,-iQ0,hone];refine zF (fun m' vs h=>∃(i:Nat) (wI:PV) (A:List (List Int)) (L:Nat→Nat),i≤x1.length∧m'=x1.length-i∧vs=[.int .i64 p,vM,.ptr σ.next 0,.fz w1 a1 x1.length (pis x1),.ptr s 0,.int .i64 x1.length,wI,.int .i64 i]∧FII wI A∧Ma p n A∧A.length=n∧Keep h3 h∧TB h3.next h (fun m=>m=N) O L N N (fun j=>N-1-j) σ.next s vO vP vC) x1.length ?_ ?_
 ·exact⟨0,wI,M,L,Nat.zero_le _,rfl,rfl,hI,by rw [hn];exact hMa,hn.symm,k5,a5⟩
 clear k5 a5 hn5 hI
 rintro m' vs h ⟨i,wI,A,L,hi,rfl,rfl,hI,hA,hAl,k5,a5⟩
 have hn5:=k5.next;simp only [pwA,seval,-iQ0,hone,hI.one];refine iteI (fun hlt=>?_) fun hge=>?_
 rotate_left
 ·obtain⟨e1,e2,e3⟩:=fin k5 a5
  simp only [pwA,seval,-iQ0,a5.r3,e1,e2];exact e3
 refine zF (fun m' vs h=>∃(j:Nat) (L:Nat→Nat),j≤n∧m'=n-j∧vs=[.int .i64 p,vM,.ptr σ.next 0,.fz w1 a1 x1.length (pis x1),.ptr s 0,.int .i64 x1.length,wI,.int .i64 i,.int .i64 j]∧Keep h3 h∧TB h3.next h (fun m=>m=N) O L N N (fun j=>N-1-j) σ.next s vO vP vC) n ?_ ?_
 ·exact⟨0,L,Nat.zero_le _,rfl,rfl,k5,a5⟩
 clear k5 a5 hn5
 rintro m' vs h ⟨j,L,hj,rfl,rfl,k5,a5⟩
 have hn5:=k5.next;have hiN:i<N:=by omega
 have hiN':(i:Int)<(N:Int):=by omega
 have hix:(i:Int)<(x1.length:Int):=by omega
 simp only [pwA,seval,-iQ0,hlen,hone,hI.one];refine iteI (fun hlt2=>?_) fun hge=>?_
 rotate_left
 ·have xi:=(hp1 _ (List.getElem_mem hlt)).b1
  have gx:(pis x1)[i]? = some (.int .i64 x1[i]):=by rw [zL,gi hlt];rfl
  have wxi:IntKind.i64.wrap ((i:Int)+1)=((i+1:Nat):Int):=by rw [wrap64 (by omega) (by omega)];omega
  refine zF (fun m' vs h'=>∃(k:Nat) (wB:PV) (B:List (List Int)),1≤k∧k≤1000∧m'=1000-k∧vs=[.int .i64 p,vM,.ptr σ.next 0,.fz w1 a1 x1.length (pis x1),.ptr s 0,.int .i64 x1.length,wB,.int .i64 i,wI,.int .i64 k]∧FII wB B∧Ma p n B∧B.length=n∧h'=h) 999 ?_ ?_
  ·exact⟨1,wI,A,Nat.le_refl _,by decide,by decide,rfl,hI,hA,hAl,rfl⟩
  rintro m' vs h' ⟨k,wB,B,hk1,hk2,rfl,rfl,hB,hBm,hBl,rfl⟩
  simp only [pwA,seval,-iQ0,hlt,hix,gx,hone,hI.one,hB.one];refine iteI (fun hlk=>?_) fun hge2=>?_
  rotate_left
  ·simp only [pwA,seval,-iQ0,wxi,hB.one,hone]
   exact⟨_,by omega,i+1,wB,B,L,by omega,rfl,rfl,hB,hBm,hBl,k5,a5⟩
  have wk:IntKind.i64.wrap ((k:Int)+1)=((k+1:Nat):Int):=by rw [wrap64 (by omega) (by omega)];omega
  simp only [pwA,seval,-iQ0,hlen];refine zEV hp (A:=B) (B:=A) (n:=n) (by rw [hAl];exact hBm) hA (by omega) (by omega) (by omega) hB hI fun z hz=>?_
  have hz1:=hz.one;simp only [pwA,seval,-iQ0,hz1,wk,hone,hI.one];exact⟨_,by omega,k+1,z,mm p n B A,by omega,by omega,rfl,rfl,hz,mm_ma (by omega) (by rw [hAl];exact hBm) hA,by rw [zAL];exact hBl⟩
 have hji:x1.length+j-i-1<N-1-i:=by omega
 have hji':((x1.length+j-i-1:Nat):Int)<((N-1-i:Nat):Int):=by omega
 have hjA:j<A.length:=by omega
 have hjA':(j:Int)<(A.length:Int):=by omega
 have wj0:IntKind.i64.wrap ((x1.length:Int)+(j:Int))=(x1.length:Int)+(j:Int):=wrap64 (by omega) (by omega)
 have wj:IntKind.i64.wrap ((x1.length:Int)+(j:Int)-(i:Int))=(x1.length:Int)+(j:Int)-(i:Int):=wrap64 (by omega) (by omega)
 have wj1:IntKind.i64.wrap ((x1.length:Int)+(j:Int)-(i:Int)-1)=((x1.length+j-i-1:Nat):Int):=by rw [wrap64 (by omega) (by omega)];omega
 obtain⟨sC,capC,u,capu,rfl,q7,hbC,hlC,hbu,hlu,put⟩:=a5.putCx hiN hji;have nC1:¬sC=h.next:=by omega
 have nu1:¬u=h.next:=by omega
 obtain⟨wA,aA,rA,rfl,hrA⟩:=hI;obtain⟨w4,a4,hr⟩:=hrA.rowI hjA;have hrow:=(hA _ (List.getElem_mem hjA)).len;simp only [pwA,seval,-iQ0,a5.r2,q7,hiN,hiN',wj0,wj,wj1,hjA,hjA',hr];refine Zr (before:=x1.length) (behind:=0) ⟨w4,a4,rfl⟩ (by omega) (by omega) (by omega) fun cap2 ys hys hc2=>?_
 have hys':ys.length=N:=by omega
 obtain⟨ds,L',rC,w,a6⟩:=put (xs:=ys) (cp:=cap2) hys' hc2;have r2:(h.new (pis ys)).rd1 s 2=some (.sl sC 0 N capC):=(a5.new _).r2;have k6:Keep h3 ((h.new (pis ys)).set u ds):=(k5.new _).set (by omega) _
 generalize h.new (pis ys)=g at *
 simp only [pwA,seval,-iQ0,r2,rC,hiN,hiN',hji,hji',w,wj0,wj,wj1,wn hlt2,hone];exact⟨_,by omega,j+1,L',by omega,rfl,rfl,k6,a6⟩
end Go.Proofs
namespace Go.Grp
end Go.Grp
namespace Go.Proofs
open Go.Ab Go.Lie Go.Grp
variable {σ σ0 h h':PHeap} {K:PV→PHeap→Prop} {b s t k nP nC r s0 i j:Nat} {L L':Nat→Nat} {Q Q':Nat→Prop} {len:Nat→Nat} {v vO vP vC yO yP yC c vX vS vL vM:PV} {x O xs bs O1 O2:List Int} {P M P1 P2:List (List Int)} {C C1 C2:List (List (List Int))} {cs:List PV}
theorem RowX.mark {b':Nat} (a:RowX L h b k x v) (hb:b'≤b) (hL:∀t,b≤t→L' t=L t):RowX L' h b' k x v:=by
 obtain⟨s,cap,rfl,h1,h2,h3,h4,h5⟩:=a;exact⟨s,cap,rfl,h1,h2,by omega,h4,by rw [hL s h3];exact h5⟩
theorem RowAt.mark {b':Nat} (a:RowAt L h b Q v) (hb:b'≤b) (hL:∀t,b≤t→L' t=L t):RowAt L' h b' Q v:=by
 obtain⟨x,q,a⟩:=a;exact⟨x,q,a.mark hb hL⟩
theorem MatAt.mark {b' n:Nat} (a:MatAt L h b Q k n v) (hb:b'≤b) (hL:∀t,b≤t→L' t=L t):MatAt L' h b' Q k n v:=by
 obtain⟨s,cap,cs,rfl,h1,h2,h3,h4,h5,h6,h7⟩:=a;exact⟨s,cap,cs,rfl,h1,h2,h3,by omega,h5,by rw [hL s h4];exact h6,fun c hc=>(h7 c hc).mark hb hL⟩
theorem TenAt.mark {b' n:Nat} (a:TenAt L h b Q n len v) (hb:b'≤b) (hL:∀t,b≤t→L' t=L t):TenAt L' h b' Q n len v:=by
 obtain⟨s,cap,cs,rfl,h1,h2,h3,h4,h5,h6,h7⟩:=a;exact⟨s,cap,cs,rfl,h1,h2,h3,by omega,h5,by rw [hL s h4];exact h6,fun i c hc=>(h7 i c hc).mark hb hL⟩
theorem PW.mark {b':Nat} (a:PW L b h Q O nP nC len vO vP vC) (hb:b'≤b) (hL:∀t,b≤t→L' t=L t):PW L' b' h Q O nP nC len vO vP vC:=
 ⟨a.hO.mark hb hL,a.hP.imp id fun a=>a.mark hb hL,a.hC.imp id fun a=>a.mark hb hL⟩
theorem TB.startAt {b':Nat} (a:PW L b h Q O nP nC len vO vP vC) (hs:s<b) (hs':b'≤s) (hb:b≤h.next) (hr:r<b') (hres:h.obj r=some [.fz true .nils 0 [],.fz true .nils 0 [],.fz true .nils 0 []]):TB b' (h.set s [vO,vP,vC]) Q O (mkM L s 7) nP nC len r s vO vP vC:=
 ⟨by rw [zI,if_neg (by omega)];exact hres,hr,by rw [zI,if_pos rfl],(a.set hs _).mark (by omega) fun t ht=>by unfold mkM;rw [if_neg (by omega)],ZT,⟨hs',by show s<h.next;omega⟩⟩
theorem zHe (hR1:IsPr vO vP vC O1 P1 C1) (h1:Fm 18 O1 P1 C1) (hR2:IsPr yO yP yC O2 P2 C2) (h2:Fm 18 O2 P2 C2)
  (hk:∀wO wP wC O P C,IsPr wO wP wC O P C→Fm 36 O P C→K (.agg [wO,wP,wC]) σ):zA Tryz.prog 202 [.agg [vO,vP,vC],.agg [yO,yP,yC]] σ K:=by
 refine zA.gh ?_;have o1:=hR1.O.one;have o2:=hR2.O.one;have p1:=hR1.P.one;have p2:=hR2.P.one;have c1:=hR1.C.one;have c2:=hR2.C.one;obtain⟨⟨w1,a1,rfl⟩,hP1,hC1⟩:=hR1;obtain⟨⟨w2,a2,rfl⟩,hP2,hC2⟩:=hR2;have n1:=h1.n;have n2:=h2.n;refine zN mix Tryz.func202 cf202 rfl ?_;dsimp only [if202,eI,qD,eD,mI0,kI0,lI0,LI0,fI0,xI0,bI0,cI0,sI0,mD0,lD0,fD0,xD0,I0,vI0,wD0,R0,S0];simp only [pwA,seval,-iQ0,o1,o2,p1,p2,c1,c2];generalize hH3:((σ.new [PV.fz w1 a1 O1.length (pis O1),vP,vC]).new [PV.fz w2 a2 O2.length (pis O2),yP,yC]).new [PV.fz true AV.nils 0 [],PV.fz true AV.nils 0 [],PV.fz true AV.nils 0 []]=H3;have hH3n:H3.next=σ.next+3:=by rw [←hH3];rfl
 have kH3:Keep σ H3:=by rw [←hH3];exact((zB _ _).new _).new _
 have obx:H3.obj σ.next=some [PV.fz w1 a1 O1.length (pis O1),vP,vC]:=by rw [←hH3];simp only [pwA,seval,-iQ0]
 have oby:H3.obj (σ.next+1)=some [PV.fz w2 a2 O2.length (pis O2),yP,yC]:=by rw [←hH3];simp only [pwA,seval,-iQ0]
 have obr:H3.obj (σ.next+2)=some [PV.fz true AV.nils 0 [],PV.fz true AV.nils 0 [],PV.fz true AV.nils 0 []]:=by rw [←hH3];simp only [pwA,seval,-iQ0]
 clear hH3;generalize hH:H3.new [PV.fz true AV.nils 0 [],PV.fz true AV.nils 0 [],PV.fz true AV.nils 0 []]=H;have hHn:H.next=σ.next+4:=by rw [←hH];show H3.next+1=_;omega
 have kH:Keep H3 H:=by rw [←hH];exact zB _ _
 have obs:H.obj (σ.next+3)=some [PV.fz true AV.nils 0 [],PV.fz true AV.nils 0 [],PV.fz true AV.nils 0 []]:=by rw [←hH,zG,if_pos hH3n.symm]
 clear hH;refine zq rfl (by omega) fun cap1 hc1=>?_
 have ry0:(H.new (pis O1)).rd1 (σ.next+1) 0=some (.fz w2 a2 O2.length (pis O2)):=by rw [zH (by rw [zG,if_neg (by omega),kH.obj _ (by omega)];exact oby)];rfl
 have kp0:Keep H (H.new (pis O1)):=zB _ _;have pa0:PSl H.next 1 (H.new (pis O1)) (.sl H.next 0 O1.length cap1) O1.length (pis O1):=PSl.own hc1 (by rw [zG,if_pos rfl]) (by rw [zK,Nat.mul_one]) (Nat.le_refl _) (Nat.lt_succ_self _)
 have hgn:H.next≤(H.new (pis O1)).next:=Nat.le_succ _;generalize H.new (pis O1)=g at *
 simp only [pwA,seval,-iQ0,ry0];refine PSl.cat (σb:=H) (bytes:=8) (m:=O2.length) (news:=pis O2) kp0 pa0 (by rw [zK]) (by omega) (by omega) fun v3 h3 k3 a3=>?_
 rw [Z4,←List.length_append]at a3
 obtain⟨O,hO⟩:∃O,O=O1++O2:=⟨_,rfl⟩
 rw [←hO]at a3
 have hOl:O.length=O1.length+O2.length:=by rw [hO,List.length_append]
 have hOb:∀a∈O,1≤a∧a≤1000:=fun a h=>by
  rw [hO]at h
  rcases List.mem_append.1 h with h|h
  ·exact h1.ob a h
  ·exact h2.ob a h
 clear hO;obtain⟨so,capO,rfl,q1,q2,q3,q4,q5⟩:=a3;have hn3:=k3.next;simp only [pwA,seval,-iQ0];refine qX q2 q5 (by omega) fun L h uO uP uC k4 p4=>?_
 have hn4:=k4.next;have kk4:=k3.trans k4;have ohs:h.obj (σ.next+3)=some [PV.fz true AV.nils 0 [],PV.fz true AV.nils 0 [],PV.fz true AV.nils 0 []]:=by rw [kk4.obj _ (by omega)];exact obs
 have a5:=TB.startAt (b':=σ.next+3) (r:=σ.next+2) (s:=σ.next+3) p4 (by omega) (Nat.le_refl _) hn4 (by omega) (by rw [kk4.obj _ (by omega),kH.obj _ (by omega)];exact obr)
 have k5:Keep H3 (h.set (σ.next+3) [uO,uP,uC]):=(kH.trans kk4).set (by omega) _
 have w5:h.wr (σ.next+3) 0 [uO,uP,uC]=some (h.set (σ.next+3) [uO,uP,uC]):=by rw [zR ohs,if_pos ⟨by simp,by simp [p4.hO.one,p4.hP.one,p4.hC.one]⟩];rfl
 simp only [pwA,seval,-iQ0,p4.hO.one,p4.hP.one,p4.hC.one,w5];generalize h.set (σ.next+3) [uO,uP,uC]=g5 at *
 clear w5 ohs p4 kk4 k4 hn4 pa0 kp0 ry0 hgn k3 q1 q2 q3 q4 q5 hn3;generalize hN:O.length=N at *
 obtain⟨wP1,aP1,rP1,rfl,hrP1⟩:=hP1;obtain⟨wC1,aC1,rC1,rfl,hrC1⟩:=hC1;obtain⟨wP2,aP2,rP2,rfl,hrP2⟩:=hP2;obtain⟨wC2,aC2,rC2,rfl,hrC2⟩:=hC2;have lenP1:=h1.q.pl;have lenP2:=h2.q.pl;have lenC1:=h1.q.cl;have lenC2:=h2.q.cl;have X1:∀{g:PHeap},Keep H3 g→g.rd1 σ.next 1=some (.fz wP1 aP1 P1.length rP1):=fun {g} kg=>by rw [zH (by rw [kg.obj _ (by omega)];exact obx)];rfl
 have X2:∀{g:PHeap},Keep H3 g→g.rd1 σ.next 2=some (.fz wC1 aC1 C1.length rC1):=fun {g} kg=>by rw [zH (by rw [kg.obj _ (by omega)];exact obx)];rfl
 have Y1:∀{g:PHeap},Keep H3 g→g.rd1 (σ.next+1) 1=some (.fz wP2 aP2 P2.length rP2):=fun {g} kg=>by rw [zH (by rw [kg.obj _ (by omega)];exact oby)];rfl
 have Y2:∀{g:PHeap},Keep H3 g→g.rd1 (σ.next+1) 2=some (.fz wC2 aC2 C2.length rC2):=fun {g} kg=>by rw [zH (by rw [kg.obj _ (by omega)];exact oby)];rfl
 have row1:∀i (hi:i<C1.length),C1[i].length=O1.length-1-i:=fun i hi=>by
  have:=h1.q.row i (by omega)
  rw [List.getD_eq_getElem?_getD,List.getElem?_eq_getElem hi]at this
  exact this
 have row2:∀i (hi:i<C2.length),C2[i].length=O2.length-1-i:=fun i hi=>by
  have:=h2.q.row i (by omega)
  rw [List.getD_eq_getElem?_getD,List.getElem?_eq_getElem hi]at this
  exact this
 refine zF (fun m' vs h=>∃(i:Nat) (L:Nat→Nat),i≤O1.length∧m'=O1.length-i∧vs=[.ptr σ.next 0,.ptr (σ.next+1) 0,.ptr (σ.next+2) 0,.int .i64 O1.length,.int .i64 O2.length,.ptr (σ.next+3) 0,.int .i64 i]∧Keep H3 h∧TB (σ.next+3) h (fun m=>m=N) O L N N (fun j=>N-1-j) (σ.next+2) (σ.next+3) uO uP uC) O1.length ?_ ?_
 ·exact⟨0,_,Nat.zero_le _,rfl,rfl,k5,a5⟩
 clear a5 k5
 rintro m' vs h ⟨i,L,hi,rfl,rfl,k5,a5⟩
 have hn5:=k5.next;simp only [pwA,seval,-iQ0];refine iteI (fun hlt=>?_) fun hge=>?_
 rotate_left
 ·refine zF (fun m' vs h=>∃(i:Nat) (L:Nat→Nat),i≤O2.length∧m'=O2.length-i∧vs=[.ptr (σ.next+1) 0,.ptr (σ.next+2) 0,.int .i64 O1.length,.int .i64 O2.length,.ptr (σ.next+3) 0,.int .i64 i]∧Keep H3 h∧TB (σ.next+3) h (fun m=>m=N) O L N N (fun j=>N-1-j) (σ.next+2) (σ.next+3) uO uP uC) O2.length ?_ ?_
  ·exact⟨0,_,Nat.zero_le _,rfl,rfl,k5,a5⟩
  clear a5 k5
  rintro m' vs h ⟨i,L,hi,rfl,rfl,k5,a5⟩
  have hn5:=k5.next;simp only [pwA,seval,-iQ0];refine iteI (fun hlt=>?_) fun hge=>?_
  rotate_left
  ·obtain⟨e1,e2,e3⟩:=a5.fin
   simp only [pwA,seval,-iQ0,a5.r3,e1,e2];refine e3.fin ((kH3.trans k5).set (by omega) _) (by omega) fun wO wP wC P C r1 r2=>hk wO wP wC O P C r1 ⟨by omega,hOb,?_⟩
   rw [hN];exact r2
  have hiN:O1.length+i<N:=by omega
  have hiN':((O1.length+i:Nat):Int)<(N:Int):=by omega
  have hiP:i<P2.length:=by omega
  have hiP':(i:Int)<(P2.length:Int):=by omega
  have hiC:i<C2.length:=by omega
  have hiC':(i:Int)<(C2.length:Int):=by omega
  have wi:IntKind.i64.wrap ((i:Int)+1)=((i+1:Nat):Int):=by rw [wrap64 (by omega) (by omega)];omega
  have wr0:IntKind.i64.wrap ((O1.length:Int)+(i:Int))=((O1.length+i:Nat):Int):=by rw [wrap64 (by omega) (by omega)];omega
  obtain⟨sP,capP,rfl,hbP,hlP,put⟩:=a5.putPx hiN;have nP1:¬sP=h.next:=by omega
  obtain⟨w4,a4,hr⟩:=hrP2.rowI hiP;have hrl:P2[i].length=O2.length:=h2.q.pq _ (List.getElem_mem hiP);simp only [pwA,seval,-iQ0,a5.r1,Y1 k5,wr0,hiP,hiP',hr];refine Zr (before:=O1.length) (behind:=0) ⟨w4,a4,rfl⟩ (by omega) (by omega) (by omega) fun cap2 ys hys hc2=>?_
  have hys':ys.length=N:=by omega
  obtain⟨ds,L',w,a6⟩:=put (xs:=ys) (cp:=cap2) hys' hc2;have r1:(h.new (pis ys)).rd1 (σ.next+3) 1=some (.sl sP 0 N capP):=(a5.new _).r1;have k6:Keep H3 ((h.new (pis ys)).set sP ds):=(k5.new _).set (by omega) _
  generalize h.new (pis ys)=g at *
  simp only [pwA,seval,-iQ0,r1,hiN,hiN',w,wr0,wi];generalize g.set sP ds=g6 at *
  clear w r1 hn5 hlP nP1 put k5 a5;obtain⟨w7,a7,rs7,hr7,hrs7⟩:=hrC2.rowL hiC;have hrw:=row2 i hiC;refine zF (fun m' vs h=>∃(j:Nat) (L:Nat→Nat),j≤C2[i].length∧m'=C2[i].length-j∧vs=[.ptr (σ.next+1) 0,.ptr (σ.next+2) 0,.int .i64 O1.length,.int .i64 O2.length,.ptr (σ.next+3) 0,.int .i64 i,.int .i64 j]∧Keep H3 h∧TB (σ.next+3) h (fun m=>m=N) O L N N (fun j=>N-1-j) (σ.next+2) (σ.next+3) uO (.sl sP 0 N capP) uC) C2[i].length ?_ ?_
  ·exact⟨0,L',Nat.zero_le _,rfl,rfl,k6,a6⟩
  clear k6 a6
  rintro m' vs h ⟨j,L,hj,rfl,rfl,k5,a5⟩
  have hn5:=k5.next;simp only [pwA,seval,-iQ0,Y2 k5,hiC,hiC',hr7];refine iteI (fun hlt2=>?_) fun hge2=>?_
  rotate_left
  ·simp only [pwA,seval,-iQ0,wi]
   exact⟨_,by omega,i+1,L,by omega,rfl,rfl,k5,a5⟩
  have hji:j<N-1-(O1.length+i):=by omega
  have hji':(j:Int)<((N-1-(O1.length+i):Nat):Int):=by omega
  have hjC':(j:Int)<(C2[i].length:Int):=by omega
  obtain⟨sC,capC,u,capu,rfl,q7,hbC,hlC,hbu,hlu,put⟩:=a5.putCx hiN hji;have nC1:¬sC=h.next:=by omega
  have nu1:¬u=h.next:=by omega
  obtain⟨w8,a8,hr8⟩:=hrs7.rowI hlt2;have hr8l:C2[i][j].length=O2.length:=h2.q.cq _ (List.getElem_mem hiC) _ (List.getElem_mem hlt2);simp only [pwA,seval,-iQ0,a5.r2,q7,hiN,hiN',wr0,Y2 k5,hiC,hiC',hr7,hlt2,hjC',hr8];refine Zr (before:=O1.length) (behind:=0) ⟨w8,a8,rfl⟩ (by omega) (by omega) (by omega) fun cap3 zs hzs hc3=>?_
  have hzs':zs.length=N:=by omega
  obtain⟨ds',L'',rC,w,a6⟩:=put (xs:=zs) (cp:=cap3) hzs' hc3;have r2:(h.new (pis zs)).rd1 (σ.next+3) 2=some (.sl sC 0 N capC):=(a5.new _).r2;have k6:Keep H3 ((h.new (pis zs)).set u ds'):=(k5.new _).set (by omega) _
  generalize h.new (pis zs)=g at *
  simp only [pwA,seval,-iQ0,r2,rC,hiN,hiN',hji,hji',w,wr0,wrapS hlt2 (by omega:C2[i].length≤4611686018427387904)]
  exact⟨_,by omega,j+1,L'',by omega,rfl,rfl,k6,a6⟩
 have hiN:i<N:=by omega
 have hiN':((i:Nat):Int)<(N:Int):=by omega
 have hiP:i<P1.length:=by omega
 have hiP':(i:Int)<(P1.length:Int):=by omega
 have hiC:i<C1.length:=by omega
 have hiC':(i:Int)<(C1.length:Int):=by omega
 have wi:IntKind.i64.wrap ((i:Int)+1)=((i+1:Nat):Int):=by rw [wrap64 (by omega) (by omega)];omega
 have wr0:IntKind.i64.wrap ((O1.length:Int)+(i:Int))=((O1.length+i:Nat):Int):=by rw [wrap64 (by omega) (by omega)];omega
 obtain⟨sP,capP,rfl,hbP,hlP,put⟩:=a5.putPx hiN;have nP1:¬sP=h.next:=by omega
 obtain⟨w4,a4,hr⟩:=hrP1.rowI hiP;have hrl:P1[i].length=O1.length:=h1.q.pq _ (List.getElem_mem hiP);simp only [pwA,seval,-iQ0,a5.r1,X1 k5,hiP,hiP',hr];refine Zr (before:=0) (behind:=O2.length) ⟨w4,a4,rfl⟩ (by omega) (by omega) (by omega) fun cap2 ys hys hc2=>?_
 have hys':ys.length=N:=by omega
 obtain⟨ds,L',w,a6⟩:=put (xs:=ys) (cp:=cap2) hys' hc2;have r1:(h.new (pis ys)).rd1 (σ.next+3) 1=some (.sl sP 0 N capP):=(a5.new _).r1;have k6:Keep H3 ((h.new (pis ys)).set sP ds):=(k5.new _).set (by omega) _
 generalize h.new (pis ys)=g at *
 simp only [pwA,seval,-iQ0,r1,hiN,hiN',w,wi];generalize g.set sP ds=g6 at *
 clear w r1 hn5 hlP nP1 put k5 a5;obtain⟨w7,a7,rs7,hr7,hrs7⟩:=hrC1.rowL hiC;have hrw:=row1 i hiC;refine zF (fun m' vs h=>∃(j:Nat) (L:Nat→Nat),j≤C1[i].length∧m'=C1[i].length-j∧vs=[.ptr σ.next 0,.ptr (σ.next+1) 0,.ptr (σ.next+2) 0,.int .i64 O1.length,.int .i64 O2.length,.ptr (σ.next+3) 0,.int .i64 i,.int .i64 j]∧Keep H3 h∧TB (σ.next+3) h (fun m=>m=N) O L N N (fun j=>N-1-j) (σ.next+2) (σ.next+3) uO (.sl sP 0 N capP) uC) C1[i].length ?_ ?_
 ·exact⟨0,L',Nat.zero_le _,rfl,rfl,k6,a6⟩
 clear k6 a6
 rintro m' vs h ⟨j,L,hj,rfl,rfl,k5,a5⟩
 have hn5:=k5.next;simp only [pwA,seval,-iQ0,X2 k5,hiC,hiC',hr7];refine iteI (fun hlt2=>?_) fun hge2=>?_
 rotate_left
 ·simp only [pwA,seval,-iQ0,wi]
  exact⟨_,by omega,i+1,L,by omega,rfl,rfl,k5,a5⟩
 have hji:j<N-1-(i):=by omega
 have hji':(j:Int)<((N-1-(i):Nat):Int):=by omega
 have hjC':(j:Int)<(C1[i].length:Int):=by omega
 obtain⟨sC,capC,u,capu,rfl,q7,hbC,hlC,hbu,hlu,put⟩:=a5.putCx hiN hji;have nC1:¬sC=h.next:=by omega
 have nu1:¬u=h.next:=by omega
 obtain⟨w8,a8,hr8⟩:=hrs7.rowI hlt2;have hr8l:C1[i][j].length=O1.length:=h1.q.cq _ (List.getElem_mem hiC) _ (List.getElem_mem hlt2);simp only [pwA,seval,-iQ0,a5.r2,q7,hiN,hiN',X2 k5,hiC,hiC',hr7,hlt2,hjC',hr8];refine Zr (before:=0) (behind:=O2.length) ⟨w8,a8,rfl⟩ (by omega) (by omega) (by omega) fun cap3 zs hzs hc3=>?_
 have hzs':zs.length=N:=by omega
 obtain⟨ds',L'',rC,w,a6⟩:=put (xs:=zs) (cp:=cap3) hzs' hc3;have r2:(h.new (pis zs)).rd1 (σ.next+3) 2=some (.sl sC 0 N capC):=(a5.new _).r2;have k6:Keep H3 ((h.new (pis zs)).set u ds'):=(k5.new _).set (by omega) _
 generalize h.new (pis zs)=g at *
 simp only [pwA,seval,-iQ0,r2,rC,hiN,hiN',hji,hji',w,wrapS hlt2 (by omega:C1[i].length≤4611686018427387904)]
 exact⟨_,by omega,j+1,L'',by omega,rfl,rfl,k6,a6⟩
end Go.Proofs
namespace Go.Grp
end Go.Grp
namespace Go.Proofs
open Go.Ab Go.Lie Go.Grp
variable {σ σ0 h h':PHeap} {K:PV→PHeap→Prop} {b k nP nC r s0 i j n:Nat} {v vO vP vC c vX vS vL vM:PV} {x O xs bs:List Int} {P M:List (List Int)} {C:List (List (List Int))} {cs:List PV} {s t:List UInt8}
theorem zC3 {z:Int} (h0:0≤z) (h1:z<256):IntKind.u8.wrap z=z:=by
 unfold IntKind.wrap;have e:z % (2 ^ IntKind.u8.bits:Int)=z:=by
  have:(2 ^ IntKind.u8.bits:Int)=256:=by decide
  rw [this];omega
 have e2:IntKind.u8.signed=false:=rfl;simp only [e,e2,Bool.false_and,Bool.false_eq_true,if_false]
theorem zHh (hs:s.length≤1000) (hk:∀y,-1≤y∧y≤1000000→K (.int .i64 y) σ):zA Tryz.prog 251 [.str s] σ K:=by
 have bad:=hk (-1) (by decide)
 refine zC mix Tryz.func251 ?_
 conv=>arg 2;cbv
 refine zD rfl ?_
 by_cases h0:s.length=0
 ·have d1:((s.length:Nat):Int)=0:=by omega
  simp only [pwA,seval,-iQ0,d1];exact bad
 have d1:¬((s.length:Nat):Int)=0:=by omega
 by_cases h6:6<s.length
 ·have d2:(6:Int)<((s.length:Nat):Int):=by omega
  simp only [pwA,seval,-iQ0,d1,d2];exact bad
 have d2:¬(6:Int)<((s.length:Nat):Int):=by omega
 have hl:0<s.length:=by omega
 by_cases h1:1<s.length∧s[0].toNat=48
 ·have d3:(1:Int)<((s.length:Nat):Int):=by omega
  have d4:((s[0].toNat:Nat):Int)=48:=by omega
  simp only [pwA,seval,-iQ0,d1,d2,d3,Int.toNat_zero,List.getElem?_eq_getElem hl,d4];exact bad
 by_cases h3:1<s.length
 case' pos=>
  have d3:(1:Int)<((s.length:Nat):Int):=by omega
  have d4:¬((s[0].toNat:Nat):Int)=48:=by omega
  simp only [pwA,seval,-iQ0,d1,d2,d3,Int.toNat_zero,List.getElem?_eq_getElem hl,d4]
 case' neg=>
  have d3:¬(1:Int)<((s.length:Nat):Int):=by omega
  simp only [pwA,seval,-iQ0,d1,d2,d3]
 all_goals
  refine zF (fun m vs h=>∃(i:Nat) (y:Int),i≤s.length∧m=s.length-i∧vs=[.str s,.int .i64 y,.int .i64 i]∧0≤y∧y<10 ^ i∧h=σ) s.length ?_ ?_
  ·exact⟨0,0,Nat.zero_le _,rfl,rfl,by decide,by decide,rfl⟩
  rintro m vs h ⟨i,y,hi,rfl,rfl,y0,y1,rfl⟩
  have hp:∀k:Nat,k≤6→(10:Int) ^ k≤1000000:=fun k hk'=>by
   have:k=0∨k=1∨k=2∨k=3∨k=4∨k=5∨k=6:=by omega
   rcases this with rfl|rfl|rfl|rfl|rfl|rfl|rfl<;>decide
  have hpi:=hp i (by omega)
  simp only [pwA,seval,-iQ0];refine iteI (fun hlt=>?_) fun hge=>?_
  rotate_left
  ·exact hk y (by omega)
  have gs:s[i]? = some s[i]:=List.getElem?_eq_getElem hlt
  by_cases c1:s[i].toNat<48
  ·have d5:((s[i].toNat:Nat):Int)<48:=by omega
   simp only [pwA,seval,-iQ0,Int.toNat_natCast,gs,d5];exact bad
  have d5:¬((s[i].toNat:Nat):Int)<48:=by omega
  by_cases c2:57<s[i].toNat
  ·have d6:(57:Int)<((s[i].toNat:Nat):Int):=by omega
   simp only [pwA,seval,-iQ0,Int.toNat_natCast,gs,d5,d6];exact bad
  have d6:¬(57:Int)<((s[i].toNat:Nat):Int):=by omega
  have w1:IntKind.u8.wrap ((s[i].toNat:Int)-48)=(s[i].toNat:Int)-48:=by
   exact zC3 (by omega) (by omega)
  have w2:IntKind.i64.wrap ((s[i].toNat:Int)-48)=(s[i].toNat:Int)-48:=wrap64 (by omega) (by omega)
  have w3:IntKind.i64.wrap (10*y)=10*y:=wrap64 (by omega) (by omega)
  have w4:IntKind.i64.wrap (10*y+((s[i].toNat:Int)-48))=10*y+((s[i].toNat:Int)-48):=wrap64 (by omega) (by omega)
  simp only [pwA,seval,-iQ0,Int.toNat_natCast,gs,d5,d6,w1,w2,w3,w4,wrapS hlt (by omega:s.length≤4611686018427387904)]
  exact⟨_,by omega,i+1,_,by omega,rfl,rfl,by omega,by rw [Int.pow_succ];omega⟩
def Strs (n:Nat) (cells:List PV):Prop:=∀c∈cells,∃q:List UInt8,c=.str q∧q.length≤n
theorem Strs.bels {n:Nat} {cells:List PV} (a:Strs n cells) (b:Nat):Bels b cells:=ZQ.2 fun c hc=>by obtain⟨q,rfl,_⟩:=a c hc;trivial
theorem Strs.snoc {n:Nat} {cells:List PV} (a:Strs n cells) {q:List UInt8} (hq:q.length≤n):Strs n (cells++[.str q]):=fun c hc=>by
 rcases List.mem_append.1 hc with hc|hc
 ·exact a c hc
 ·exact⟨q,List.mem_singleton.1 hc,hq⟩
theorem zAY {c:Int} (hs:s.length≤1000) (hk:∀a n cells,1≤n→n≤s.length+1→cells.length=n→Strs s.length cells→K (.fz true a n cells) σ):zA Tryz.prog 244 [.str s,.int .u8 c] σ K:=by
 refine zA.gh ?_;refine zC mix Tryz.func244 ?_
 conv=>arg 2;cbv
 refine zD rfl ?_;simp only [pwA,seval,-iQ0];refine zF (fun m vs h=>∃(i st:Nat) (v:PV) (cells:List PV),i≤s.length∧st≤i∧m=s.length-i∧vs=[.str s,.int .u8 c,v,.int .i64 st,.int .i64 i]∧cells.length≤i∧Strs s.length cells∧Keep σ h∧PSl σ.next 1 h v cells.length cells) s.length ?_ ?_
 ·exact⟨0,0,_,[],Nat.zero_le _,Nat.le_refl _,rfl,rfl,Nat.zero_le _,fun c hc=>(by cases hc),zB _ _,PSl.new _ 1 rfl (Nat.le_refl _)⟩
 rintro m vs h ⟨i,st,v,cells,hi,hst,rfl,rfl,hcl,hst2,kk,pa⟩
 have h1:=pa.one;simp only [pwA,seval,-iQ0,h1];refine iteI (fun hlt=>?_) fun hge=>?_
 ·have gs:s[i]? = some s[i]:=List.getElem?_eq_getElem hlt
  have wi:IntKind.i64.wrap ((i:Int)+1)=((i+1:Nat):Int):=by rw [wrap64 (by omega) (by omega)];omega
  simp only [pwA,seval,-iQ0,gs,h1]
  by_cases he:((s[i].toNat:Nat):Int)=c
  ·have b1:((i:Int)≤(s.length:Int))=True:=by simp;omega
   have b2:((st:Int)≤(i:Int))=True:=by simp;omega
   simp only [pwA,seval,-iQ0,he,b1,b2,h1,hi,hst];refine PSl.push (σb:=σ) (bytes:=16) kk pa (by omega) (by omega) fun v2 h2 k2 a2=>?_
   have h3:=a2.one;simp only [pwA,seval,-iQ0,wi,h3];have hl:(cells++[PV.str (List.drop st (List.take i s))]).length=cells.length+1:=by simp
   exact⟨_,by omega,i+1,i+1,v2,cells++[.str (List.drop st (List.take i s))],by omega,Nat.le_refl _,rfl,rfl,by omega,hst2.snoc (by rw [List.length_drop,List.length_take];omega),k2,by rw [hl];exact a2⟩
  ·simp only [pwA,seval,-iQ0,he,wi,h1]
   exact⟨_,by omega,i+1,st,v,cells,by omega,by omega,rfl,rfl,by omega,hst2,kk,pa⟩
 have b1:st≤s.length:=by omega
 simp only [pwA,seval,-iQ0,h1,b1,List.take_length];refine PSl.push (σb:=σ) (bytes:=16) kk pa (by omega) (by omega) fun v2 h2 k2 a2=>?_
 have h3:=a2.one;simp only [pwA,seval,-iQ0,h3];refine a2.fin k2 ((hst2.snoc ?_).bels 0) fun o cap=>hk _ _ _ (by omega) (by omega) (by simp) (hst2.snoc ?_)
 all_goals simp
end Go.Proofs
namespace Go.Grp
end Go.Grp
namespace Go.Proofs
open Go.Ab Go.Lie Go.Grp
variable {σ σ0 h h':PHeap} {K:PV→PHeap→Prop} {b k nP nC r s0 i j n:Nat} {v vO vP vC c vX vS vL vM:PV} {x O xs bs:List Int} {P M:List (List Int)} {C:List (List (List Int))} {cs:List PV} {s t:List UInt8}
theorem zC7 {g:PHeap} {z:Int}:Q6 (g.new [.int .u8 z]) (.sl g.next 0 1 (.known 1))=some [UInt8.ofNat z.toNat]:=by
 simp only [pwA,seval,-iQ0,Q6];rw [qC];simp only [pwA,seval,-iQ0]
 rfl
theorem zFG {n:Int} (k:Nat) (hn:0≤n∧n≤1000000∧n<10 ^ (k+1)) (hkk:k≤100) (hk:∀q:List UInt8,q.length≤k+1→K (.str q) σ):zA Tryz.prog 254 [.int .i64 n] σ K:=by
 induction k generalizing n σ K with
 | zero=>
  have h10:n<10:=by have:=hn.2.2;simpa using this
  have w1:IntKind.i64.wrap (48+n)=48+n:=wrap64 (by omega) (by omega)
  have w2:IntKind.u8.wrap (48+n)=48+n:=zC3 (by omega) (by omega)
  refine zA.gh ?_;refine zN mix Tryz.func254 cf254 rfl ?_;dsimp only [if254,qI,eI,qD,eD,mI0,cI0,mD0,I0,R0,S0];simp only [pwA,seval,-iQ0,h10,w1,w2,QN,zC7];exact Gh.fin0 (zB _ _) trivial (hk _ (Nat.le_refl _))
 | succ k ih=>
  by_cases h10:n<10
  ·have w1:IntKind.i64.wrap (48+n)=48+n:=wrap64 (by omega) (by omega)
   have w2:IntKind.u8.wrap (48+n)=48+n:=zC3 (by omega) (by omega)
   refine zA.gh ?_;refine zN mix Tryz.func254 cf254 rfl ?_;dsimp only [if254,qI,eI,qD,eD,mI0,cI0,mD0,I0,R0,S0];simp only [pwA,seval,-iQ0,h10,w1,w2,QN,zC7];exact Gh.fin0 (zB _ _) trivial (hk _ (Nat.succ_le_succ (Nat.zero_le _)))
  have q0:0≤n.tdiv 10:=Int.tdiv_nonneg hn.1 (by decide)
  have q1:n.tdiv 10≤1000000∧n.tdiv 10<10 ^ (k+1):=by
   have e:n.tdiv 10=n / 10:=Int.tdiv_eq_ediv_of_nonneg hn.1
   have:=hn.2.2
   rw [Int.pow_succ]at this
   rw [e];omega
  have r0:0≤n.tmod 10∧n.tmod 10<10:=⟨Int.tmod_nonneg _ hn.1,Int.tmod_lt_of_pos _ (by decide)⟩
  have w0:IntKind.i64.wrap (n.tdiv 10)=n.tdiv 10:=wrap64 (by omega) (by omega)
  have w3:IntKind.i64.wrap (n.tmod 10)=n.tmod 10:=wrap64 (by omega) (by omega)
  have w1:IntKind.i64.wrap (48+n.tmod 10)=48+n.tmod 10:=wrap64 (by omega) (by omega)
  have w2:IntKind.u8.wrap (48+n.tmod 10)=48+n.tmod 10:=zC3 (by omega) (by omega)
  have ihc:∀{g:PHeap} {K':PV→PHeap→Prop},(∀q:List UInt8,q.length≤k+1→K' (.str q) g)→zA Tryz.prog 254 [.int .i64 (n.tdiv 10)] g K':=fun hk'=>ih ⟨q0,q1.1,q1.2⟩ (by omega) hk'
  refine zA.gh ?_;refine zN mix Tryz.func254 cf254 rfl ?_;dsimp only [if254,qI,eI,qD,eD,mI0,cI0,mD0,I0,R0,S0];simp only [pwA,seval,-iQ0,h10,w0,w1,w2,w3,QN,zC7,zDh,TVp_e,TVp_q,ZO,ZN];refine⟨?_,?_,?_⟩
  all_goals
   refine ihc fun q hq=>?_
   have hl:q.length+1≤9223372036854775807:=by omega
   simp only [pwA,seval,-iQ0,h10,w0,w1,w2,w3,QN,zC7,zDh,TVp_e,TVp_q,ZO,ZN,hl];exact Gh.fin0 (zB _ _) trivial (hk _ (by rw [List.length_append];exact Nat.succ_le_succ hq))
def Byts (cells:List PV):Prop:=∀c∈cells,∃z:Int,c=.int .u8 z
theorem Byts.bytes:∀{cells:List PV},Byts cells→∃q:List UInt8,zAh cells=some q∧q.length=cells.length
 | [],_=>⟨[],rfl,rfl⟩
 | c::cells,a=>by
  obtain⟨z,rfl⟩:=a c (List.mem_cons_self ..);obtain⟨q,h1,h2⟩:=Byts.bytes (cells:=cells) fun c hc=>a c (List.mem_cons_of_mem _ hc)
  exact⟨UInt8.ofNat z.toNat::q,by simp only [zAh,h1,Option.map_some],by simp [h2]⟩
theorem Byts.snoc {cells:List PV} (a:Byts cells) {z:Int}:Byts (cells++[.int .u8 z]):=fun c hc=>by
 rcases List.mem_append.1 hc with hc|hc
 ·exact a c hc
 ·exact⟨z,List.mem_singleton.1 hc⟩
theorem PSl.bytes {cells:List PV} (a:PSl b 1 h v cells.length cells) (hb:Byts cells):∃q:List UInt8,Q6 h v=some q∧q.length=cells.length:=by
 obtain⟨s,cap,rfl,h1,h2,h3,h4,h5⟩:=a;obtain⟨q,e1,e2⟩:=hb.bytes;refine⟨q,?_,e2⟩;unfold Q6;rw [zB9];simp only [Option.bind_some];rw [qC]
 by_cases h0:cells.length=0
 ·have:cells=[]:=List.length_eq_zero_iff.1 h0
  subst this;rw [if_pos h0];exact e1
 ·rw [if_neg h0,if_pos (Nat.le_refl _),Nat.mul_one,zT h2,if_pos (by omega),List.drop_zero,List.take_length]
  exact e1
theorem zEA {w:Bool} {aa:AV} (hn:x.length≤1000) (hk:∀q:List UInt8,q.length≤x.length+1→K (.str q) σ):zA Tryz.prog 256 [.fz w aa x.length (pis x)] σ K:=by
 refine zA.gh ?_;refine zC mix Tryz.func256 ?_
 conv=>arg 2;cbv
 refine zD rfl ?_
 by_cases h0:x.length=0
 ·have d0:((x.length:Nat):Int)=0:=by omega
  simp only [pwA,seval,-iQ0,d0];exact Gh.fin0 (Keep.refl _) trivial (hk _ (by simp))
 have d0:¬((x.length:Nat):Int)=0:=by omega
 simp only [pwA,seval,-iQ0,d0];refine zF (fun m vs h=>∃(i:Nat) (v:PV) (cells:List PV),i≤x.length∧m=x.length-i∧vs=[.fz w aa x.length (pis x),v,.int .i64 i]∧cells.length=i∧Byts cells∧Keep σ h∧PSl σ.next 1 h v cells.length cells) x.length ?_ ?_
 ·exact⟨0,_,[],Nat.zero_le _,rfl,rfl,rfl,fun c hc=>(by cases hc),zB _ _,PSl.new _ 1 rfl (Nat.le_refl _)⟩
 rintro m vs h ⟨i,v,cells,hi,rfl,rfl,hcl,hby,kk,pa⟩
 have h1:=pa.one;simp only [pwA,seval,-iQ0,h1];refine iteI (fun hlt=>?_) fun hge=>?_
 ·have hlt':(i:Int)<(x.length:Int):=by omega
  have gx:(pis x)[i]? = some (.int .i64 x[i]):=by rw [zL,gi hlt];rfl
  simp only [pwA,seval,-iQ0,h1,hlt,hlt',gx];refine iteI (fun hp=>?_) fun hp=>?_
  all_goals
   simp only [pwA,seval,-iQ0,h1,hlt,hlt',gx];refine PSl.push (σb:=σ) (bytes:=1) kk pa (by omega) (by omega) fun v2 h2 k2 a2=>?_
   have h3:=a2.one;simp only [pwA,seval,-iQ0,h3,wrapS hlt (by omega:x.length≤4611686018427387904)]
   exact⟨_,by omega,i+1,v2,_,by omega,rfl,rfl,by rw [List.length_append,hcl];rfl,hby.snoc,k2,by rw [List.length_append];exact a2⟩
 obtain⟨q,e1,e2⟩:=PSl.bytes pa hby;simp only [pwA,seval,-iQ0,h1,QN,e1];exact Gh.fin0 kk trivial (hk _ (by omega))
theorem zI7 {cap:Cap} (ho:σ.obj s0=some (pis x)) (hs:s0<σ.next) (hn:x.length≤1000) (hk:∀q:List UInt8,q.length≤x.length+1→K (.str q) σ):zA Tryz.prog 256 [.sl s0 0 x.length cap] σ K:=by
 refine zA.gh ?_;refine zC mix Tryz.func256 ?_
 conv=>arg 2;cbv
 refine zD rfl ?_
 by_cases h0:x.length=0
 ·have d0:((x.length:Nat):Int)=0:=by omega
  simp only [pwA,seval,-iQ0,d0];exact Gh.fin0 (Keep.refl _) trivial (hk _ (by simp))
 have d0:¬((x.length:Nat):Int)=0:=by omega
 simp only [pwA,seval,-iQ0,d0];refine zF (fun m vs h=>∃(i:Nat) (v:PV) (cells:List PV),i≤x.length∧m=x.length-i∧vs=[.sl s0 0 x.length cap,v,.int .i64 i]∧cells.length=i∧Byts cells∧Keep σ h∧PSl σ.next 1 h v cells.length cells) x.length ?_ ?_
 ·exact⟨0,_,[],Nat.zero_le _,rfl,rfl,rfl,fun c hc=>(by cases hc),zB _ _,PSl.new _ 1 rfl (Nat.le_refl _)⟩
 rintro m vs h ⟨i,v,cells,hi,rfl,rfl,hcl,hby,kk,pa⟩
 have h1:=pa.one;simp only [pwA,seval,-iQ0,h1];refine iteI (fun hlt=>?_) fun hge=>?_
 ·have hlt':(i:Int)<(x.length:Int):=by omega
  have gx:h.rd1 s0 i=some (.int .i64 x[i]):=by rw [zH (by rw [kk.obj _ hs];exact ho),zL,gi hlt];rfl
  simp only [pwA,seval,-iQ0,h1,hlt,hlt',gx];refine iteI (fun hp=>?_) fun hp=>?_
  all_goals
   simp only [pwA,seval,-iQ0,h1,hlt,hlt',gx];refine PSl.push (σb:=σ) (bytes:=1) kk pa (by omega) (by omega) fun v2 h2 k2 a2=>?_
   have h3:=a2.one;simp only [pwA,seval,-iQ0,h3,wrapS hlt (by omega:x.length≤4611686018427387904)]
   exact⟨_,by omega,i+1,v2,_,by omega,rfl,rfl,by rw [List.length_append,hcl];rfl,hby.snoc,k2,by rw [List.length_append];exact a2⟩
 obtain⟨q,e1,e2⟩:=PSl.bytes pa hby;simp only [pwA,seval,-iQ0,h1,QN,e1];exact Gh.fin0 kk trivial (hk _ (by omega))
theorem zAX {i:Int} (hi:-1000≤i∧i≤1000) (hk:∀q:List UInt8,q.length≤2→K (.str q) σ):zA Tryz.prog 255 [.int .i64 i] σ K:=by
 refine zA.gh ?_;refine zC mix Tryz.func255 ?_
 conv=>arg 2;cbv
 refine zD rfl ?_;simp only [pwA,seval,-iQ0];refine zI7 (x:=[IntKind.i64.wrap (i+1)]) (by rw [zG,if_pos rfl];rfl) (Nat.lt_succ_self _) (by simp) fun q hq=>?_
 simp only [pwA,seval,-iQ0];exact Gh.fin0 (zB _ _) trivial (hk q hq)
end Go.Proofs
namespace Go.Grp
end Go.Grp
namespace Go.Proofs
open Go.Ab Go.Lie Go.Grp
variable {σ σ0 h h':PHeap} {K:PV→PHeap→Prop} {b k nP nC r s0 i j n:Nat} {v vO vP vC c vX vS vL vM:PV} {x O xs bs:List Int} {P M:List (List Int)} {C:List (List (List Int))} {cs:List PV} {s t:List UInt8}
theorem qN {α:Type} {c:Prop} [Decidable c] {a:α} {K:α→Prop} (hc:c) (hk:K a):optK (if c then some a else none) K:=by rw [if_pos hc];exact⟨a,rfl,hk⟩
theorem zD9 (hv:FI v x) (hn:x.length≤6) (hx:∀a∈x,0≤a∧a≤7) (hk:∀u w,FI u w→w.length≤42→K u σ):zA Tryz.prog 190 [v] σ K:=by
 obtain⟨w,a,rfl⟩:=hv;refine zA.gh ?_;refine zC mix Tryz.func190 ?_
 conv=>arg 2;cbv
 refine zD rfl ?_;simp only [pwA,seval,-iQ0];refine zF (fun m vs h=>∃(i:Nat) (v:PV) (u:List Int),i≤x.length∧m=x.length-i∧vs=[.fz w a x.length (pis x),v,.int .i64 i]∧u.length≤7*i∧Keep σ h∧PSl σ.next 1 h v u.length (pis u)) x.length ?_ ?_
 ·exact⟨0,_,[],Nat.zero_le _,rfl,rfl,Nat.le_refl _,zB _ _,PSl.new _ 1 rfl (Nat.le_refl _)⟩
 rintro m vs h ⟨i,v,u,hi,rfl,rfl,hul,kk,pa⟩
 have h1:=pa.one;simp only [pwA,seval,-iQ0,h1];refine iteI (fun hlt=>?_) fun hge=>?_
 rotate_left
 ·refine pa.fin kk (zM _ _) fun o cap=>hk _ u ⟨true,_,rfl⟩ (by omega)
 have hlt':(i:Int)<(x.length:Int):=by omega
 have gx:(pis x)[i]? = some (.int .i64 x[i]):=by rw [zL,gi hlt];rfl
 have xb:=hx _ (List.getElem_mem hlt);refine zF (fun m vs h=>∃(j:Nat) (v:PV) (u:List Int),j≤7∧m=7-j∧vs=[.fz w a x.length (pis x),v,.int .i64 i,.int .i64 j]∧u.length≤7*i+j∧Keep σ h∧PSl σ.next 1 h v u.length (pis u)) 7 ?_ ?_
 ·exact⟨0,v,u,Nat.zero_le _,rfl,rfl,by omega,kk,pa⟩
 clear pa kk h1 hul
 rintro m vs h ⟨j,v,u,hj,rfl,rfl,hul,kk,pa⟩
 have h1:=pa.one;simp only [pwA,seval,-iQ0,h1,hlt,hlt',gx];refine iteI (fun hjt=>?_) fun hge=>?_
 rotate_left
 ·simp only [pwA,seval,-iQ0,h1,wrapS hlt (by omega:x.length≤4611686018427387904)]
  exact⟨_,by omega,i+1,v,u,by omega,rfl,rfl,by omega,kk,pa⟩
 have wi:IntKind.i64.wrap ((i:Int)+1)=(i:Int)+1:=wrap64 (by omega) (by omega)
 have wj:IntKind.i64.wrap ((j:Int)+1)=((j+1:Nat):Int):=by rw [wrap64 (by omega) (by omega)];omega
 simp only [pwA,seval,-iQ0,h1,wi];refine PSl.push (σb:=σ) (bytes:=8) kk pa (by omega) (by omega) fun v2 h2 k2 a2=>?_
 have h3:=a2.one;simp only [pwA,seval,-iQ0,h3,wj];have e:pis (u++[(i:Int)+1])=pis u++[.int .i64 ((i:Int)+1)]:=by simp [pis]
 exact⟨_,by omega,j+1,v2,u++[(i:Int)+1],by omega,rfl,rfl,by rw [List.length_append,List.length_singleton];omega,k2,by rw [e,List.length_append];exact a2⟩
theorem zI6 (hR:IsPr vO vP vC O P C) (hp:zW O P C) (hk:∀q:List UInt8,K (.str q) σ):zA Tryz.prog 247 [.agg [vO,vP,vC]] σ K:=by
  have sh:=hp.shp;have hn6:=sh.le;have o1:=hR.O.one;have p1:=hR.P.one;have c1:=hR.C.one;obtain⟨⟨wO,aO,rfl⟩,⟨wP,aP,rP,rfl,hrP⟩,⟨wC,aC,rC,rfl,hrC⟩⟩:=hR;have hpl:=sh.pl;have hcl:=sh.cl;refine zA.gh ?_;refine zN mix Tryz.func247 cf247 rfl ?_;dsimp only [if247,qI,eI,qD,eD,mI0,kI0,lI0,fI0,xI0,bI0,cI0,nI0,sI0,C1,mD0,lD0,fD0,xD0,I0,R0,S0];simp only [pwA,seval,-iQ0,o1,p1,c1];generalize hH:σ.new [PV.fz wO aO O.length (pis O),PV.fz wP aP P.length rP,PV.fz wC aC C.length rC]=H;have kH:Keep σ H:=by rw [←hH];exact zB _ _
  have r0:H.rd1 σ.next 0=some (.fz wO aO O.length (pis O)):=by rw [←hH];simp only [pwA,seval,-iQ0]
  have r1:H.rd1 σ.next 1=some (.fz wP aP P.length rP):=by rw [←hH];simp only [pwA,seval,-iQ0]
  have r2:H.rd1 σ.next 2=some (.fz wC aC C.length rC):=by rw [←hH];simp only [pwA,seval,-iQ0]
  clear hH;have fin:∀{q:List UInt8},Gh σ K (.str q) H:=Gh.fin0 kH trivial (hk _)
  have hO:∀i (hi:i<O.length),2≤O[i]∧O[i]≤7:=fun i hi=>by have:=sh.pr i hi;rw [at_eq hi]at this;exact this
  have ent:∀{k:Nat} {y:List Int},TT O k y→∀a∈y,0≤a∧a≤7:=fun {k y} h a ha=>by
    obtain⟨j,hj,rfl⟩:=List.mem_iff_getElem.1 ha;have b:=h.bd j (by have:=h.len;omega)
    rw [at_eq hj]at b
    have o:=sh.pr j (by have:=h.len;omega)
    omega
  have PR:∀i (hi:i<P.length),P[i].length=O.length∧∀a∈P[i],0≤a∧a≤7:=fun i hi=>by
    have h:=sh.pw i (by omega)
    have e:pvec P i=P[i]:=by unfold pvec;rw [List.getD_eq_getElem?_getD,List.getElem?_eq_getElem hi];rfl
    rw [e]at h
    exact⟨h.len,ent h⟩
  have CL:∀i (hi:i<C.length),C[i].length=O.length-1-i:=fun i hi=>by
    have h:=sh.row i (by omega)
    rw [List.getD_eq_getElem?_getD,List.getElem?_eq_getElem hi]at h
    exact h
  have CR:∀i (hi:i<C.length) k (hk:k<C[i].length),C[i][k].length=O.length∧∀a∈C[i][k],0≤a∧a≤7:=fun i hi k hk'=>by
    have hl:=CL i hi;have h:=sh.cj i (i+1+k) (by omega) (by omega)
    have e:cvec C i (i+1+k)=C[i][k]:=by
      unfold cvec;rw [show i+1+k-i-1=k by omega,List.getD_eq_getElem?_getD,List.getD_eq_getElem?_getD,List.getElem?_eq_getElem hi]
      simp only [Option.getD_some];rw [List.getElem?_eq_getElem hk'];rfl
    rw [e]at h
    exact⟨h.len,ent h⟩
  have dec:∀{g:PHeap} {K':PV→PHeap→Prop} {a:Int},2≤a∧a≤7→(∀d:List UInt8,d.length≤6→K' (.str d) g)→zA Tryz.prog 254 [.int .i64 a] g K':=fun {g K' a} ha hk'=>
    zFG 5 ⟨by omega,by omega,Int.lt_of_lt_of_le (show a<1000000 by omega) (by decide)⟩ (by decide) hk'
  refine iteI (fun _=>fin) fun hO0=>?_
  refine zF (fun m vs h=>∃(i:Nat) (q:List UInt8),i≤O.length∧m=O.length-i∧vs=[.ptr σ.next 0,.int .i64 O.length,.str q,.int .i64 i]∧q.length≤9*i∧h=H) O.length ?_ ?_
  · exact⟨0,[],Nat.zero_le _,rfl,rfl,Nat.le_refl _,rfl⟩
  rintro m vs h ⟨i,q,hi,rfl,rfl,hq,rfl⟩
  simp only [pwA,seval,-iQ0];refine iteI (fun hlt=>?_) fun hge=>?_
  · have hlt':(i:Int)<(O.length:Int):=by omega
    have gx:(pis O)[i]? = some (.int .i64 O[i]):=by rw [zL,gi hlt];rfl
    have ob:=hO i hlt;refine iteI (fun hp=>?_) fun hp=>?_
    case' refine_1=>refine qN (by first | omega | (simp only [List.length_append,List.length_cons,List.length_nil];omega)) ?_
    all_goals
      simp only [pwA,seval,-iQ0,r0,hlt,hlt',gx];refine dec ob fun d hd=>?_
      simp only [pwA,seval,-iQ0];refine qN (by first | omega | (simp only [List.length_append,List.length_cons,List.length_nil];omega)) ?_
      simp only [pwA,seval,-iQ0,wrapS hlt (by omega:O.length≤4611686018427387904)]
      exact⟨_,by omega,i+1,_,by omega,rfl,rfl,by simp only [List.length_append,List.length_singleton];omega⟩
  refine zF (fun m vs h'=>∃(i:Nat) (q:List UInt8),i≤O.length∧m=O.length-i∧vs=[.ptr σ.next 0,.int .i64 O.length,.str q,.int .i64 i]∧q.length≤60+60*i∧h'=h) O.length ?_ ?_
  · exact⟨0,q,Nat.zero_le _,rfl,rfl,by omega,rfl⟩
  clear hq hge hi
  rintro m vs h ⟨i,q,hi,rfl,rfl,hq,rfl⟩
  simp only [pwA,seval,-iQ0];refine iteI (fun hlt=>?_) fun hge=>?_
  · have hltP:i<P.length:=by omega
    have hltP':(i:Int)<(P.length:Int):=by omega
    have hlt':(i:Int)<(O.length:Int):=by omega
    have gx:(pis O)[i]? = some (.int .i64 O[i]):=by rw [zL,gi hlt];rfl
    have ob:=hO i hlt;obtain⟨w4,a4,hr⟩:=hrP.rowI hltP;obtain⟨pl,pe⟩:=PR i hltP;have wi:=wrapS hlt (by omega:O.length≤4611686018427387904)
    simp only [pwA,seval,-iQ0,r0,r1,hltP,hltP',hr];refine zDP rfl (by omega) ?_
    simp only [pwA,seval,-iQ0]
    by_cases hz:isZ P[i]
    · simp only [pwA,seval,-iQ0,hz,wi]
      exact⟨_,by omega,i+1,_,by omega,rfl,rfl,by omega⟩
    simp only [pwA,seval,-iQ0,hz,r0,r1,hltP,hltP',hr,hlt,hlt',gx];refine qN (by first | omega | (simp only [List.length_append,List.length_cons,List.length_nil];omega)) ?_
    simp only [pwA,seval,-iQ0,hz,r0,r1,hltP,hltP',hr,hlt,hlt',gx];refine zAX (by omega) fun d1 hd1=>?_
    simp only [pwA,seval,-iQ0,r0,r1,hltP,hltP',hr,hlt,hlt',gx];refine qN (by first | omega | (simp only [List.length_append,List.length_cons,List.length_nil];omega)) ?_
    simp only [pwA,seval,-iQ0,r0,r1,hltP,hltP',hr,hlt,hlt',gx,wi];refine qN (by first | omega | (simp only [List.length_append,List.length_cons,List.length_nil];omega)) ?_
    simp only [pwA,seval,-iQ0,r0,r1,hltP,hltP',hr,hlt,hlt',gx,wi];refine dec ob fun d2 hd2=>?_
    simp only [pwA,seval,-iQ0,r0,r1,hltP,hltP',hr,hlt,hlt',gx,wi];refine qN (by first | omega | (simp only [List.length_append,List.length_cons,List.length_nil];omega)) ?_
    simp only [pwA,seval,-iQ0,r0,r1,hltP,hltP',hr,hlt,hlt',gx,wi];refine qN (by first | omega | (simp only [List.length_append,List.length_cons,List.length_nil];omega)) ?_
    simp only [pwA,seval,-iQ0,r0,r1,hltP,hltP',hr,hlt,hlt',gx,wi];refine zD9 ⟨w4,a4,rfl⟩ (by omega) pe fun u wd hu hwd=>?_
    obtain⟨w5,a5,rfl⟩:=hu;simp only [pwA,seval,-iQ0,r0,r1,hltP,hltP',hr,hlt,hlt',gx,wi];refine zEA (by omega) fun d3 hd3=>?_
    simp only [pwA,seval,-iQ0,r0,r1,hltP,hltP',hr,hlt,hlt',gx,wi];refine qN (by first | omega | (simp only [List.length_append,List.length_cons,List.length_nil];omega)) ?_
    simp only [pwA,seval,-iQ0,r0,r1,hltP,hltP',hr,hlt,hlt',gx,wi];exact⟨_,by omega,i+1,_,by omega,rfl,rfl,by simp only [List.length_append,List.length_cons,List.length_nil];omega⟩
  refine zF (fun m vs h'=>∃(i:Nat) (q:List UInt8),i≤O.length∧m=O.length-i∧vs=[.ptr σ.next 0,.int .i64 O.length,.str q,.int .i64 i]∧q.length≤420+420*i∧h'=h) O.length ?_ ?_
  · exact⟨0,q,Nat.zero_le _,rfl,rfl,by omega,rfl⟩
  clear hq hge hi
  rintro m vs h ⟨i,q,hi,rfl,rfl,hq,rfl⟩
  simp only [pwA,seval,-iQ0];refine iteI (fun hlt=>?_) fun hge=>?_
  rotate_left
  · exact fin
  have hlt':(i:Int)<(O.length:Int):=by omega
  have hltC:i<C.length:=by omega
  have hltC':(i:Int)<(C.length:Int):=by omega
  have wi:=wrapS hlt (by omega:O.length≤4611686018427387904)
  obtain⟨w4,a4,rs4,hr,hrs⟩:=hrC.rowL hltC;have cl:=CL i hltC;simp only [pwA,seval,-iQ0,wi];refine zF (fun m vs h'=>∃(j:Nat) (q:List UInt8),i+1≤j∧j≤O.length∧m=O.length-j∧vs=[.ptr σ.next 0,.int .i64 O.length,.str q,.int .i64 i,.int .i64 j]∧q.length≤420+420*i+60*j∧h'=h) (O.length-(i+1)) ?_ ?_
  · exact⟨i+1,q,Nat.le_refl _,by omega,rfl,rfl,by omega,rfl⟩
  clear hq
  rintro m vs h ⟨j,q,hij,hj,rfl,rfl,hq,rfl⟩
  simp only [pwA,seval,-iQ0];refine iteI (fun hjt=>?_) fun hge=>?_
  rotate_left
  · simp only [pwA,seval,-iQ0,wi]
    exact⟨_,by omega,i+1,q,by omega,rfl,rfl,by omega⟩
  have hk1:j-i-1<C[i].length:=by omega
  have hk1':((j-i-1:Nat):Int)<(C[i].length:Int):=by omega
  have wj:=wrapS hjt (by omega:O.length≤4611686018427387904)
  have wk:IntKind.i64.wrap ((j:Int)-(i:Int))=(j:Int)-(i:Int):=wrap64 (by omega) (by omega)
  have wk1:IntKind.i64.wrap ((j:Int)-(i:Int)-1)=((j-i-1:Nat):Int):=by rw [wrap64 (by omega) (by omega)];omega
  obtain⟨w6,a6,hr6⟩:=hrs.rowI hk1;obtain⟨pl,pe⟩:=CR i hltC _ hk1;simp only [pwA,seval,-iQ0,r2,hltC,hltC',hr,wk,wk1,hk1,hk1',hr6];refine zDO (by omega) hjt fun wu hu=>?_
  obtain⟨w7,a7,rfl⟩:=hu;simp only [pwA,seval,-iQ0,r2,hltC,hltC',hr,wk,wk1,hk1,hk1',hr6];refine Zk rfl rfl (by omega) ?_
  by_cases hz:C[i][j-i-1]=unitL O.length j
  · simp only [pwA,seval,-iQ0,hz,wj]
    exact⟨_,by omega,j+1,q,by omega,by omega,rfl,rfl,by omega⟩
  simp only [pwA,seval,-iQ0,hz,r2,hltC,hltC',hr,wk,wk1,hk1,hk1',hr6,wj];refine qN (by first | omega | (simp only [List.length_append,List.length_cons,List.length_nil];omega)) ?_
  simp only [pwA,seval,-iQ0,hz,r2,hltC,hltC',hr,wk,wk1,hk1,hk1',hr6,wj];refine zAX (by omega) fun d1 hd1=>?_
  simp only [pwA,seval,-iQ0,hz,r2,hltC,hltC',hr,wk,wk1,hk1,hk1',hr6,wj];refine qN (by first | omega | (simp only [List.length_append,List.length_cons,List.length_nil];omega)) ?_
  simp only [pwA,seval,-iQ0,hz,r2,hltC,hltC',hr,wk,wk1,hk1,hk1',hr6,wj];refine qN (by first | omega | (simp only [List.length_append,List.length_cons,List.length_nil];omega)) ?_
  simp only [pwA,seval,-iQ0,hz,r2,hltC,hltC',hr,wk,wk1,hk1,hk1',hr6,wj];refine zAX (by omega) fun d2 hd2=>?_
  simp only [pwA,seval,-iQ0,hz,r2,hltC,hltC',hr,wk,wk1,hk1,hk1',hr6,wj];refine qN (by first | omega | (simp only [List.length_append,List.length_cons,List.length_nil];omega)) ?_
  simp only [pwA,seval,-iQ0,hz,r2,hltC,hltC',hr,wk,wk1,hk1,hk1',hr6,wj];refine qN (by first | omega | (simp only [List.length_append,List.length_cons,List.length_nil];omega)) ?_
  simp only [pwA,seval,-iQ0,hz,r2,hltC,hltC',hr,wk,wk1,hk1,hk1',hr6,wj];refine zD9 ⟨w6,a6,rfl⟩ (by omega) pe fun u wd hu hwd=>?_
  obtain⟨w5,a5,rfl⟩:=hu;simp only [pwA,seval,-iQ0,hz,r2,hltC,hltC',hr,wk,wk1,hk1,hk1',hr6,wj];refine zEA (by omega) fun d3 hd3=>?_
  simp only [pwA,seval,-iQ0,hz,r2,hltC,hltC',hr,wk,wk1,hk1,hk1',hr6,wj];refine qN (by first | omega | (simp only [List.length_append,List.length_cons,List.length_nil];omega)) ?_
  simp only [pwA,seval,-iQ0,hz,r2,hltC,hltC',hr,wk,wk1,hk1,hk1',hr6,wj];exact⟨_,by omega,j+1,_,by omega,by omega,rfl,rfl,by simp only [List.length_append,List.length_cons,List.length_nil];omega⟩
end Go.Proofs
namespace Go.Grp
end Go.Grp
namespace Go.Proofs
open Go.Ab Go.Lie Go.Grp
variable {σ σ0 h h':PHeap} {K:PV→PHeap→Prop} {b k nP nC r s0 i j n:Nat} {v vO vP vC c vX vS vL vM:PV} {x O xs bs:List Int} {P M:List (List Int)} {C:List (List (List Int))} {cs:List PV} {s t:List UInt8}
theorem zFE {cap:Cap} (ho:σ.obj s0=some (pis O)) (hO:O.length≤6) (hp:∀a∈O,isP a) (hk:∀r:Int,K (.int .i64 r) σ):zA Tryz.prog 36 [.sl s0 0 O.length cap] σ K:=by
 refine zC mix Tryz.func36 ?_
 conv=>arg 2;cbv
 refine zD rfl ?_;simp only [pwA,seval,-iQ0];refine zF (fun m vs h=>∃(i:Nat) (y:Int),i≤O.length∧m=O.length-i∧vs=[.sl s0 0 O.length cap,.int .i64 y,.int .i64 i]∧1≤y∧y≤729000∧h=σ) O.length ?_ ?_
 ·exact⟨0,1,Nat.zero_le _,rfl,rfl,by decide,by decide,rfl⟩
 rintro m vs h ⟨i,y,hi,rfl,rfl,y0,y1,rfl⟩
 simp only [pwA,seval,-iQ0];refine iteI (fun hlt=>?_) fun hge=>?_
 rotate_left
 ·exact hk y
 have hlt':(i:Int)<(O.length:Int):=by omega
 have ob:=(hp _ (List.getElem_mem hlt)).b1;have rd:h.rd1 s0 i=some (.int .i64 O[i]):=by rw [zH ho,zL,gi hlt];rfl
 have wi:=wrapS hlt (by omega:O.length≤4611686018427387904)
 refine iteI (fun h7=>?_) fun h7=>?_
 rotate_left
 ·simp only [pwA,seval,-iQ0,wi]
  exact⟨_,by omega,i+1,y,by omega,rfl,rfl,y0,y1⟩
 have m0:1≤y*O[i]:=by have:=Int.mul_le_mul y0 ob.1 (by decide) (by omega);omega
 have m1:y*O[i]≤729000:=by have:=Int.mul_le_mul h7 ob.2 (by omega) (by decide:(0:Int)≤729);omega
 have wm:IntKind.i64.wrap (y*O[i])=y*O[i]:=wrap64 (by omega) (by omega)
 simp only [pwA,seval,-iQ0,hlt,hlt',rd,wi,wm];exact⟨_,by omega,i+1,_,by omega,rfl,rfl,m0,m1⟩
theorem PSl.fin_tf {t:Bool} (kk:Keep σ h) (pa:PSl σ.next 1 h v x.length (pis x)) (hk:∀u,FI u x→K (.tup [u,.bool t]) σ):Gh σ K (.tup [v,.bool t]) h:=by
 obtain⟨s,cap,rfl,q1,q2,q3,q4,q5⟩:=pa;have e:(TR.tup [TR.row s cap x,.leaf (.bool t)]).pv=.tup [.sl s 0 x.length cap,.bool t]:=by simp only [TR.pv,TR.pvs,TR.row_pv]
 rw [←e];refine Gh.treeF kk (qy ⟨TR.row_ok q1 q2 q4 q5,trivial,trivial⟩) fun a=>?_
 have:=hk ((TR.row s cap x).fz a) TR.row_FI
 simpa only [TR.fz,TR.fzs]using this
theorem zIv (kk:Keep σ h) (hk:∀u,FI u []→K (.tup [u,.bool false]) σ):Gh σ K (.tup [.fz true .nils 0 [],.bool false]) h:=by
 have e:(TR.tup [TR.nil,.leaf (.bool false)]).pv=.tup [.fz true .nils 0 [],.bool false]:=by simp only [TR.pv,TR.pvs]
 rw [←e];refine Gh.treeF kk ⟨trivial,trivial,trivial⟩ fun a=>?_
 have:=hk (.fz true .nils 0 []) ⟨true,.nils,rfl⟩
 simpa only [TR.fz,TR.fzs]using this
theorem zGS (hs:s.length≤500) (hk:∀v O t,FI v O→O.length≤6→(∀a∈O,isP a)→K (.tup [v,.bool t]) σ):zA Tryz.prog 245 [.str s] σ K:=by
 have nil:∀{h:PHeap},Keep σ h→Gh σ K (.tup [.fz true .nils 0 [],.bool false]) h:=fun {h} kk=>zIv kk fun u hu=>hk u [] false hu (by decide) fun a ha=>by cases ha
 refine zA.gh ?_;refine zC mix Tryz.func245 ?_
 conv=>arg 2;cbv
 refine zD rfl ?_;simp only [pwA,seval,-iQ0];refine iteI (fun h1=>?_) fun h1=>?_
 ·simp only [pwA,seval,-iQ0]
  exact PSl.fin_tf (x:=[]) (zB _ _) (PSl.new _ 1 rfl (Nat.le_refl _)) fun u hu=>hk u [] true hu (by decide) fun a ha=>by cases ha
 simp only [pwA,seval,-iQ0];refine zAY (s:=s) (by omega) fun a n cells hn1 hn2 hcl hst=>?_
 simp only [pwA,seval,-iQ0];refine zF (fun m vs h=>∃(i:Nat) (v:PV) (O:List Int),i≤n∧m=n-i∧vs=[v,.fz true a n cells,.int .i64 i]∧O.length=i∧i≤6∧(∀a∈O,isP a)∧Keep σ h∧PSl σ.next 1 h v O.length (pis O)) n ?_ ?_
 ·exact⟨0,_,[],Nat.zero_le _,rfl,rfl,rfl,Nat.zero_le _,fun a ha=>(by cases ha),zB _ _,PSl.new _ 1 rfl (Nat.le_refl _)⟩
 rintro m vs h ⟨i,v,O,hi,rfl,rfl,hOl,hi6,hO,kk,pa⟩
 have h1:=pa.one;simp only [pwA,seval,-iQ0,h1];refine iteI (fun hlt=>?_) fun hge=>?_
 rotate_left
 ·have pa0:=pa
  obtain⟨sO,cap,rfl,q1,q2,q3,q4,q5⟩:=pa0;refine zFE q2 (by omega) hO fun r=>?_
  simp only [pwA,seval,-iQ0];exact PSl.fin_tf kk pa fun u hu=>hk u O _ hu (by omega) hO
 have hlt':(i:Int)<(n:Int):=by omega
 obtain⟨q,eq_,hq⟩:=hst _ (List.getElem_mem (by omega:i<cells.length))
 have gc:cells[i]? = some (.str q):=by rw [List.getElem?_eq_getElem (by omega),eq_]
 simp only [pwA,seval,-iQ0,hlt,hlt',gc];refine zHh (by omega) fun y hy=>?_
 have wi:=wrapS hlt (by omega:n≤4611686018427387904)
 simp only [pwA,seval,-iQ0];refine zAZ ?_
 by_cases hp:isP y
 rotate_left
 ·simp only [pwA,seval,-iQ0,hp]
  exact nil kk
 by_cases h6:6≤i
 ·have h6':(6:Int)≤(i:Int):=by omega
  simp only [pwA,seval,-iQ0,hp,h6,h6'];exact nil kk
 have h6':¬(6:Int)≤(i:Int):=by omega
 simp only [pwA,seval,-iQ0,hp,h6,h6',h1];refine PSl.push (σb:=σ) (bytes:=8) kk pa (by omega) (by omega) fun v2 h2 k2 a2=>?_
 have h3:=a2.one;simp only [pwA,seval,-iQ0,h3,wi];have e:pis (O++[y])=pis O++[.int .i64 y]:=by simp [pis]
 refine⟨_,by omega,i+1,v2,O++[y],by omega,rfl,rfl,by rw [List.length_append,hOl];rfl,by omega,fun a ha=>?_,k2,by rw [e,List.length_append];exact a2⟩
 rcases List.mem_append.1 ha with ha|ha
 ·exact hO a ha
 ·rw [List.mem_singleton.1 ha];exact hp
theorem zHg {n:Nat} (hn:n≤6) (hs:s.length≤500) (hk:∀v xs t,FI v xs→(∀x∈xs,-6≤x∧x≤(n:Int)∧x≠0)→xs.length≤s.length→K (.tup [v,.bool t]) σ):zA Tryz.prog 252 [.int .i64 n,.str s] σ K:=by
 have nil:∀{h:PHeap},Keep σ h→Gh σ K (.tup [.fz true .nils 0 [],.bool false]) h:=fun {h} kk=>zIv kk fun u hu=>hk u [] false hu (fun a ha=>by cases ha) (Nat.zero_le _)
 refine zA.gh ?_;refine zC mix Tryz.func252 ?_
 conv=>arg 2;cbv
 refine zD rfl ?_;simp only [pwA,seval,-iQ0];refine iteI (fun h1=>?_) fun h1=>?_
 ·simp only [pwA,seval,-iQ0]
  exact PSl.fin_tf (x:=[]) (zB _ _) (PSl.new _ 1 rfl (Nat.le_refl _)) fun u hu=>hk u [] true hu (fun a ha=>by cases ha) (Nat.zero_le _)
 simp only [pwA,seval,-iQ0];refine zF (fun m vs h=>∃(i:Nat) (v:PV) (xs:List Int),i≤s.length∧m=s.length-i∧vs=[.int .i64 n,.str s,v,.int .i64 i]∧xs.length=i∧(∀x∈xs,-6≤x∧x≤(n:Int)∧x≠0)∧Keep σ h∧PSl σ.next 1 h v xs.length (pis xs)) s.length ?_ ?_
 ·exact⟨0,_,[],Nat.zero_le _,rfl,rfl,rfl,fun a ha=>(by cases ha),zB _ _,PSl.new _ 1 rfl (Nat.le_refl _)⟩
 rintro m vs h ⟨i,v,xs,hi,rfl,rfl,hxl,hx,kk,pa⟩
 have h1:=pa.one;simp only [pwA,seval,-iQ0,h1];refine iteI (fun hlt=>?_) fun hge=>?_
 rotate_left
 ·have hl:pLen v=some (.int .i64 xs.length):=by obtain⟨s',cap,rfl,_⟩:=pa;rfl
  simp only [pwA,seval,-iQ0,h1,hl];exact PSl.fin_tf kk pa fun u hu=>hk u xs _ hu hx (by omega)
 have gs:s[i]? = some s[i]:=List.getElem?_eq_getElem hlt;have c0:(s[i].toNat:Int)<256:=by have:=s[i].toNat_lt;omega
 have c1:(0:Int)≤(s[i].toNat:Int):=by omega
 have wi:=wrapS hlt (by omega:s.length≤4611686018427387904)
 have q0:IntKind.i64.wrap (s[i].toNat:Int)=(s[i].toNat:Int):=wrap64 (by omega) (by omega)
 have q1:IntKind.i64.wrap ((s[i].toNat:Int)-97)=(s[i].toNat:Int)-97:=wrap64 (by omega) (by omega)
 have q2:IntKind.i64.wrap ((s[i].toNat:Int)-97+1)=(s[i].toNat:Int)-97+1:=wrap64 (by omega) (by omega)
 have q3:IntKind.i64.wrap ((s[i].toNat:Int)-65)=(s[i].toNat:Int)-65:=wrap64 (by omega) (by omega)
 have q4:IntKind.i64.wrap ((s[i].toNat:Int)-65+1)=(s[i].toNat:Int)-65+1:=wrap64 (by omega) (by omega)
 have q5:IntKind.i64.wrap (0-((s[i].toNat:Int)-65+1))=-((s[i].toNat:Int)-65+1):=by rw [wrap64 (by omega) (by omega)];omega
 simp only [pwA,seval,-iQ0,gs,q0,q1,q2,q3,q4,h1];refine zBD ?_;have put:∀{y:Int},(-6≤y∧y≤(n:Int)∧y≠0)→∀a∈xs++[y],-6≤a∧a≤(n:Int)∧a≠0:=fun {y} hy a ha=>by
  rcases List.mem_append.1 ha with ha|ha
  ·exact hx a ha
  ·rw [List.mem_singleton.1 ha];exact hy
 have e:∀y:Int,pis (xs++[y])=pis xs++[.int .i64 y]:=fun y=>by simp [pis]
 have el:∀y:Int,(xs++[y]).length=xs.length+1:=fun y=>by simp
 by_cases c2:1≤(s[i].toNat:Int)-97+1∧(s[i].toNat:Int)-97+1≤(n:Int)
 ·simp only [pwA,seval,-iQ0,c2,h1]
  refine PSl.push (σb:=σ) (bytes:=8) kk pa (by omega) (by omega) fun v2 h2 k2 a2=>?_
  have h3:=a2.one;simp only [pwA,seval,-iQ0,h3,wi];exact⟨_,by omega,i+1,v2,xs++[(s[i].toNat:Int)-97+1],by omega,rfl,rfl,by rw [el,hxl],put (by omega),k2,by rw [e,el];exact a2⟩
 simp only [pwA,seval,-iQ0,c2,h1];refine zBD ?_
 by_cases c3:1≤(s[i].toNat:Int)-65+1∧(s[i].toNat:Int)-65+1≤(n:Int)
 ·simp only [pwA,seval,-iQ0,c3,h1,q5]
  refine PSl.push (σb:=σ) (bytes:=8) kk pa (by omega) (by omega) fun v2 h2 k2 a2=>?_
  have h3:=a2.one;simp only [pwA,seval,-iQ0,h3,wi];exact⟨_,by omega,i+1,v2,xs++[-((s[i].toNat:Int)-65+1)],by omega,rfl,rfl,by rw [el,hxl],put (by omega),k2,by rw [e,el];exact a2⟩
 simp only [pwA,seval,-iQ0,c3,h1];exact nil kk
end Go.Proofs
namespace Go.Grp
end Go.Grp
namespace Go.Proofs
open Go.Ab Go.Lie Go.Grp
variable {σ σ0 h h':PHeap} {K:PV→PHeap→Prop} {b k nP nC r s0 i j n:Nat} {L L':Nat→Nat} {Q Q':Nat→Prop} {len:Nat→Nat} {v vO vP vC c vX vS vL vM:PV} {x O xs bs:List Int} {P M:List (List Int)} {C:List (List (List Int))} {cs:List PV} {s t:List UInt8}
theorem zGQ {n:Nat} (hn:n≤6) (hv:FI v x) (hx:∀a∈x,-6≤a∧a≤(n:Int)∧a≠0) (hl:x.length≤1000) (hk0:∀h,Keep σ h→K (.tup [.fz true .nils 0 [],.bool false]) h) (hk1:∀ys,ys.length=n→K (.tup [.sl σ.next 0 n (.known n),.bool true]) (σ.new (pis ys))):zA Tryz.prog 253 [.int .i64 n,v] σ K:=by
 obtain⟨w,a,rfl⟩:=hv;refine zC mix Tryz.func253 ?_
 conv=>arg 2;cbv
 refine zD rfl ?_;simp only [pwA,seval,-iQ0,zf,mk8 (n:=n) (by omega),Go.Ab.mkL (n:=n) (by omega)]
 refine zF (fun m vs h=>∃(i:Nat) (ys:List Int),i≤x.length∧m=x.length-i∧vs=[.fz w a x.length (pis x),.sl σ.next 0 n (.known n),.int .i64 i]∧ys.length=n∧(∀y∈ys,0≤y∧y≤(i:Int))∧h=σ.new (pis ys)) x.length ?_ ?_
 ·exact⟨0,List.replicate n 0,Nat.zero_le _,rfl,rfl,by simp,fun y hy=>by rw [(List.mem_replicate.1 hy).2];exact⟨Int.le_refl _,Int.le_refl _⟩,rfl⟩
 rintro m vs h ⟨i,ys,hi,rfl,rfl,hyl,hy,rfl⟩
 simp only [pwA,seval,-iQ0];refine iteI (fun hlt=>?_) fun hge=>?_
 rotate_left
 ·exact hk1 ys hyl
 have hlt':(i:Int)<(x.length:Int):=by omega
 have gx:(pis x)[i]? = some (.int .i64 x[i]):=by rw [zL,gi hlt];rfl
 have xb:=hx _ (List.getElem_mem hlt);have wi:=wrapS hlt (by omega:x.length≤4611686018427387904)
 simp only [pwA,seval,-iQ0,hlt,hlt',gx];refine iteI (fun hneg=>?_) fun hpos=>?_
 ·exact hk0 _ (zB _ _)
 obtain⟨j,hj⟩:∃j:Nat,x[i]=(j:Int)+1:=⟨(x[i] - 1).toNat,by omega⟩
 have hjn:j<n:=by omega
 have hjn':(j:Int)<(n:Int):=by omega
 have hjy:j<ys.length:=by omega
 rw [hj]at gx
 have w1:IntKind.i64.wrap ((j:Int)+1-1)=(j:Int):=by rw [wrap64 (by omega) (by omega)];omega
 have yb:=hy _ (List.getElem_mem hjy);have w2:IntKind.i64.wrap (ys[j] + 1)=ys[j] + 1:=wrap64 (by omega) (by omega)
 have gy:(pis ys)[j]? = some (.int .i64 ys[j]):=by rw [zL,gi hjy];rfl
 have wr:(σ.new (pis ys)).wr σ.next j [.int .i64 (ys[j] + 1)]=some ((σ.new (pis ys)).set σ.next (pis (ys.set j (ys[j] + 1)))):=zBU (by rw [zG,if_pos rfl]) hjy
 have e2:(σ.new (pis ys)).set σ.next (pis (ys.set j (ys[j] + 1)))=σ.new (pis (ys.set j (ys[j] + 1))):=by
  unfold PHeap.set PHeap.new
  congr 1
  funext q
  by_cases e:q=σ.next<;>simp [e]
 have rd:(σ.new (pis ys)).rd1 σ.next j=some (.int .i64 ys[j]):=by rw [zH (by rw [zG,if_pos rfl])];exact gy
 rw [e2]at wr
 generalize hG:σ.new (pis ys)=G at *
 simp only [pwA,seval,-iQ0,hlt,hlt',gx,hj,w1,hjn,hjn',rd,w2,wr,wi];refine⟨_,by omega,i+1,ys.set j (ys[j] + 1),by omega,rfl,rfl,by rw [List.length_set];exact hyl,fun y hy'=>?_,rfl⟩
 rcases List.mem_or_eq_of_mem_set hy' with hy' | rfl
 ·have:=hy y hy';omega
 ·omega
theorem PW.fin2b {e:Bool} (a:PW L b h Q O nP nC len vO vP vC) (hk:Keep σ h) (hb:σ.next≤b) (k:∀wO wP wC P C,IsPr wO wP wC O P C→PQ3 Q P C nP nC len→K (.tup [.agg [wO,wP,wC],.bool e]) σ):Gh σ K (.tup [.agg [vO,vP,vC],.bool e]) h:=by
 obtain⟨t1,a1,rfl,a3⟩:=a.hO.tree;obtain⟨t2,P,⟨b1,rfl,b3⟩,b4⟩:=a.hP.tree;obtain⟨t3,C,⟨c1,rfl,c3⟩,c4,c5,c6⟩:=a.hC.tree;have et:(TR.tup [TR.agg [t1,t2,t3],.leaf (.bool e)]).pv=.tup [.agg [t1.pv,t2.pv,t3.pv],.bool e]:=by simp only [TR.pv,TR.pvs]
 rw [←et];refine Gh.treeF hk (zAg (b:=b) hb ⟨⟨qy a1,qy b1,qy c1,trivial⟩,trivial,trivial⟩) fun aa=>?_
 have:=k (t1.fz aa) (t2.fz aa) (t3.fz aa) P C ⟨a3 aa,(b3 aa).1,c3 aa⟩ ⟨b4,c4,(b3 aa).2,c5,c6⟩
 simpa only [TR.fz,TR.fzs]using this
set_option maxHeartbeats 1600000 in
theorem zET (hR:IsPr vO vP vC O P C) (hO:O.length≤6) (hp:∀a∈O,isP a) (hq:PQ3 (fun m=>m=O.length) P C O.length O.length (fun i=>O.length-1-i)) (hs:s.length≤500)
  (hk:∀wO wP wC P' C' t,IsPr wO wP wC O P' C'→PQ3 (fun m=>m=O.length) P' C' O.length O.length (fun i=>O.length-1-i)→K (.tup [.agg [wO,wP,wC],.bool t]) σ):zA Tryz.prog 246 [.agg [vO,vP,vC],.str s] σ K:=by
 have g0:=hR.O.one;have g1:=hR.P.one;have g2:=hR.C.one;have hR0:=hR;have bad:∀{h:PHeap},Keep σ h→Gh σ K (.tup [.agg [vO,vP,vC],.bool false]) h:=fun {h} kk=>Gh.fin0 kk ⟨⟨hR.O.bel _,hR.P.bel _,hR.C.bel _,trivial⟩,trivial,trivial⟩ (hk _ _ _ P C false hR hq)
 obtain⟨⟨wO,aO,rfl⟩,hRP,hRC⟩:=hR;refine zA.gh ?_;refine zC mix Tryz.func246 ?_
 conv=>arg 2;cbv
 refine zD rfl ?_;simp only [pwA,seval,-iQ0,g0,g1,g2];generalize hH:(σ.new [PV.fz wO aO O.length (pis O),vP,vC]).new [PV.fz true AV.nils 0 [],PV.fz true AV.nils 0 [],PV.fz true AV.nils 0 []]=H;have hHn:H.next=σ.next+2:=by rw [←hH];rfl
 have kH:Keep σ H:=by rw [←hH];exact(zB _ _).new _
 have obx:H.obj σ.next=some [PV.fz wO aO O.length (pis O),vP,vC]:=by rw [←hH];simp only [pwA,seval,-iQ0]
 have obr:H.obj (σ.next+1)=some [PV.fz true AV.nils 0 [],PV.fz true AV.nils 0 [],PV.fz true AV.nils 0 []]:=by rw [←hH];simp only [pwA,seval,-iQ0]
 clear hH;have fin0:∀{g:PHeap},Keep H g→g.rd σ.next 0 3=some [PV.fz wO aO O.length (pis O),vP,vC]∧g.wr (σ.next+1) 0 [PV.fz wO aO O.length (pis O),vP,vC]=some (g.set (σ.next+1) [PV.fz wO aO O.length (pis O),vP,vC])∧(g.set (σ.next+1) [PV.fz wO aO O.length (pis O),vP,vC]).rd (σ.next+1) 0 3=some [PV.fz wO aO O.length (pis O),vP,vC]∧Gh σ K (.tup [.agg [PV.fz wO aO O.length (pis O),vP,vC],.bool false]) (g.set (σ.next+1) [PV.fz wO aO O.length (pis O),vP,vC]):=fun {g} kg=>by
  refine⟨by rw [zT (by rw [kg.obj _ (by omega)];exact obx)];rfl,by rw [zR (by rw [kg.obj _ (by omega)];exact obr),if_pos ⟨by simp,by simp [g0,g1,g2]⟩];rfl,by rw [qJ,if_pos rfl];rfl,bad ((kH.trans kg).set (by omega) _)⟩
 obtain⟨e1,e2,e3,e4⟩:=fin0 (Keep.refl H);refine zAY (s:=s) (by omega) fun a n cells hn1 hn2 hcl hst=>?_
 by_cases h2:n=2
 rotate_left
 ·have d2:¬((n:Nat):Int)=2:=by omega
  simp only [pwA,seval,-iQ0,d2,g0,g1,g2,e1,e2,e3];exact e4
 subst h2;obtain⟨p0,hp0,hp0l⟩:=hst _ (List.getElem_mem (by omega:0<cells.length))
 obtain⟨p1,hp1,hp1l⟩:=hst _ (List.getElem_mem (by omega:1<cells.length))
 have c0:cells[0]? = some (.str p0):=by rw [List.getElem?_eq_getElem (by omega),hp0]
 have c1:cells[1]? = some (.str p1):=by rw [List.getElem?_eq_getElem (by omega),hp1]
 have d2:((2:Nat):Int)=2:=rfl;have z2:(0:Int)<((2:Nat):Int):=by decide
 have z12:(1:Int)<((2:Nat):Int):=by decide
 by_cases h4:p0.length=4
 rotate_left
 ·have d4:¬((p0.length:Nat):Int)=4:=by omega
  simp only [pwA,seval,-iQ0,d2,z2,c0,d4,g0,g1,g2,e1,e2,e3];exact e4
 have d4:((p0.length:Nat):Int)=4:=by omega
 by_cases h32:p0[0].toNat=32
 rotate_left
 ·have d5:¬((p0[0].toNat:Nat):Int)=32:=by omega
  simp only [pwA,seval,-iQ0,d2,z2,c0,d4,d5,g0,g1,g2,e1,e2,e3,Int.toNat_zero,List.getElem?_eq_getElem (by omega:0<p0.length)]
  exact e4
 have d5:((p0[0].toNat:Nat):Int)=32:=by omega
 have n2:(2:Int).toNat=2:=rfl;have n1:(1:Int).toNat=1:=rfl;have n3:(3:Int).toNat=3:=rfl
 by_cases h94:p0[2].toNat=94
 rotate_left
 ·have d6:¬((p0[2].toNat:Nat):Int)=94:=by omega
  simp only [pwA,seval,-iQ0,d2,z2,c0,d4,d5,d6,n2,g0,g1,g2,e1,e2,e3,Int.toNat_zero,Int.toNat_one,List.getElem?_eq_getElem (by omega:0<p0.length),List.getElem?_eq_getElem (by omega:1<p0.length),List.getElem?_eq_getElem (by omega:2<p0.length),List.getElem?_eq_getElem (by omega:3<p0.length)]
  exact e4
 have d6:((p0[2].toNat:Nat):Int)=94:=by omega
 simp only [pwA,seval,-iQ0,d2,z2,z12,c0,c1,d4,d5,d6,n2,g0,g1,g2,Int.toNat_zero,Int.toNat_one,List.getElem?_eq_getElem (by omega:0<p0.length),List.getElem?_eq_getElem (by omega:1<p0.length),List.getElem?_eq_getElem (by omega:2<p0.length),List.getElem?_eq_getElem (by omega:3<p0.length)]
 refine zHg (n:=O.length) hO (s:=p1) (by omega) fun vu u t1 hu huv hul=>?_
 have hu1:=hu.one;cases t1
 ·simp only [pwA,seval,-iQ0,g0,g1,g2,e1,e2,e3,hu1]
  exact e4
 have b1:(p0[1].toNat:Int)<256:=by have:=p0[1].toNat_lt;omega
 have b3:(p0[3].toNat:Int)<256:=by have:=p0[3].toNat_lt;omega
 have q1:IntKind.i64.wrap (p0[1].toNat:Int)=(p0[1].toNat:Int):=wrap64 (by omega) (by omega)
 have q3:IntKind.i64.wrap (p0[3].toNat:Int)=(p0[3].toNat:Int):=wrap64 (by omega) (by omega)
 have q1':IntKind.i64.wrap ((p0[1].toNat:Int)-97)=(p0[1].toNat:Int)-97:=wrap64 (by omega) (by omega)
 have q3':IntKind.i64.wrap ((p0[3].toNat:Int)-97)=(p0[3].toNat:Int)-97:=wrap64 (by omega) (by omega)
 simp only [pwA,seval,-iQ0,hu1];refine zGQ (n:=O.length) hO hu huv (by omega) (fun g kg=>?_) fun ys hys=>?_
 ·obtain⟨f1,f2,f3,f4⟩:=fin0 kg
  simp only [pwA,seval,-iQ0,z2,c0,n1,n3,q1,q3,q1',q3',g0,g1,g2,f1,f2,f3,Int.toNat_zero,Int.toNat_one,List.getElem?_eq_getElem (by omega:0<p0.length),List.getElem?_eq_getElem (by omega:1<p0.length),List.getElem?_eq_getElem (by omega:2<p0.length),List.getElem?_eq_getElem (by omega:3<p0.length)]
  exact f4
 have kg:=zB H (pis ys);have hH1n:(H.new (pis ys)).next=H.next+1:=rfl;have obv:(H.new (pis ys)).obj H.next=some (pis ys):=by rw [zG,if_pos rfl]
 have obx1:(H.new (pis ys)).obj σ.next=some [PV.fz wO aO O.length (pis O),vP,vC]:=by rw [zG,if_neg (by omega)];exact obx
 have obr1:(H.new (pis ys)).obj (σ.next+1)=some [PV.fz true AV.nils 0 [],PV.fz true AV.nils 0 [],PV.fz true AV.nils 0 []]:=by rw [zG,if_neg (by omega)];exact obr
 generalize H.new (pis ys)=H1 at *
 obtain⟨f1,f2,f3,f4⟩:=fin0 kg
 by_cases j0:(p0[1].toNat:Int)-97<0
 ·simp only [pwA,seval,-iQ0,z2,c0,n1,n3,q1,q3,q1',q3',j0,g0,g1,g2,f1,f2,f3,Int.toNat_zero,Int.toNat_one,List.getElem?_eq_getElem (by omega:0<p0.length),List.getElem?_eq_getElem (by omega:1<p0.length),List.getElem?_eq_getElem (by omega:2<p0.length),List.getElem?_eq_getElem (by omega:3<p0.length)]
  exact f4
 by_cases j1:(O.length:Int)≤(p0[1].toNat:Int)-97
 ·simp only [pwA,seval,-iQ0,z2,c0,n1,n3,q1,q3,q1',q3',j0,j1,g0,g1,g2,f1,f2,f3,Int.toNat_zero,Int.toNat_one,List.getElem?_eq_getElem (by omega:0<p0.length),List.getElem?_eq_getElem (by omega:1<p0.length),List.getElem?_eq_getElem (by omega:2<p0.length),List.getElem?_eq_getElem (by omega:3<p0.length)]
  exact f4
 simp only [pwA,seval,-iQ0,z2,c0,n1,n3,q1,q3,q1',q3',j0,j1,g0,g1,g2,f1,Int.toNat_zero,Int.toNat_one,List.getElem?_eq_getElem (by omega:0<p0.length),List.getElem?_eq_getElem (by omega:1<p0.length),List.getElem?_eq_getElem (by omega:2<p0.length),List.getElem?_eq_getElem (by omega:3<p0.length)]
 obtain⟨j,hj⟩:∃j:Nat,(p0[1].toNat:Int)-97=j:=⟨((p0[1].toNat:Int)-97).toNat,by omega⟩
 rw [hj]at j0 j1 ⊢
 have hjn:j<O.length:=by omega
 have hjn':(j:Int)<(O.length:Int):=by omega
 refine zCo (Q:=fun m=>m=O.length) hR0 (by omega) (by rw [hq.pl];omega) (by rw [hq.cl];omega) (fun q hq'=>?_) (fun r hr=>hq.pq r hr) (fun q hq' r hr=>hq.cq q hq' r hr) (fun m hm=>by omega) fun L h uO uP uC k1 p1=>?_
 ·obtain⟨i,hi,rfl⟩:=List.mem_iff_getElem.1 hq'
  have:=hq.row i (by rw [←hq.cl];exact hi)
  rw [List.getD_eq_getElem?_getD,List.getElem?_eq_getElem hi]at this
  have e:C[i].length=O.length-1-i:=this;omega
 have hn1':=k1.next;rw [hq.pl,hq.cl]at p1
 have p2:=(p1.lenE hq.row).mark (b':=H.next) (L':=mkM L H.next 1) (by omega) fun t ht=>by unfold mkM;rw [if_neg (by omega)]
 have a:=TB.start p2 (r:=σ.next+1) (by omega) (by rw [k1.obj _ (by omega)];exact obr1) (by omega)
 have hv:RowAt (mkM (mkM L H.next 1) h.next 7) (h.new [uO,uP,uC]) H.next (fun m=>m=O.length) (.sl H.next 0 O.length (.known O.length)):=by
  refine⟨ys,hys,H.next,.known O.length,by rw [hys],.inr (by rw [hys]),by rw [zG,if_neg (by omega),k1.obj _ (by omega)];exact obv,Nat.le_refl _,by show H.next<h.next+1;omega,?_⟩
  unfold mkM;rw [if_neg (by omega),if_pos rfl]
 have k2:Keep H1 (h.new [uO,uP,uC]):=k1.new _;simp only [pwA,seval,-iQ0,p2.hO.one,p2.hP.one,p2.hC.one];generalize h.next=sl at *
 generalize h.new [uO,uP,uC]=g at *
 clear p1 p2 k1;have ob:=hp _ (List.getElem_mem hjn);have ob7:=ob.b1;have gx:(pis O)[j]? = some (.int .i64 O[j]):=by rw [zL,gi hjn];rfl
 have rx:g.rd1 σ.next 0=some (.fz wO aO O.length (pis O)):=by rw [zH (by rw [k2.obj _ (by omega)];exact obx1)];rfl
 have fin:∀{g:PHeap} {L':Nat→Nat} {t:Bool},Keep H g→TB H.next g (fun m=>m=O.length) O L' O.length O.length (fun i=>O.length-1-i) (σ.next+1) sl uO uP uC→
   g.wr (σ.next+1) 0 [uO,uP,uC]=some (g.set (σ.next+1) [uO,uP,uC])∧(g.set (σ.next+1) [uO,uP,uC]).rd (σ.next+1) 0 3=some [uO,uP,uC]∧Gh σ K (.tup [.agg [uO,uP,uC],.bool t]) (g.set (σ.next+1) [uO,uP,uC]):=fun {g L' t} kg' a=>by
  obtain⟨e1,e2,e3⟩:=a.fin;exact⟨e1,e2,e3.fin2b ((kH.trans kg').set (by omega) _) (by omega) fun wO wP wC P C r1 r2=>hk wO wP wC P C t r1 r2⟩
 have l3:(3:Int)≤(p0.length:Int):=by omega
 have l3':3≤p0.length:=by omega
 have l34:(3:Int)≤((4:Nat):Int):=by decide
 simp only [pwA,seval,-iQ0,z2,c0,n3,rx,hjn,hjn',gx,l3,l3',h4,l34,Int.toNat_zero,Int.toNat_one,List.getElem?_eq_getElem (by omega:0<p0.length),List.getElem?_eq_getElem (by omega:1<p0.length),List.getElem?_eq_getElem (by omega:2<p0.length),List.getElem?_eq_getElem (by omega:3<p0.length)]
 have t10:(10:Int) ^ (5+1)=1000000:=by decide
 refine zFG (n:=O[j]) 5 ⟨by omega,by omega,by rw [t10];omega⟩ (by decide) fun d hd=>?_
 simp only [pwA,seval,-iQ0,z2,c0,n3,rx,hjn,hjn',gx,l3,l3',h4,l34,Int.toNat_zero,Int.toNat_one,List.getElem?_eq_getElem (by omega:0<p0.length),List.getElem?_eq_getElem (by omega:1<p0.length),List.getElem?_eq_getElem (by omega:2<p0.length),List.getElem?_eq_getElem (by omega:3<p0.length)]
 generalize (List.drop 3 (List.take 4 p0) == d)=bb;cases bb;rotate_left
 ·obtain⟨sP,capP,ds,rfl,w1,w2,w3,a2⟩:=a.putP hjn hv
  have k3:Keep H (g.set sP ds):=(kg.trans k2).set w1 _;obtain⟨f1,f2,f3⟩:=fin (t:=true) k3 a2;have r1:=a.r1;have r3:=a2.r3;generalize g.set sP ds=g2 at *
  simp only [pwA,seval,-iQ0,r1,hjn,hjn',w3,r3,f1,f2];exact f3
 simp only [pwA,seval,-iQ0]
 by_cases i0:(p0[3].toNat:Int)-97<0
 ·obtain⟨f1,f2,f3,f4⟩:=fin0 (kg.trans k2)
  simp only [pwA,seval,-iQ0,i0,f1,f2,f3,g0,g1,g2];exact f4
 obtain⟨i,hi⟩:∃i:Nat,(p0[3].toNat:Int)-97=i:=⟨((p0[3].toNat:Int)-97).toNat,by omega⟩
 rw [hi]at i0 ⊢
 by_cases i1:(j:Int)≤(i:Int)
 ·obtain⟨f1,f2,f3,f4⟩:=fin0 (kg.trans k2)
  simp only [pwA,seval,-iQ0,i0,i1,f1,f2,f3,g0,g1,g2];exact f4
 have hin:i<O.length:=by omega
 have hin':(i:Int)<(O.length:Int):=by omega
 have hji:j-i-1<O.length-1-i:=by omega
 have hji':((j-i-1:Nat):Int)<((O.length-1-i:Nat):Int):=by omega
 have wk:IntKind.i64.wrap ((j:Int)-(i:Int))=(j:Int)-(i:Int):=wrap64 (by omega) (by omega)
 have wk1:IntKind.i64.wrap ((j:Int)-(i:Int)-1)=((j-i-1:Nat):Int):=by rw [wrap64 (by omega) (by omega)];omega
 obtain⟨sC,capC,u',capu,ds,rfl,rC,w1,w2,w3,w4,w5,a2⟩:=a.putC hin hji hv;have k3:Keep H (g.set u' ds):=(kg.trans k2).set w3 _;obtain⟨f1,f2,f3⟩:=fin (t:=true) k3 a2;have r2:=a.r2;have r3:=a2.r3;generalize g.set u' ds=g2 at *
 simp only [pwA,seval,-iQ0,i0,i1,r2,rC,hin,hin',hji,hji',wk,wk1,w5,r3,f1,f2];exact f3
end Go.Proofs
namespace Go.Grp
end Go.Grp
namespace Go.Proofs
open Go.Ab Go.Lie Go.Grp
variable {σ σ0 h h':PHeap} {K:PV→PHeap→Prop} {b k nP nC r s0 i j n:Nat} {L L':Nat→Nat} {Q Q':Nat→Prop} {len:Nat→Nat} {v vO vP vC c vX vS vL vM:PV} {x O xs bs:List Int} {P M:List (List Int)} {C:List (List (List Int))} {cs:List PV} {s t:List UInt8}
theorem zES (hX:FI vX O) (hb:O.length≤1000) (hk:∀wO wP wC P C,IsPr wO wP wC O P C→PQ3 (fun m=>m=O.length) P C O.length O.length (fun j=>O.length-1-j)→K (.agg [wO,wP,wC]) σ):zA Tryz.prog 203 [vX] σ K:=
 zA.gh (zBN hX hb fun L h vO vP vC kk a=>a.fin kk (Nat.le_refl _) fun wO wP wC P C hR hq=>hk wO wP wC P C hR hq)
theorem Fm.sz {N:Nat} (a:Fm N O P C) (hN:N≤1000):SzP O P C:=by
 have n:=a.n;have q:=a.q;refine⟨by omega,⟨by rw [q.pl];omega,fun r hr=>by have:=q.pq r hr;omega⟩,⟨by rw [q.cl];omega,fun w hw=>⟨?_,fun r hr=>by have:=q.cq w hw r hr;omega⟩⟩⟩
 obtain⟨i,hi,rfl⟩:=List.mem_iff_getElem.1 hw
 have:=q.row i (by rw [←q.cl];exact hi)
 rw [List.getD_eq_getElem?_getD,List.getElem?_eq_getElem hi]at this
 have e:C[i].length=O.length-1-i:=this;omega
theorem zBS (hs:s.length≤500) (hk:∀e wO wP wC O P C,IsPr wO wP wC O P C→Fm 6 O P C→K (.tup [.agg [wO,wP,wC],.int .i64 e]) σ):zA Tryz.prog 240 [.str s] σ K:=by
 have nilP:=hk 6 _ _ _ [] [] [] ⟨⟨true,.nils,rfl⟩,⟨true,.nils,[],rfl,All2.nil _⟩,⟨true,.nils,[],rfl,All2.nil _⟩⟩ (Fm.nil 6);have nil:∀{h:PHeap},Keep σ h→Gh σ K (.tup [.agg [.fz true .nils 0 [],.fz true .nils 0 [],.fz true .nils 0 []],.int .i64 6]) h:=fun {h} kk=>Gh.fin0 kk ⟨⟨trivial,trivial,trivial,trivial⟩,trivial,trivial⟩ nilP
 refine zA.gh ?_;refine zC mix Tryz.func240 ?_
 conv=>arg 2;cbv
 refine zD rfl ?_;simp only [pwA,seval,-iQ0];refine zAY (s:=s) (by omega) fun a n cells hn1 hn2 hcl hst=>?_
 obtain⟨p0,hp0,hp0l⟩:=hst _ (List.getElem_mem (by omega:0<cells.length))
 have c0:cells[0]? = some (.str p0):=by rw [List.getElem?_eq_getElem (by omega),hp0]
 have z0:(0:Int)<(n:Int):=by omega
 have z0':0<n:=by omega
 simp only [pwA,seval,-iQ0,z0,z0',c0];refine zGS (s:=p0) (by omega) fun vX O t hX hO6 hOp=>?_
 have hX1:=hX.one;cases t
 ·simp only [pwA,seval,-iQ0,hX1]
  exact nil (zB _ _)
 simp only [pwA,seval,-iQ0,hX1];refine zES hX (by omega) fun wO wP wC P C hR hq=>?_
 have o1:=hR.O.one;have o2:=hR.P.one;have o3:=hR.C.one;simp only [pwA,seval,-iQ0,o1,o2,o3];have nil3:∀{h:PHeap},Keep σ h→σ.next<h.next→h.obj σ.next=some [PV.fz true AV.nils 0 [],PV.fz true AV.nils 0 [],PV.fz true AV.nils 0 []]→
   h.wr σ.next 0 [.fz true .nils 0 [],.fz true .nils 0 [],.fz true .nils 0 []]=some (h.set σ.next [.fz true .nils 0 [],.fz true .nils 0 [],.fz true .nils 0 []])∧(h.set σ.next [.fz true .nils 0 [],.fz true .nils 0 [],.fz true .nils 0 []]).rd σ.next 0 3=some [.fz true .nils 0 [],.fz true .nils 0 [],.fz true .nils 0 []]∧Gh σ K (.tup [.agg [.fz true .nils 0 [],.fz true .nils 0 [],.fz true .nils 0 []],.int .i64 6]) (h.set σ.next [.fz true .nils 0 [],.fz true .nils 0 [],.fz true .nils 0 []]):=fun {h} kh hl ho=>
  ⟨by rw [zR ho,if_pos ⟨by simp,rfl⟩];rfl,by rw [qJ,if_pos rfl];rfl,nil (kh.set (Nat.le_refl _) _)⟩
 refine zF (fun m vs h=>∃(i:Nat) (wO wP wC:PV) (P:List (List Int)) (C:List (List (List Int))),1≤i∧i≤n∧m=n-i∧vs=[.str s,.ptr σ.next 0,.fz true a n cells,.ptr (σ.next+1) 0,.int .i64 i]∧IsPr wO wP wC O P C∧PQ3 (fun m=>m=O.length) P C O.length O.length (fun j=>O.length-1-j)∧
  Keep σ h∧σ.next+1<h.next∧h.obj σ.next=some [PV.fz true AV.nils 0 [],PV.fz true AV.nils 0 [],PV.fz true AV.nils 0 []]∧h.obj (σ.next+1)=some [wO,wP,wC]) (n-1) ?_ ?_
 ·exact⟨1,wO,wP,wC,P,C,Nat.le_refl _,hn1,rfl,rfl,hR,hq,(zB _ _).new _,by show _<σ.next+2;omega,by simp only [pwA,seval,-iQ0],by simp only [pwA,seval,-iQ0]⟩
 clear hR hq o1 o2 o3
 rintro m vs h ⟨i,wO,wP,wC,P,C,hi1,hi,rfl,rfl,hR,hq,kk,hl,ob0,ob1⟩
 have o1:=hR.O.one;have o2:=hR.P.one;have o3:=hR.C.one;have r3:h.rd (σ.next+1) 0 3=some [wO,wP,wC]:=by rw [zT ob1];rfl
 have fm:Fm 6 O P C:=⟨hO6,fun a ha=>(hOp a ha).b1,hq⟩
 simp only [pwA,seval,-iQ0];refine iteI (fun hlt=>?_) fun hge=>?_
 ·have hlt':(i:Int)<(n:Int):=by omega
  obtain⟨p1,hp1,hp1l⟩:=hst _ (List.getElem_mem (by omega:i<cells.length))
  have ci:cells[i]? = some (.str p1):=by rw [List.getElem?_eq_getElem (by omega),hp1]
  have wi:=wrapS hlt (by omega:n≤4611686018427387904)
  simp only [pwA,seval,-iQ0,r3,hlt,hlt',ci];refine zET hR hO6 hOp hq (s:=p1) (by omega) fun uO uP uC P' C' t hR' hq'=>?_
  have g1:=hR'.O.one;have g2:=hR'.P.one;have g3:=hR'.C.one;have w:h.wr (σ.next+1) 0 [uO,uP,uC]=some (h.set (σ.next+1) [uO,uP,uC]):=by rw [zR ob1,if_pos ⟨by simp,by simp [g1,g2,g3]⟩];rfl
  have kk':Keep σ (h.set (σ.next+1) [uO,uP,uC]):=kk.set (by omega) _
  have hl':σ.next+1<(h.set (σ.next+1) [uO,uP,uC]).next:=hl;have ob0':(h.set (σ.next+1) [uO,uP,uC]).obj σ.next=some [PV.fz true AV.nils 0 [],PV.fz true AV.nils 0 [],PV.fz true AV.nils 0 []]:=by rw [zI,if_neg (by omega)];exact ob0
  have ob1':(h.set (σ.next+1) [uO,uP,uC]).obj (σ.next+1)=some [uO,uP,uC]:=by rw [zI,if_pos rfl]
  generalize h.set (σ.next+1) [uO,uP,uC]=g at *
  cases t
  ·obtain⟨f1,f2,f3⟩:=nil3 kk' (by omega) ob0'
   simp only [pwA,seval,-iQ0,g1,g2,g3,w,f1,f2];exact f3
  simp only [pwA,seval,-iQ0,g1,g2,g3,w,wi];exact⟨_,by omega,i+1,uO,uP,uC,P',C',by omega,by omega,rfl,rfl,hR',hq',kk',hl',ob0',ob1'⟩
 simp only [pwA,seval,-iQ0,r3];refine ZI hR (fm.sz (by decide)) fun t ht=>?_
 obtain⟨f1,f2,f3⟩:=nil3 kk (by omega) ob0
 cases t
 ·simp only [pwA,seval,-iQ0,f1,f2]
  exact f3
 simp only [pwA,seval,-iQ0,r3];refine zI6 hR (ht.1 rfl) fun q=>?_
 cases hqs:q == s
 ·have hne:¬q=s:=fun e=>by rw [e]at hqs;simp at hqs
  simp only [pwA,seval,-iQ0,hqs,f1,f2];exact f3
 have w:h.wr σ.next 0 [wO,wP,wC]=some (h.set σ.next [wO,wP,wC]):=by rw [zR ob0,if_pos ⟨by simp,by simp [o1,o2,o3]⟩];rfl
 have r:(h.set σ.next [wO,wP,wC]).rd σ.next 0 3=some [wO,wP,wC]:=by rw [qJ,if_pos rfl];rfl
 simp only [pwA,seval,-iQ0,hqs,r3,w,r,o1,o2,o3];exact Gh.fin0 (kk.set (Nat.le_refl _) _) ⟨⟨hR.O.bel _,hR.P.bel _,hR.C.bel _,trivial⟩,trivial,trivial⟩ (hk 0 wO wP wC O P C hR fm)
end Go.Proofs
namespace Go.Grp
end Go.Grp
namespace Go.Proofs
open Go.Ab Go.Lie Go.Grp
variable {σ σ0 h h':PHeap} {K:PV→PHeap→Prop} {b k nP nC r s0 i j n:Nat} {L L':Nat→Nat} {Q Q':Nat→Prop} {len:Nat→Nat} {v vO vP vC c vX vS vL vM:PV} {x O xs bs:List Int} {P M:List (List Int)} {C:List (List (List Int))} {cs:List PV} {s t:List UInt8}
def strOK:PV→Bool
 | .str q=>decide (q.length≤500)
 | _=>false
theorem zKH {l:List PV} {r:Nat} {K:PV→Prop} (h:l.all strOK=true) (hr:r<l.length) (hk:∀q:List UInt8,q.length≤500→K (.str q)):optK l[r]? K:=by
 have hm:=List.all_eq_true.1 h _ (List.getElem_mem hr);rw [List.getElem?_eq_getElem hr];refine⟨_,rfl,?_⟩;generalize l[r]=c at *
 cases c<;>simp only [strOK,Bool.false_eq_true,decide_eq_true_eq]at hm
 exact hk _ hm
theorem zGR {k:Int} (hk0:0≤k∧k≤1000) (hk:∀wO wP wC O P C,IsPr wO wP wC O P C→Fm 18 O P C→K (.agg [wO,wP,wC]) σ):zA Tryz.prog 228 [.int .i64 k] σ K:=by
 refine zA.gh ?_;have r0:0≤k.tmod 10∧k.tmod 10<10:=⟨Int.tmod_nonneg _ hk0.1,Int.tmod_lt_of_pos _ (by decide)⟩
 obtain⟨r,hr⟩:∃r:Nat,k.tmod 10=r:=⟨(k.tmod 10).toNat,by omega⟩
 have hr10:r<10:=by omega
 have hr10':(r:Int)<((10:Nat):Int):=by omega
 have wi:IntKind.i64.wrap (r:Int)=(r:Int):=wrap64 (by omega) (by omega)
 refine zC mix Tryz.func228 ?_
 conv=>arg 2;cbv
 refine zD rfl ?_;simp only [pwA,seval,-iQ0,hr,wi,hr10,hr10'];refine zKH rfl hr10 fun q hq=>?_
 simp only [pwA,seval,-iQ0];generalize hH:(σ.new [PV.fz true AV.nils 0 [],PV.fz true AV.nils 0 [],PV.fz true AV.nils 0 []]).new _=H;have hHn:H.next=σ.next+2:=by rw [←hH];rfl
 have kH:Keep σ H:=by rw [←hH];exact(zB _ _).new _
 have ob0:H.obj σ.next=some [PV.fz true AV.nils 0 [],PV.fz true AV.nils 0 [],PV.fz true AV.nils 0 []]:=by rw [←hH];simp only [pwA,seval,-iQ0]
 clear hH;refine zBS (s:=q) hq fun e wO wP wC O P C hR fm=>?_
 have o1:=hR.O.one;have o2:=hR.P.one;have o3:=hR.C.one;have n1:¬σ.next=H.next:=by omega
 have fm':=fm.mono (N':=18) (by decide)
 have wH:∀{uO uP uC:PV},uO.one=true→uP.one=true→uC.one=true→H.wr σ.next 0 [uO,uP,uC]=some (H.set σ.next [uO,uP,uC]):=fun {uO uP uC} h1 h2 h3=>by rw [zR ob0,if_pos ⟨by simp,by simp [h1,h2,h3]⟩];rfl
 by_cases he:e=0
 ·subst he
  have w:=wH o1 o2 o3;have r:(H.set σ.next [wO,wP,wC]).rd σ.next 0 3=some [wO,wP,wC]:=by rw [qJ,if_pos rfl];rfl
  have kk:Keep σ (H.set σ.next [wO,wP,wC]):=kH.set (Nat.le_refl _) _;have n2:¬σ.next=(H.set σ.next [wO,wP,wC]).next:=n1;generalize H.set σ.next [wO,wP,wC]=g at *
  simp only [pwA,seval,-iQ0,o1,o2,o3,n1,w,r,n2];exact Gh.fin0 (kk.new _) ⟨hR.O.bel _,hR.P.bel _,hR.C.bel _,trivial⟩ (hk wO wP wC O P C hR fm')
 have d0:(e=0)=False:=by simp [he]
 simp only [pwA,seval,-iQ0,o1,o2,o3,n1,he,d0];have kG:Keep H ((H.new [wO,wP,wC]).new [PV.int IntKind.i64 2]):=(zB _ _).new _;have obG:((H.new [wO,wP,wC]).new [PV.int IntKind.i64 2]).obj (H.next+1)=some (pis [2]):=by rw [zG];exact if_pos rfl
 have obS:((H.new [wO,wP,wC]).new [PV.int IntKind.i64 2]).obj H.next=some [wO,wP,wC]:=by rw [zG,if_neg (by show ¬H.next=H.next+1;omega),zG,if_pos rfl]
 have hGn:((H.new [wO,wP,wC]).new [PV.int IntKind.i64 2]).next=H.next+2:=rfl;generalize (H.new [wO,wP,wC]).new [PV.int IntKind.i64 2]=G at *
 refine zBl (s:=H.next+1) (O:=[2]) (cap:=.known 1) obG (by omega) (by decide) fun uO uP uC P' C' hR' hq'=>?_
 have g1:=hR'.O.one;have g2:=hR'.P.one;have g3:=hR'.C.one;have w1:G.wr H.next 0 [uO,uP,uC]=some (G.set H.next [uO,uP,uC]):=by rw [zR obS,if_pos ⟨by simp,by simp [g1,g2,g3]⟩];rfl
 have kS:Keep H (G.set H.next [uO,uP,uC]):=kG.set (Nat.le_refl _) _;have r1:(G.set H.next [uO,uP,uC]).rd H.next 0 3=some [uO,uP,uC]:=by rw [qJ,if_pos rfl];rfl
 have ob0':(G.set H.next [uO,uP,uC]).obj σ.next=some [PV.fz true AV.nils 0 [],PV.fz true AV.nils 0 [],PV.fz true AV.nils 0 []]:=by rw [kS.obj _ (by omega)];exact ob0
 generalize G.set H.next [uO,uP,uC]=g at *
 have w2:g.wr σ.next 0 [uO,uP,uC]=some (g.set σ.next [uO,uP,uC]):=by rw [zR ob0',if_pos ⟨by simp,by simp [g1,g2,g3]⟩];rfl
 have r2:(g.set σ.next [uO,uP,uC]).rd σ.next 0 3=some [uO,uP,uC]:=by rw [qJ,if_pos rfl];rfl
 have kk:Keep σ (g.set σ.next [uO,uP,uC]):=(kH.trans kS).set (Nat.le_refl _) _;simp only [pwA,seval,-iQ0,g1,g2,g3,w1,r1,w2,r2];exact Gh.fin0 kk ⟨hR'.O.bel _,hR'.P.bel _,hR'.C.bel _,trivial⟩ (hk uO uP uC [2] P' C' hR' ⟨by decide,by decide,hq'⟩)
end Go.Proofs
namespace Go.Grp
end Go.Grp
namespace Go.Proofs
open Go.Ab Go.Lie Go.Grp Go.Mx
variable {σ σ0 h h':PHeap} {K:PV→PHeap→Prop} {b k nP nC r s0 i j n:Nat} {L L':Nat→Nat} {Q Q':Nat→Prop} {len:Nat→Nat} {v vO vP vC c vX vS vL vM:PV} {x O xs bs:List Int} {P M:List (List Int)} {C:List (List (List Int))} {cs:List PV}
abbrev nil3:List PV:=[.fz true .nils 0 [],.fz true .nils 0 [],.fz true .nils 0 []]
theorem zLI {N:Nat} (hs0:s0<σ.next) (hk:∀wO wP wC O P C σ',IsPr wO wP wC O P C→Fm N O P C→Mv σ s0 σ'→So σ' s0 vS bs→K (.agg [wO,wP,wC]) σ')
  {g:PHeap} (km:KM σ s0 g) (so:So g s0 vS bs) (ob:g.obj σ.next=some nil3) {wO wP wC:PV} (hR:IsPr wO wP wC O P C) (fm:Fm N O P C):
  wO.one=true∧wP.one=true∧wC.one=true∧g.wr σ.next 0 [wO,wP,wC]=some (g.set σ.next [wO,wP,wC])∧(g.set σ.next [wO,wP,wC]).rd σ.next 0 3=some [wO,wP,wC]∧Gh σ K (.agg [wO,wP,wC]) (g.set σ.next [wO,wP,wC]):=by
 have o1:=hR.O.one;have o2:=hR.P.one;have o3:=hR.C.one;refine⟨o1,o2,o3,by rw [zR ob,if_pos ⟨by simp [nil3],by simp [o1,o2,o3]⟩];rfl,by rw [qJ,if_pos rfl];rfl,?_⟩
 refine Gh.km (km.set (Nat.le_refl _) _) (so.set (by omega) _) hs0 fun σ' m' so' kp=>Gh.fin0 kp ⟨hR.O.bel _,hR.P.bel _,hR.C.bel _,trivial⟩ (hk _ _ _ O P C σ' hR fm m' so')
theorem ve_of {p:Int} {v:List Int} (hp:0<p) (h:∀x∈v,0≤x∧x<p):Ve p v.length v:=by
 refine⟨rfl,fun j=>?_⟩
 rcases Nat.lt_or_ge j v.length with hj|hj
 ·rw [at_eq hj];exact h _ (List.getElem_mem hj)
 ·unfold at_
  rw [List.getD_eq_getElem?_getD,List.getElem?_eq_none hj];exact⟨Int.le_refl _,hp⟩
theorem ma_of {p:Int} {n:Nat} {M:List (List Int)} (hp:0<p) (h:∀r∈M,r.length=n∧∀x∈r,0≤x∧x<p):Ma p n M:=fun r hr=>by
 obtain⟨h1,h2⟩:=h r hr;rw [←h1];exact ve_of hp h2
def RowS (h:PHeap) (c:PV) (x:List Int):Prop:=∃t cap,c=PV.sl t 0 x.length cap∧h.obj t=some (pis x)∧t<h.next
theorem zi {h:PHeap} {c:PV} {x:List Int} {M:List (List Int)} (a:RowS h c x) (b:All2 (RowS h) cs M):All2 (RowS h) (c::cs) (x::M):=by
 refine⟨by simp [b.1],fun i v y hv hy=>?_⟩
 cases i with
 | zero=>simp only [List.getElem?_cons_zero,Option.some.injEq]at hv hy;rw [←hv,←hy];exact a
 | succ i=>simp only [List.getElem?_cons_succ]at hv hy;exact b.2 i v y hv hy
theorem PSl.mv' {e n:Nat} {cs:List PV} (a:PSl b e h v n cs) (hs:s0<b) (m:Mv h s0 h'):PSl b e h' v n cs:=by
 obtain⟨s,cap,rfl,h1,h2,h3,h4,h5⟩:=a;exact⟨s,cap,rfl,h1,by rw [m.obj (by omega)];exact h2,h3,h4,by rw [m.next];exact h5⟩
theorem zBm (so:So σ s0 vS bs) (hk:∀wO wP wC O P C σ',IsPr wO wP wC O P C→Fm 18 O P C→Mv σ s0 σ'→So σ' s0 vS bs→K (.agg [wO,wP,wC]) σ'):zA Tryz.prog 201 [.ptr s0 0] σ K:=by
 have hs0:=so.lt;refine zA.gh ?_;refine zC mix Tryz.func201 ?_
 conv=>arg 2;cbv
 refine zD rfl ?_;simp only [pwA,seval,-iQ0];generalize hH:σ.new [PV.fz true AV.nils 0 [],PV.fz true AV.nils 0 [],PV.fz true AV.nils 0 []]=H;have hHn:H.next=σ.next+1:=by rw [←hH];rfl
 have hsH:s0<H.next:=by omega
 have ob0:H.obj σ.next=some nil3:=by rw [←hH];simp only [pwA,seval,-iQ0]
 have km0:KM σ s0 H:=by rw [←hH];exact so.kmK (zB _ _)
 have so0:So H s0 vS bs:=by rw [←hH];exact so.keep (zB _ _)
 clear hH;have fin:∀{g:PHeap} {wO wP wC:PV} {O:List Int} {P:List (List Int)} {C:List (List (List Int))},KM H s0 g→So g s0 vS bs→IsPr wO wP wC O P C→Fm 18 O P C→
   wO.one=true∧wP.one=true∧wC.one=true∧g.wr σ.next 0 [wO,wP,wC]=some (g.set σ.next [wO,wP,wC])∧(g.set σ.next [wO,wP,wC]).rd σ.next 0 3=some [wO,wP,wC]∧Gh σ K (.agg [wO,wP,wC]) (g.set σ.next [wO,wP,wC]):=fun {g wO wP wC O P C} km so' hR fm=>
  zLI hs0 hk (km0.trans hs0 km) so' (by rw [km.obj (by omega) (by omega)];exact ob0) hR fm
 have fin2:∀{g:PHeap} {wO wP wC:PV} {O:List Int} {P:List (List Int)} {C:List (List (List Int))},KM σ s0 g→So g s0 vS bs→IsPr wO wP wC O P C→Fm 18 O P C→Gh σ K (.agg [wO,wP,wC]) g:=fun {g wO wP wC O P C} km so' hR fm=>
  Gh.km km so' hs0 fun σ' m' so'' kp=>Gh.fin0 kp ⟨hR.O.bel _,hR.P.bel _,hR.C.bel _,trivial⟩ (hk _ _ _ O P C σ' hR fm m' so'')
 refine zO (n:=9) so0 (by decide) fun x1 h hx1 m1 so1=>?_
 have km1:KM H s0 h:=so0.km.mv hsH m1;have hn1:=m1.next;clear m1
 by_cases e0:x1=0
 ·subst e0
  simp only [pwA,seval,-iQ0];refine zO (n:=5) (so1.keep (zB _ _)) (by decide) fun x2 h2 hx2 m2 so2=>?_
  have km2:=(km1.new []).mv hsH m2;have hx5:=hx2.lt (by decide)
  have hx0:=hx2.1;have pa2:PSl H.next 1 h2 (.sl h.next 0 0 (.known 0)) 0 []:=PSl.mv' (PSl.own (n:=0) (.inr rfl) (by rw [zG,if_pos rfl]) rfl (by omega) (Nat.lt_succ_self _)) hsH m2
  simp only [pwA,seval,-iQ0];refine zF (fun m vs g=>∃(x:Nat) (v:PV) (O:List Int),m=x∧vs=[.ptr s0 0,.ptr σ.next 0,v,.int .i64 x]∧O.length+x≤5∧(∀a∈O,1≤a∧a≤1000)∧KM H s0 g∧So g s0 vS bs∧PSl H.next 1 g v O.length (pis O)) x2.toNat ?_ ?_
  ·exact⟨x2.toNat,_,[],rfl,by rw [Int.toNat_of_nonneg hx0];rfl,by simp;omega,fun a ha=>(by cases ha),km2,so2,pa2⟩
  rintro x vs g ⟨x',v,O,rfl,rfl,hx,hO,km,so',pa⟩
  have p1:=pa.one;simp only [pwA,seval,-iQ0,p1];refine iteI (fun hpos=>?_) fun hge=>?_
  ·refine Zc (xs:=[2,2,3]) (t:=g.next) (so'.keep (zB _ _)) (by have:=km.next;omega) (by rw [zG,if_pos rfl];rfl) (by decide) fun y g' hy m3 so3=>?_
   have pa3:=PSl.mv' (pa.keep (zB g [PV.int .i64 2,PV.int .i64 2,PV.int .i64 3])) hsH m3;obtain⟨σ',m',kp⟩:=(km.new _).mv hsH m3;have yb:2≤y∧y≤3:=by
    simp only [List.mem_cons,List.not_mem_nil,or_false]at hy
    omega
   simp only [pwA,seval,-iQ0,p1];have hnx:=m'.next;refine PSl.push (σb:=σ') (bytes:=8) kp (by rw [hnx];exact pa3) (by omega) (by omega) fun v2 g2 k2 a2=>?_
   have p2:=a2.one;have wx:IntKind.i64.wrap ((x:Int)-1)=((x-1:Nat):Int):=by rw [wrap64 (by omega) (by omega)];omega
   simp only [pwA,seval,-iQ0,p2,wx];refine⟨x-1,by omega,x-1,v2,O++[y],rfl,rfl,by rw [List.length_append,List.length_singleton];omega,fun a ha=>?_,⟨σ',m',k2⟩,(zC8 kp so3 (by rw [hnx];exact hsH)).keep k2,?_⟩
   ·rcases List.mem_append.1 ha with ha | ha
    ·exact hO a ha
    ·rw [List.mem_singleton.1 ha];omega
   ·have e:pis (O++[y])=pis O++[.int .i64 y]:=by simp [pis]
    rw [e,List.length_append,←hnx];exact a2
  obtain⟨st,capt,rfl,q1,q2,q3,q4,q5⟩:=pa;simp only [pwA,seval,-iQ0];refine zBl q2 q5 (by omega) fun uO uP uC P' C' hR' hq'=>?_
  obtain⟨g1,g2,g3,g4,g5,g6⟩:=fin km so' hR' ⟨by omega,hO,hq'⟩
  simp only [pwA,seval,-iQ0,g1,g2,g3,g4,g5];exact g6
 by_cases e1:x1=1
 ·subst e1
  simp only [pwA,seval,-iQ0];refine Zc (xs:=[1,4,6,8,9,12,5,7,27,25,36]) (t:=h.next) (so1.keep (zB _ _)) (by omega) (by rw [zG,if_pos rfl];rfl) (by decide) fun y g hy m2 so2=>?_
  have km2:=(km1.new [PV.int .i64 1,PV.int .i64 4,PV.int .i64 6,PV.int .i64 8,PV.int .i64 9,PV.int .i64 12,PV.int .i64 5,PV.int .i64 7,PV.int .i64 27,PV.int .i64 25,PV.int .i64 36]).mv hsH m2;have yb:1≤y∧y≤36:=by
   simp only [List.mem_cons,List.not_mem_nil,or_false]at hy
   omega
  have w1:IntKind.i64.wrap (y-1)=y-1:=wrap64 (by omega) (by omega)
  simp only [pwA,seval,-iQ0];refine zJb (by omega) fun e uO uP uC O P C hR fm=>?_
  have o1:=hR.O.one;have o2:=hR.P.one;have o3:=hR.C.one;have fm':=fm.mono (N':=18) (by decide)
  have hgn:=km2.next;have n1:¬σ.next=g.next:=by omega
  obtain⟨g1,g2,g3,g4,g5,g6⟩:=fin km2 so2 hR fm';have ng:(g.set σ.next [uO,uP,uC]).next=g.next:=rfl;simp only [pwA,seval,-iQ0,o1,o2,o3,n1,g4,g5,ng];exact fin2 (((km0.trans hs0 km2).set (Nat.le_refl _) _).new _) ((so2.set (by omega) _).keep (zB _ _)) hR fm'
 by_cases e2:x1=2
 ·subst e2
  simp only [pwA,seval,-iQ0];refine Zc (xs:=[3,4,5,6,7,8,9,12]) (t:=h.next) (so1.keep (zB _ _)) (by omega) (by rw [zG,if_pos rfl];rfl) (by decide) fun y g hy m2 so2=>?_
  have km2:=(km1.new [PV.int .i64 3,PV.int .i64 4,PV.int .i64 5,PV.int .i64 6,PV.int .i64 7,PV.int .i64 8,PV.int .i64 9,PV.int .i64 12]).mv hsH m2;have yb:3≤y∧y≤12:=by
   simp only [List.mem_cons,List.not_mem_nil,or_false]at hy
   omega
  have w1:IntKind.i64.wrap (y-1)=y-1:=wrap64 (by omega) (by omega)
  simp only [pwA,seval,-iQ0,w1];refine q8 (n:=2) (by decide) (by omega) (by omega) (by decide) fun uO uP uC O P C hR fm=>?_
  obtain⟨g1,g2,g3,g4,g5,g6⟩:=fin km2 so2 hR fm;simp only [pwA,seval,-iQ0,g1,g2,g3,g4,g5];exact g6
 by_cases e3:x1=3
 ·subst e3
  simp only [pwA,seval,-iQ0];refine Zc (xs:=[4,6,8,12]) (t:=h.next) (so1.keep (zB _ _)) (by omega) (by rw [zG,if_pos rfl];rfl) (by decide) fun y g hy m2 so2=>?_
  have km2:=(km1.new [PV.int .i64 4,PV.int .i64 6,PV.int .i64 8,PV.int .i64 12]).mv hsH m2;have yb:4≤y∧y≤12:=by
   simp only [List.mem_cons,List.not_mem_nil,or_false]at hy
   omega
  have w1:IntKind.i64.wrap (y-1)=y-1:=wrap64 (by omega) (by omega)
  have d1:0≤y.tdiv 2:=Int.tdiv_nonneg (by omega) (by decide)
  have d2:y.tdiv 2≤y:=Int.tdiv_le_self _ (by omega)
  have w2:IntKind.i64.wrap (y.tdiv 2)=y.tdiv 2:=wrap64 (by omega) (by omega)
  simp only [pwA,seval,-iQ0,w1,w2];refine q8 (n:=2) (by decide) (by omega) (by omega) (by omega) fun uO uP uC O P C hR fm=>?_
  obtain⟨g1,g2,g3,g4,g5,g6⟩:=fin km2 so2 hR fm;simp only [pwA,seval,-iQ0,g1,g2,g3,g4,g5];exact g6
 by_cases e4:x1=4
 ·subst e4
  simp only [pwA,seval,-iQ0];refine zO (n:=6) so1 (by decide) fun x2 g hx2 m2 so2=>?_
  have km2:=km1.mv hsH m2
  by_cases f0:x2=0
  ·subst f0
   simp only [pwA,seval,-iQ0];refine q8 (n:=3) (m:=7) (a:=2) (c:=0) (by decide) (by decide) (by decide) (by decide) fun uO uP uC O P C hR fm=>?_
   obtain⟨g1,g2,g3,g4,g5,g6⟩:=fin km2 so2 hR fm;simp only [pwA,seval,-iQ0,g1,g2,g3,g4,g5];exact g6
  by_cases f1:x2=1
  ·subst f1
   simp only [pwA,seval,-iQ0];refine q8 (n:=4) (m:=5) (a:=2) (c:=0) (by decide) (by decide) (by decide) (by decide) fun uO uP uC O P C hR fm=>?_
   obtain⟨g1,g2,g3,g4,g5,g6⟩:=fin km2 so2 hR fm;simp only [pwA,seval,-iQ0,g1,g2,g3,g4,g5];exact g6
  by_cases f2:x2=2
  ·subst f2
   simp only [pwA,seval,-iQ0];refine q8 (n:=2) (m:=8) (a:=3) (c:=0) (by decide) (by decide) (by decide) (by decide) fun uO uP uC O P C hR fm=>?_
   obtain⟨g1,g2,g3,g4,g5,g6⟩:=fin km2 so2 hR fm;simp only [pwA,seval,-iQ0,g1,g2,g3,g4,g5];exact g6
  by_cases f3:x2=3
  ·subst f3
   simp only [pwA,seval,-iQ0];refine q8 (n:=2) (m:=8) (a:=5) (c:=0) (by decide) (by decide) (by decide) (by decide) fun uO uP uC O P C hR fm=>?_
   obtain⟨g1,g2,g3,g4,g5,g6⟩:=fin km2 so2 hR fm;simp only [pwA,seval,-iQ0,g1,g2,g3,g4,g5];exact g6
  by_cases f4:x2=4
  ·subst f4
   simp only [pwA,seval,-iQ0];refine q8 (n:=4) (m:=4) (a:=3) (c:=0) (by decide) (by decide) (by decide) (by decide) fun uO uP uC O P C hR fm=>?_
   obtain⟨g1,g2,g3,g4,g5,g6⟩:=fin km2 so2 hR fm;simp only [pwA,seval,-iQ0,g1,g2,g3,g4,g5];exact g6
  simp only [pwA,seval,-iQ0,f0,f1,f2,f3,f4];refine q8 (n:=3) (m:=9) (a:=4) (c:=0) (by decide) (by decide) (by decide) (by decide) fun uO uP uC O P C hR fm=>?_
  obtain⟨g1,g2,g3,g4,g5,g6⟩:=fin km2 so2 hR fm;simp only [pwA,seval,-iQ0,g1,g2,g3,g4,g5];exact g6
 by_cases e5:x1=5
 ·subst e5
  simp only [pwA,seval,-iQ0];refine Zc (xs:=[2,3,2,3,5]) (t:=h.next) (so1.keep (zB _ _)) (by omega) (by rw [zG,if_pos rfl];rfl) (by decide) fun y g hy m2 so2=>?_
  have km2:=(km1.new [PV.int .i64 2,PV.int .i64 3,PV.int .i64 2,PV.int .i64 3,PV.int .i64 5]).mv hsH m2;have yb:2≤y∧y≤5:=by
   simp only [List.mem_cons,List.not_mem_nil,or_false]at hy
   omega
  have w1:IntKind.i64.wrap (y-1)=y-1:=wrap64 (by omega) (by omega)
  simp only [pwA,seval,-iQ0];refine zCp so2 (by omega) fun uO uP uC O P C g' hR fm m3 so3=>?_
  obtain⟨g1,g2,g3,g4,g5,g6⟩:=fin (km2.mv hsH m3) so3 hR fm;simp only [pwA,seval,-iQ0,g1,g2,g3,g4,g5];exact g6
 by_cases e6:x1=6
 ·subst e6
  simp only [pwA,seval,-iQ0];refine zO (n:=6) so1 (by decide) fun x2 g hx2 m2 so2=>?_
  have km2:=km1.mv hsH m2
  by_cases f0:x2=0
  ·subst f0
   simp only [pwA,seval,-iQ0];have kk:Keep g (((g.new [PV.int IntKind.i64 2,PV.int IntKind.i64 0]).new [PV.int IntKind.i64 0,PV.int IntKind.i64 2]).new [PV.sl g.next 0 2 (.known 2),PV.sl (g.next+1) 0 2 (.known 2)]):=((zB _ _).new _).new _;have obm:(((g.new [PV.int IntKind.i64 2,PV.int IntKind.i64 0]).new [PV.int IntKind.i64 0,PV.int IntKind.i64 2]).new [PV.sl g.next 0 2 (.known 2),PV.sl (g.next+1) 0 2 (.known 2)]).obj (g.next+2)=some [PV.sl g.next 0 2 (.known 2),PV.sl (g.next+1) 0 2 (.known 2)]:=by rw [zG];exact if_pos rfl
   have ob0:(((g.new [PV.int IntKind.i64 2,PV.int IntKind.i64 0]).new [PV.int IntKind.i64 0,PV.int IntKind.i64 2]).new [PV.sl g.next 0 2 (.known 2),PV.sl (g.next+1) 0 2 (.known 2)]).obj g.next=some (pis [2,0]):=by simp only [pwA,seval,-iQ0];rfl
   have ob1:(((g.new [PV.int IntKind.i64 2,PV.int IntKind.i64 0]).new [PV.int IntKind.i64 0,PV.int IntKind.i64 2]).new [PV.sl g.next 0 2 (.known 2),PV.sl (g.next+1) 0 2 (.known 2)]).obj (g.next+1)=some (pis [0,2]):=by simp only [pwA,seval,-iQ0];rfl
   have hG:(((g.new [PV.int IntKind.i64 2,PV.int IntKind.i64 0]).new [PV.int IntKind.i64 0,PV.int IntKind.i64 2]).new [PV.sl g.next 0 2 (.known 2),PV.sl (g.next+1) 0 2 (.known 2)]).next=g.next+3:=rfl;generalize (((g.new [PV.int IntKind.i64 2,PV.int IntKind.i64 0]).new [PV.int IntKind.i64 0,PV.int IntKind.i64 2]).new [PV.sl g.next 0 2 (.known 2),PV.sl (g.next+1) 0 2 (.known 2)])=G at *
   have hM:MatX G (.sl (g.next+2) 0 2 (.known 2)) [[2,0],[0,2]]:=⟨g.next+2,.known 2,_,rfl,obm,by omega,zi ⟨_,_,rfl,ob0,by omega⟩ (zi ⟨_,_,rfl,ob1,by omega⟩ (All2.nil _))⟩
   refine ZE (p:=3) (m:=2) (M:=[[2,0],[0,2]]) (by decide) (by decide) hM (ma_of (by decide) (by decide)) (by decide) fun uO uP uC O P C hR fm=>?_
   obtain⟨g1,g2,g3,g4,g5,g6⟩:=fin (km2.keep kk) (so2.keep kk) hR fm;simp only [pwA,seval,-iQ0,g1,g2,g3,g4,g5];exact g6
  by_cases f1:x2=1
  ·subst f1
   simp only [pwA,seval,-iQ0];have kk:Keep g (((g.new [PV.int IntKind.i64 0,PV.int IntKind.i64 1]).new [PV.int IntKind.i64 2,PV.int IntKind.i64 0]).new [PV.sl g.next 0 2 (.known 2),PV.sl (g.next+1) 0 2 (.known 2)]):=((zB _ _).new _).new _;have obm:(((g.new [PV.int IntKind.i64 0,PV.int IntKind.i64 1]).new [PV.int IntKind.i64 2,PV.int IntKind.i64 0]).new [PV.sl g.next 0 2 (.known 2),PV.sl (g.next+1) 0 2 (.known 2)]).obj (g.next+2)=some [PV.sl g.next 0 2 (.known 2),PV.sl (g.next+1) 0 2 (.known 2)]:=by rw [zG];exact if_pos rfl
   have ob0:(((g.new [PV.int IntKind.i64 0,PV.int IntKind.i64 1]).new [PV.int IntKind.i64 2,PV.int IntKind.i64 0]).new [PV.sl g.next 0 2 (.known 2),PV.sl (g.next+1) 0 2 (.known 2)]).obj g.next=some (pis [0,1]):=by simp only [pwA,seval,-iQ0];rfl
   have ob1:(((g.new [PV.int IntKind.i64 0,PV.int IntKind.i64 1]).new [PV.int IntKind.i64 2,PV.int IntKind.i64 0]).new [PV.sl g.next 0 2 (.known 2),PV.sl (g.next+1) 0 2 (.known 2)]).obj (g.next+1)=some (pis [2,0]):=by simp only [pwA,seval,-iQ0];rfl
   have hG:(((g.new [PV.int IntKind.i64 0,PV.int IntKind.i64 1]).new [PV.int IntKind.i64 2,PV.int IntKind.i64 0]).new [PV.sl g.next 0 2 (.known 2),PV.sl (g.next+1) 0 2 (.known 2)]).next=g.next+3:=rfl;generalize (((g.new [PV.int IntKind.i64 0,PV.int IntKind.i64 1]).new [PV.int IntKind.i64 2,PV.int IntKind.i64 0]).new [PV.sl g.next 0 2 (.known 2),PV.sl (g.next+1) 0 2 (.known 2)])=G at *
   have hM:MatX G (.sl (g.next+2) 0 2 (.known 2)) [[0,1],[2,0]]:=⟨g.next+2,.known 2,_,rfl,obm,by omega,zi ⟨_,_,rfl,ob0,by omega⟩ (zi ⟨_,_,rfl,ob1,by omega⟩ (All2.nil _))⟩
   refine ZE (p:=3) (m:=4) (M:=[[0,1],[2,0]]) (by decide) (by decide) hM (ma_of (by decide) (by decide)) (by decide) fun uO uP uC O P C hR fm=>?_
   obtain⟨g1,g2,g3,g4,g5,g6⟩:=fin (km2.keep kk) (so2.keep kk) hR fm;simp only [pwA,seval,-iQ0,g1,g2,g3,g4,g5];exact g6
  by_cases f2:x2=2
  ·subst f2
   simp only [pwA,seval,-iQ0];have kk:Keep g ((((g.new [PV.int IntKind.i64 0,PV.int IntKind.i64 1,PV.int IntKind.i64 0]).new [PV.int IntKind.i64 0,PV.int IntKind.i64 0,PV.int IntKind.i64 1]).new [PV.int IntKind.i64 1,PV.int IntKind.i64 1,PV.int IntKind.i64 0]).new [PV.sl g.next 0 3 (.known 3),PV.sl (g.next+1) 0 3 (.known 3),PV.sl (g.next+2) 0 3 (.known 3)]):=(((zB _ _).new _).new _).new _;have obm:((((g.new [PV.int IntKind.i64 0,PV.int IntKind.i64 1,PV.int IntKind.i64 0]).new [PV.int IntKind.i64 0,PV.int IntKind.i64 0,PV.int IntKind.i64 1]).new [PV.int IntKind.i64 1,PV.int IntKind.i64 1,PV.int IntKind.i64 0]).new [PV.sl g.next 0 3 (.known 3),PV.sl (g.next+1) 0 3 (.known 3),PV.sl (g.next+2) 0 3 (.known 3)]).obj (g.next+3)=some [PV.sl g.next 0 3 (.known 3),PV.sl (g.next+1) 0 3 (.known 3),PV.sl (g.next+2) 0 3 (.known 3)]:=by rw [zG];exact if_pos rfl
   have ob0:((((g.new [PV.int IntKind.i64 0,PV.int IntKind.i64 1,PV.int IntKind.i64 0]).new [PV.int IntKind.i64 0,PV.int IntKind.i64 0,PV.int IntKind.i64 1]).new [PV.int IntKind.i64 1,PV.int IntKind.i64 1,PV.int IntKind.i64 0]).new [PV.sl g.next 0 3 (.known 3),PV.sl (g.next+1) 0 3 (.known 3),PV.sl (g.next+2) 0 3 (.known 3)]).obj g.next=some (pis [0,1,0]):=by simp only [pwA,seval,-iQ0];rfl
   have ob1:((((g.new [PV.int IntKind.i64 0,PV.int IntKind.i64 1,PV.int IntKind.i64 0]).new [PV.int IntKind.i64 0,PV.int IntKind.i64 0,PV.int IntKind.i64 1]).new [PV.int IntKind.i64 1,PV.int IntKind.i64 1,PV.int IntKind.i64 0]).new [PV.sl g.next 0 3 (.known 3),PV.sl (g.next+1) 0 3 (.known 3),PV.sl (g.next+2) 0 3 (.known 3)]).obj (g.next+1)=some (pis [0,0,1]):=by simp only [pwA,seval,-iQ0];rfl
   have ob2:((((g.new [PV.int IntKind.i64 0,PV.int IntKind.i64 1,PV.int IntKind.i64 0]).new [PV.int IntKind.i64 0,PV.int IntKind.i64 0,PV.int IntKind.i64 1]).new [PV.int IntKind.i64 1,PV.int IntKind.i64 1,PV.int IntKind.i64 0]).new [PV.sl g.next 0 3 (.known 3),PV.sl (g.next+1) 0 3 (.known 3),PV.sl (g.next+2) 0 3 (.known 3)]).obj (g.next+2)=some (pis [1,1,0]):=by simp only [pwA,seval,-iQ0];rfl
   have hG:((((g.new [PV.int IntKind.i64 0,PV.int IntKind.i64 1,PV.int IntKind.i64 0]).new [PV.int IntKind.i64 0,PV.int IntKind.i64 0,PV.int IntKind.i64 1]).new [PV.int IntKind.i64 1,PV.int IntKind.i64 1,PV.int IntKind.i64 0]).new [PV.sl g.next 0 3 (.known 3),PV.sl (g.next+1) 0 3 (.known 3),PV.sl (g.next+2) 0 3 (.known 3)]).next=g.next+4:=rfl;generalize ((((g.new [PV.int IntKind.i64 0,PV.int IntKind.i64 1,PV.int IntKind.i64 0]).new [PV.int IntKind.i64 0,PV.int IntKind.i64 0,PV.int IntKind.i64 1]).new [PV.int IntKind.i64 1,PV.int IntKind.i64 1,PV.int IntKind.i64 0]).new [PV.sl g.next 0 3 (.known 3),PV.sl (g.next+1) 0 3 (.known 3),PV.sl (g.next+2) 0 3 (.known 3)])=G at *
   have hM:MatX G (.sl (g.next+3) 0 3 (.known 3)) [[0,1,0],[0,0,1],[1,1,0]]:=⟨g.next+3,.known 3,_,rfl,obm,by omega,zi ⟨_,_,rfl,ob0,by omega⟩ (zi ⟨_,_,rfl,ob1,by omega⟩ (zi ⟨_,_,rfl,ob2,by omega⟩ (All2.nil _)))⟩
   refine ZE (p:=2) (m:=7) (M:=[[0,1,0],[0,0,1],[1,1,0]]) (by decide) (by decide) hM (ma_of (by decide) (by decide)) (by decide) fun uO uP uC O P C hR fm=>?_
   obtain⟨g1,g2,g3,g4,g5,g6⟩:=fin (km2.keep kk) (so2.keep kk) hR fm;simp only [pwA,seval,-iQ0,g1,g2,g3,g4,g5];exact g6
  by_cases f3:x2=3
  ·subst f3
   simp only [pwA,seval,-iQ0];have kk:Keep g ((((g.new [PV.int IntKind.i64 1,PV.int IntKind.i64 1,PV.int IntKind.i64 0]).new [PV.int IntKind.i64 0,PV.int IntKind.i64 1,PV.int IntKind.i64 1]).new [PV.int IntKind.i64 0,PV.int IntKind.i64 0,PV.int IntKind.i64 1]).new [PV.sl g.next 0 3 (.known 3),PV.sl (g.next+1) 0 3 (.known 3),PV.sl (g.next+2) 0 3 (.known 3)]):=(((zB _ _).new _).new _).new _;have obm:((((g.new [PV.int IntKind.i64 1,PV.int IntKind.i64 1,PV.int IntKind.i64 0]).new [PV.int IntKind.i64 0,PV.int IntKind.i64 1,PV.int IntKind.i64 1]).new [PV.int IntKind.i64 0,PV.int IntKind.i64 0,PV.int IntKind.i64 1]).new [PV.sl g.next 0 3 (.known 3),PV.sl (g.next+1) 0 3 (.known 3),PV.sl (g.next+2) 0 3 (.known 3)]).obj (g.next+3)=some [PV.sl g.next 0 3 (.known 3),PV.sl (g.next+1) 0 3 (.known 3),PV.sl (g.next+2) 0 3 (.known 3)]:=by rw [zG];exact if_pos rfl
   have ob0:((((g.new [PV.int IntKind.i64 1,PV.int IntKind.i64 1,PV.int IntKind.i64 0]).new [PV.int IntKind.i64 0,PV.int IntKind.i64 1,PV.int IntKind.i64 1]).new [PV.int IntKind.i64 0,PV.int IntKind.i64 0,PV.int IntKind.i64 1]).new [PV.sl g.next 0 3 (.known 3),PV.sl (g.next+1) 0 3 (.known 3),PV.sl (g.next+2) 0 3 (.known 3)]).obj g.next=some (pis [1,1,0]):=by simp only [pwA,seval,-iQ0];rfl
   have ob1:((((g.new [PV.int IntKind.i64 1,PV.int IntKind.i64 1,PV.int IntKind.i64 0]).new [PV.int IntKind.i64 0,PV.int IntKind.i64 1,PV.int IntKind.i64 1]).new [PV.int IntKind.i64 0,PV.int IntKind.i64 0,PV.int IntKind.i64 1]).new [PV.sl g.next 0 3 (.known 3),PV.sl (g.next+1) 0 3 (.known 3),PV.sl (g.next+2) 0 3 (.known 3)]).obj (g.next+1)=some (pis [0,1,1]):=by simp only [pwA,seval,-iQ0];rfl
   have ob2:((((g.new [PV.int IntKind.i64 1,PV.int IntKind.i64 1,PV.int IntKind.i64 0]).new [PV.int IntKind.i64 0,PV.int IntKind.i64 1,PV.int IntKind.i64 1]).new [PV.int IntKind.i64 0,PV.int IntKind.i64 0,PV.int IntKind.i64 1]).new [PV.sl g.next 0 3 (.known 3),PV.sl (g.next+1) 0 3 (.known 3),PV.sl (g.next+2) 0 3 (.known 3)]).obj (g.next+2)=some (pis [0,0,1]):=by simp only [pwA,seval,-iQ0];rfl
   have hG:((((g.new [PV.int IntKind.i64 1,PV.int IntKind.i64 1,PV.int IntKind.i64 0]).new [PV.int IntKind.i64 0,PV.int IntKind.i64 1,PV.int IntKind.i64 1]).new [PV.int IntKind.i64 0,PV.int IntKind.i64 0,PV.int IntKind.i64 1]).new [PV.sl g.next 0 3 (.known 3),PV.sl (g.next+1) 0 3 (.known 3),PV.sl (g.next+2) 0 3 (.known 3)]).next=g.next+4:=rfl;generalize ((((g.new [PV.int IntKind.i64 1,PV.int IntKind.i64 1,PV.int IntKind.i64 0]).new [PV.int IntKind.i64 0,PV.int IntKind.i64 1,PV.int IntKind.i64 1]).new [PV.int IntKind.i64 0,PV.int IntKind.i64 0,PV.int IntKind.i64 1]).new [PV.sl g.next 0 3 (.known 3),PV.sl (g.next+1) 0 3 (.known 3),PV.sl (g.next+2) 0 3 (.known 3)])=G at *
   have hM:MatX G (.sl (g.next+3) 0 3 (.known 3)) [[1,1,0],[0,1,1],[0,0,1]]:=⟨g.next+3,.known 3,_,rfl,obm,by omega,zi ⟨_,_,rfl,ob0,by omega⟩ (zi ⟨_,_,rfl,ob1,by omega⟩ (zi ⟨_,_,rfl,ob2,by omega⟩ (All2.nil _)))⟩
   refine ZE (p:=2) (m:=4) (M:=[[1,1,0],[0,1,1],[0,0,1]]) (by decide) (by decide) hM (ma_of (by decide) (by decide)) (by decide) fun uO uP uC O P C hR fm=>?_
   obtain⟨g1,g2,g3,g4,g5,g6⟩:=fin (km2.keep kk) (so2.keep kk) hR fm;simp only [pwA,seval,-iQ0,g1,g2,g3,g4,g5];exact g6
  by_cases f4:x2=4
  ·subst f4
   simp only [pwA,seval,-iQ0];have kk:Keep g (((((g.new [PV.int IntKind.i64 0,PV.int IntKind.i64 1,PV.int IntKind.i64 0,PV.int IntKind.i64 0]).new [PV.int IntKind.i64 1,PV.int IntKind.i64 0,PV.int IntKind.i64 0,PV.int IntKind.i64 0]).new [PV.int IntKind.i64 0,PV.int IntKind.i64 0,PV.int IntKind.i64 0,PV.int IntKind.i64 1]).new [PV.int IntKind.i64 0,PV.int IntKind.i64 0,PV.int IntKind.i64 1,PV.int IntKind.i64 0]).new [PV.sl g.next 0 4 (.known 4),PV.sl (g.next+1) 0 4 (.known 4),PV.sl (g.next+2) 0 4 (.known 4),PV.sl (g.next+3) 0 4 (.known 4)]):=((((zB _ _).new _).new _).new _).new _;have obm:(((((g.new [PV.int IntKind.i64 0,PV.int IntKind.i64 1,PV.int IntKind.i64 0,PV.int IntKind.i64 0]).new [PV.int IntKind.i64 1,PV.int IntKind.i64 0,PV.int IntKind.i64 0,PV.int IntKind.i64 0]).new [PV.int IntKind.i64 0,PV.int IntKind.i64 0,PV.int IntKind.i64 0,PV.int IntKind.i64 1]).new [PV.int IntKind.i64 0,PV.int IntKind.i64 0,PV.int IntKind.i64 1,PV.int IntKind.i64 0]).new [PV.sl g.next 0 4 (.known 4),PV.sl (g.next+1) 0 4 (.known 4),PV.sl (g.next+2) 0 4 (.known 4),PV.sl (g.next+3) 0 4 (.known 4)]).obj (g.next+4)=some [PV.sl g.next 0 4 (.known 4),PV.sl (g.next+1) 0 4 (.known 4),PV.sl (g.next+2) 0 4 (.known 4),PV.sl (g.next+3) 0 4 (.known 4)]:=by rw [zG];exact if_pos rfl
   have ob0:(((((g.new [PV.int IntKind.i64 0,PV.int IntKind.i64 1,PV.int IntKind.i64 0,PV.int IntKind.i64 0]).new [PV.int IntKind.i64 1,PV.int IntKind.i64 0,PV.int IntKind.i64 0,PV.int IntKind.i64 0]).new [PV.int IntKind.i64 0,PV.int IntKind.i64 0,PV.int IntKind.i64 0,PV.int IntKind.i64 1]).new [PV.int IntKind.i64 0,PV.int IntKind.i64 0,PV.int IntKind.i64 1,PV.int IntKind.i64 0]).new [PV.sl g.next 0 4 (.known 4),PV.sl (g.next+1) 0 4 (.known 4),PV.sl (g.next+2) 0 4 (.known 4),PV.sl (g.next+3) 0 4 (.known 4)]).obj g.next=some (pis [0,1,0,0]):=by simp only [pwA,seval,-iQ0];rfl
   have ob1:(((((g.new [PV.int IntKind.i64 0,PV.int IntKind.i64 1,PV.int IntKind.i64 0,PV.int IntKind.i64 0]).new [PV.int IntKind.i64 1,PV.int IntKind.i64 0,PV.int IntKind.i64 0,PV.int IntKind.i64 0]).new [PV.int IntKind.i64 0,PV.int IntKind.i64 0,PV.int IntKind.i64 0,PV.int IntKind.i64 1]).new [PV.int IntKind.i64 0,PV.int IntKind.i64 0,PV.int IntKind.i64 1,PV.int IntKind.i64 0]).new [PV.sl g.next 0 4 (.known 4),PV.sl (g.next+1) 0 4 (.known 4),PV.sl (g.next+2) 0 4 (.known 4),PV.sl (g.next+3) 0 4 (.known 4)]).obj (g.next+1)=some (pis [1,0,0,0]):=by simp only [pwA,seval,-iQ0];rfl
   have ob2:(((((g.new [PV.int IntKind.i64 0,PV.int IntKind.i64 1,PV.int IntKind.i64 0,PV.int IntKind.i64 0]).new [PV.int IntKind.i64 1,PV.int IntKind.i64 0,PV.int IntKind.i64 0,PV.int IntKind.i64 0]).new [PV.int IntKind.i64 0,PV.int IntKind.i64 0,PV.int IntKind.i64 0,PV.int IntKind.i64 1]).new [PV.int IntKind.i64 0,PV.int IntKind.i64 0,PV.int IntKind.i64 1,PV.int IntKind.i64 0]).new [PV.sl g.next 0 4 (.known 4),PV.sl (g.next+1) 0 4 (.known 4),PV.sl (g.next+2) 0 4 (.known 4),PV.sl (g.next+3) 0 4 (.known 4)]).obj (g.next+2)=some (pis [0,0,0,1]):=by simp only [pwA,seval,-iQ0];rfl
   have ob3:(((((g.new [PV.int IntKind.i64 0,PV.int IntKind.i64 1,PV.int IntKind.i64 0,PV.int IntKind.i64 0]).new [PV.int IntKind.i64 1,PV.int IntKind.i64 0,PV.int IntKind.i64 0,PV.int IntKind.i64 0]).new [PV.int IntKind.i64 0,PV.int IntKind.i64 0,PV.int IntKind.i64 0,PV.int IntKind.i64 1]).new [PV.int IntKind.i64 0,PV.int IntKind.i64 0,PV.int IntKind.i64 1,PV.int IntKind.i64 0]).new [PV.sl g.next 0 4 (.known 4),PV.sl (g.next+1) 0 4 (.known 4),PV.sl (g.next+2) 0 4 (.known 4),PV.sl (g.next+3) 0 4 (.known 4)]).obj (g.next+3)=some (pis [0,0,1,0]):=by simp only [pwA,seval,-iQ0];rfl
   have hG:(((((g.new [PV.int IntKind.i64 0,PV.int IntKind.i64 1,PV.int IntKind.i64 0,PV.int IntKind.i64 0]).new [PV.int IntKind.i64 1,PV.int IntKind.i64 0,PV.int IntKind.i64 0,PV.int IntKind.i64 0]).new [PV.int IntKind.i64 0,PV.int IntKind.i64 0,PV.int IntKind.i64 0,PV.int IntKind.i64 1]).new [PV.int IntKind.i64 0,PV.int IntKind.i64 0,PV.int IntKind.i64 1,PV.int IntKind.i64 0]).new [PV.sl g.next 0 4 (.known 4),PV.sl (g.next+1) 0 4 (.known 4),PV.sl (g.next+2) 0 4 (.known 4),PV.sl (g.next+3) 0 4 (.known 4)]).next=g.next+5:=rfl;generalize (((((g.new [PV.int IntKind.i64 0,PV.int IntKind.i64 1,PV.int IntKind.i64 0,PV.int IntKind.i64 0]).new [PV.int IntKind.i64 1,PV.int IntKind.i64 0,PV.int IntKind.i64 0,PV.int IntKind.i64 0]).new [PV.int IntKind.i64 0,PV.int IntKind.i64 0,PV.int IntKind.i64 0,PV.int IntKind.i64 1]).new [PV.int IntKind.i64 0,PV.int IntKind.i64 0,PV.int IntKind.i64 1,PV.int IntKind.i64 0]).new [PV.sl g.next 0 4 (.known 4),PV.sl (g.next+1) 0 4 (.known 4),PV.sl (g.next+2) 0 4 (.known 4),PV.sl (g.next+3) 0 4 (.known 4)])=G at *
   have hM:MatX G (.sl (g.next+4) 0 4 (.known 4)) [[0,1,0,0],[1,0,0,0],[0,0,0,1],[0,0,1,0]]:=⟨g.next+4,.known 4,_,rfl,obm,by omega,zi ⟨_,_,rfl,ob0,by omega⟩ (zi ⟨_,_,rfl,ob1,by omega⟩ (zi ⟨_,_,rfl,ob2,by omega⟩ (zi ⟨_,_,rfl,ob3,by omega⟩ (All2.nil _))))⟩
   refine ZE (p:=2) (m:=2) (M:=[[0,1,0,0],[1,0,0,0],[0,0,0,1],[0,0,1,0]]) (by decide) (by decide) hM (ma_of (by decide) (by decide)) (by decide) fun uO uP uC O P C hR fm=>?_
   obtain⟨g1,g2,g3,g4,g5,g6⟩:=fin (km2.keep kk) (so2.keep kk) hR fm;simp only [pwA,seval,-iQ0,g1,g2,g3,g4,g5];exact g6
  simp only [pwA,seval,-iQ0,f0,f1,f2,f3,f4];have kk:Keep g (((g.new [PV.int IntKind.i64 0,PV.int IntKind.i64 1]).new [PV.int IntKind.i64 4,PV.int IntKind.i64 4]).new [PV.sl g.next 0 2 (.known 2),PV.sl (g.next+1) 0 2 (.known 2)]):=((zB _ _).new _).new _;have obm:(((g.new [PV.int IntKind.i64 0,PV.int IntKind.i64 1]).new [PV.int IntKind.i64 4,PV.int IntKind.i64 4]).new [PV.sl g.next 0 2 (.known 2),PV.sl (g.next+1) 0 2 (.known 2)]).obj (g.next+2)=some [PV.sl g.next 0 2 (.known 2),PV.sl (g.next+1) 0 2 (.known 2)]:=by rw [zG];exact if_pos rfl
  have ob0:(((g.new [PV.int IntKind.i64 0,PV.int IntKind.i64 1]).new [PV.int IntKind.i64 4,PV.int IntKind.i64 4]).new [PV.sl g.next 0 2 (.known 2),PV.sl (g.next+1) 0 2 (.known 2)]).obj g.next=some (pis [0,1]):=by simp only [pwA,seval,-iQ0];rfl
  have ob1:(((g.new [PV.int IntKind.i64 0,PV.int IntKind.i64 1]).new [PV.int IntKind.i64 4,PV.int IntKind.i64 4]).new [PV.sl g.next 0 2 (.known 2),PV.sl (g.next+1) 0 2 (.known 2)]).obj (g.next+1)=some (pis [4,4]):=by simp only [pwA,seval,-iQ0];rfl
  have hG:(((g.new [PV.int IntKind.i64 0,PV.int IntKind.i64 1]).new [PV.int IntKind.i64 4,PV.int IntKind.i64 4]).new [PV.sl g.next 0 2 (.known 2),PV.sl (g.next+1) 0 2 (.known 2)]).next=g.next+3:=rfl;generalize (((g.new [PV.int IntKind.i64 0,PV.int IntKind.i64 1]).new [PV.int IntKind.i64 4,PV.int IntKind.i64 4]).new [PV.sl g.next 0 2 (.known 2),PV.sl (g.next+1) 0 2 (.known 2)])=G at *
  have hM:MatX G (.sl (g.next+2) 0 2 (.known 2)) [[0,1],[4,4]]:=⟨g.next+2,.known 2,_,rfl,obm,by omega,zi ⟨_,_,rfl,ob0,by omega⟩ (zi ⟨_,_,rfl,ob1,by omega⟩ (All2.nil _))⟩
  refine ZE (p:=5) (m:=3) (M:=[[0,1],[4,4]]) (by decide) (by decide) hM (ma_of (by decide) (by decide)) (by decide) fun uO uP uC O P C hR fm=>?_
  obtain⟨g1,g2,g3,g4,g5,g6⟩:=fin (km2.keep kk) (so2.keep kk) hR fm;simp only [pwA,seval,-iQ0,g1,g2,g3,g4,g5];exact g6
 simp only [pwA,seval,-iQ0,e0,e1,e2,e3,e4,e5,e6];refine zO (n:=10) so1 (by decide) fun x2 g hx2 m2 so2=>?_
 have km2:=km1.mv hsH m2;have xl:=hx2.lt (by decide)
 simp only [pwA,seval,-iQ0];refine zGR ⟨hx2.1,by omega⟩ fun uO uP uC O P C hR fm=>?_
 obtain⟨g1,g2,g3,g4,g5,g6⟩:=fin km2 so2 hR fm;simp only [pwA,seval,-iQ0,g1,g2,g3,g4,g5];exact g6
end Go.Proofs
