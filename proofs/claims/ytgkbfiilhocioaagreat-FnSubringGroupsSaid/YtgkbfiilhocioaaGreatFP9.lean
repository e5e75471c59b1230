/- . -/
import Derived.Test.YtgkbfiilhocioaaGreatFP8
open Nat renaming le_refl→vM
open Int renaming reduceNatCast'->ae
set_option maxRecDepth 100000
set_option linter.unusedSimpArgs false
set_option linter.unusedVariables false
set_option linter.unusedSectionVars false
namespace Go.Proofs
open Go.Ab Go.Lie
variable{σ:PHeap}{K:PV->PHeap->Prop}{p:Int}{n:Nat}{W:V2}{B:V3}{vP vB vU vX:PV}{s:Nat}{u v:V2}
def Zy(p:Int)(W:V2)(u:V2):Prop:=Els p W.length u/\Canon p W.length W u u
theorem zNO{xs:V1}(h:∀j,at_ xs j=0):isZ xs:=λx hx=>by
 obtain⟨j,hj,rfl⟩:=List.mem_iff_getElem.1 hx;rw[<-at_eq hj];exact h j
theorem zKH(o:OkW p n W)(he:Els p n u)(hl:u.length<=1048576):SzL u:=⟨hl,λx hx=>by rw[(he x hx).1];have:=o.le;omega⟩
theorem zCL{us:V3}{wL:Bool}{aL:AV}{rL:List PV}(hs:PtrR σ s p vP vB)(hR:IsR vP vB W B)(dU:SzR W B)(hL:All2 FII rL us)(cq:us.length<=2)(ar:us≠[])(sz:∀u∈us,SzL u)
  (hk:∀t:Bool,(t=true↔isLie p W B/\∀u∈us,Zy p W u)->K (.bool t) σ):zA Tryz.prog 91 [.ptr s 0,.fz wL aL us.length rL] σ K:=by
 have fl:∀{A:Prop},¬A->((false=true)↔A):=λh=>⟨λx=>(by cases x),λx=>absurd x h⟩
 have mG:=hR.P;obtain⟨wp,ap,rp,rfl,jf⟩:=hR.P;refine zD mix Tryz.func91 ?_
 conv=>arg 2;cbv
 refine zF rfl ?_;simp only[Z3,seval,-ae];refine zG (λm vs h'=>∃i:Nat,i<=us.length/\m=us.length-i/\vs=[.ptr s 0,.fz wL aL us.length rL,.int .i64 us.length,.int .i64 i]/\σ=h'/\∀j (h:j<us.length),j<i->isLie p W B/\Zy p W us[j]) us.length ⟨0,by omega,by omega,rfl,rfl,λj h hj=>by omega⟩ ?_
 rintro m vs h' ⟨i,hi,rfl,rfl,rfl,aj⟩
 simp only[Z3,seval,-ae];refine iteI (λah=>?_) λaG=>?_;rotate_left
 .have aK:i=us.length:=by omega
  have bJ:σ.rd s 0 3=some [.int .i64 p,.fz wp ap W.length rp,vB]:=by rw[ze hs.obj];rfl
  simp only[Z3,seval,-ae,bJ];refine zBW hR dU λt ht=>?_;simp only[Z3,seval,-ae];refine hk _ ⟨λe=>⟨ht.1 e,λx hx=>?_⟩,λx=>ht.2 x.1⟩;obtain⟨j,hj,rfl⟩:=List.mem_iff_getElem.1 hx;exact(aj j hj (by omega)).2
 obtain⟨w4,a4,rs,hr,du⟩:=hL.rowL ah;have hF:FII (.fz w4 a4 us[i].length rs) us[i]:=⟨w4,a4,rs,rfl,du⟩;have DT:=sz _ (List.getElem_mem ah);have r1:σ.rd1 s 1=some (.fz wp ap W.length rp):=by rw[zI hs.obj];rfl
 have bad:¬(isLie p W B/\Zy p W us[i])->¬(isLie p W B/\∀u∈us,Zy p W u):=λh x=>h ⟨x.1,x.2 _ (List.getElem_mem ah)⟩;by_cases hg:W.length<us[i].length
 .have sV:(us[i].length:Int) > (W.length:Int):=by omega
  have rH:(W.length:Int)<(us[i].length:Int):=by omega
  simp only[Z3,seval,-ae,ah,hr,r1,sV,rH,decide_true];exact hk _ (fl (bad λx=>by have:=x.2.2.len;omega))
 have sV:¬(us[i].length:Int) > (W.length:Int):=by omega
 have rH:¬(W.length:Int)<(us[i].length:Int):=by omega
 simp only[Z3,seval,-ae,ah,hr,r1,sV,rH,decide_false];refine zCC hs hR dU hF DT λt ht=>?_;cases t with
 |false=>
  simp only[Z3,seval,-ae];exact hk _ (fl (bad λx=>by have:=ht.2 ⟨x.1,x.2.1⟩;cases this))
 |true=>
 obtain⟨hl,he⟩:=ht.1 rfl;have o:=hl.1.w;simp only[Z3,seval,-ae];refine zA4 hs mG o hl.1.1 hF he DT.l λvO out c hO=>?_;simp only[Z3,seval,-ae];have aN:=o.le;have fI:=c.len;have kW:(out=us[i])↔Zy p W us[i]:=⟨λe=>by rw[e]at c;exact⟨he,c⟩,λx=>c.unique o x.2⟩
 refine zBt hO hF (by omega) (λx hx=>by rw[(c.els x hx).1];omega) λt ht=>?_;cases t with
 |false=>
  simp only[Z3,seval,-ae];exact hk _ (fl (bad λx=>by have:=ht.2 (kW.2 x.2);cases this))
 |true=>
 simp only[Z3,seval,-ae,wrapS ah (by omega:us.length<=4611686018427387904)];refine⟨_,by omega,i+1,by omega,rfl,rfl,λj h hj=>?_⟩;by_cases e:j=i
 .subst e;exact⟨hl,kW.1 (ht.1 rfl)⟩
 .exact aj j h (by omega)
theorem zAz{x y:V2}{vY:PV}(hs:PtrR σ s p vP vB)(hR:IsR vP vB W B)(o:OkW p n W)(q:OkB p n B)(hX:FII vX x)(hY:FII vY y)(hU:FII vU u)(ex:Els p n x)(ey:Els p n y)(aW:x.length<=6)(dz:y.length<=6)(hb:Base p n W u)
  (hk:∀t:Bool,(t=true↔∀a∈x,∀b∈y,Gen p n W u (at_ (br p W B n a b)))->K (.bool t) σ):zA Tryz.prog 93 [.ptr s 0,vX,vY,vU] σ K:=by
 have fl:∀{A:Prop},¬A->((false=true)↔A):=λh=>⟨λx=>(by cases x),λx=>absurd x h⟩
 have aN:=o.le;have cq:u.length<=n:=ZV (λv hv=>(hb.led v hv).2.1) hb.asc;refine zD mix Tryz.func93 ?_
 conv=>arg 2;cbv
 refine zF rfl ?_;simp only[Z3,seval,-ae];refine zER hs hR o q hX hY ex ey aW dz λvZ hZ=>?_;have ez:=zCK o q x y;have yr:(brL p W B n x y).length<=36:=by
  rw[zAK]
  have:x.length*y.length<=6*6:=Nat.mul_le_mul aW dz
  omega
 have kW:(∀a∈x,∀b∈y,Gen p n W u (at_ (br p W B n a b)))↔∀z∈brL p W B n x y,Gen p n W u (at_ z):=⟨λh z hz=>by
  obtain⟨a,ha,b,hb,rfl⟩:=Q0.1 hz;exact h a ha b hb,λh a ha b hb=>h _ (Q0.2 ⟨a,ha,b,hb,rfl⟩)⟩
 rw[kW]at hk;clear kW;generalize brL p W B n x y=Z at *
 obtain⟨wz,az,rz,rfl,nZ⟩:=hZ;simp only[Z3,seval,-ae];refine zG (λm vs h'=>∃i:Nat,i<=Z.length/\m=Z.length-i/\vs=[.ptr s 0,vU,.fz wz az Z.length rz,.int .i64 Z.length,.int .i64 i]/\σ=h'/\∀j (h:j<Z.length),j<i->Gen p n W u (at_ Z[j])) Z.length ⟨0,by omega,by omega,rfl,rfl,λj h hj=>by omega⟩ ?_
 rintro m vs h' ⟨i,hi,rfl,rfl,rfl,aj⟩
 simp only[Z3,seval,-ae];refine iteI (λah=>?_) λaG=>?_;rotate_left
 .have aK:i=Z.length:=by omega
  refine hk _ ⟨λ_ z hz=>?_,λ_=>rfl⟩;obtain⟨j,hj,rfl⟩:=List.mem_iff_getElem.1 hz;exact aj j hj (by omega)
 obtain⟨w4,a4,hr⟩:=nZ.rowI ah;have A9:=ez _ (List.getElem_mem ah);simp only[Z3,seval,-ae,ah,hr];refine zC8 hs hR.P o hU (λv hv=>⟨(hb.led v hv).1,(hb.led v hv).2.1⟩) (by omega) A9 rfl λv1=>?_;simp only[Z3,seval,-ae];have bp:=(Zj o hb.els A9).1;have cA:=zGA o hb A9;refine Z8 bp.symm (by omega) ?_;by_cases ck:isZ (redL p W u Z[i])
 .simp only[Z3,seval,-ae,ck,decide_true,wrapS ah (by omega:Z.length<=4611686018427387904)];refine⟨_,by omega,i+1,by omega,rfl,rfl,λj h hj=>?_⟩;by_cases e:j=i
  .subst e;exact cA.1 (ZP ck)
  .exact aj j h (by omega)
 .simp only[Z3,seval,-ae,ck,decide_false];refine hk _ (fl λx=>ck ?_)
  have:=cA.2 (x _ (List.getElem_mem ah))
  exact zNO λj=>this j
variable{vL vV:PV}
theorem zLV{f:FuncId}{bj:List PV}{good:V1->Prop}{P:Nat}(hs:PtrR σ s p vP vB)(hP:FII vP W)(o:OkW p n W)(hp:isP p)(oe:p=(P:Int))(hb:P ^ n<=729)(hf:okF Tryz.prog f=true)
  (hc:∀{h:PHeap} {x:V1} {v:PV} {K':PV->PHeap->Prop},Keep σ h->El p n x->FI v x->(∀t:Bool,(t=true↔good x)->K' (.bool t) h)->zA Tryz.prog f ([]++[v]++bj) h K')
  (hk:∀v out L,Canon p n W L out->(∀x,x∈L↔x∈allE P n/\good x)->FII v out->K v σ):zA Tryz.prog 231 [.ptr s 0,.clo f [] bj] σ K:=by
 have aN:=o.le;have dA:=hp.bd;refine zA.gh ?_;refine zD mix Tryz.func231 ?_
 conv=>arg 2;cbv
 refine zF rfl ?_;simp only[Z3,seval,-ae];refine zNn hs hP o.len aN oe (by omega) hb λvA hA=>?_;obtain⟨wa,aa,ra,rfl,BP⟩:=hA;have yM:=ZX P n;have oN:∀x∈allE P n,El p n x:=λx hx=>by rw[oe];exact zIs (by omega) hx
 generalize allE P n=A at *
 simp only[Z3,seval,-ae];refine zG (λm us h=>∃(i:Nat) (vL:PV) (L:V2) (rows:List PV),i<=A.length/\m=A.length-i/\us=[.ptr s 0,.clo f [] bj,vL,.fz wa aa A.length ra,.int .i64 A.length,.int .i64 i]/\Keep σ h/\PAcc σ.next 1 h vL L.length rows/\All2 FI rows L/\L.length<=i/\∀x,x∈L↔x∈A.take i/\good x) A.length ?_ ?_
 .exact⟨0,_,[],[],by omega,by omega,rfl,Keep.refl σ,PAcc.nil _ _ _,All2.nil _,vM _,λx=>by simp⟩
 rintro m us h ⟨i,vL,L,rows,hi,rfl,rfl,aq,ha,an,Dd,aM⟩
 simp only[Z3,seval,-ae];refine iteI (λah=>?_) λaG=>?_;rotate_left
 .have aK:i=A.length:=by omega
  subst aK;rw[List.take_length]at aM;have eL:Els p n L:=λx hx=>oN x ((aM x).1 hx).1;have fin:∀{g:PHeap} {v:PV} {Q:PV->PHeap->Prop},Keep σ g->FII v L->(∀w,Gh σ K w g->Q w g)->zA Tryz.prog 109 [.ptr s 0,v] g Q:=λ{g v Q} kg hv hQ=>
   zA4 (hs.keep kg) hP o hp hv eL (by omega) λv' out c hO=>hQ _ (Gh.fin0 kg (hO.bel _) (hk v' out L c aM hO))
  rcases ha with ⟨rfl,h1,h2⟩|⟨t,cap,rfl,jv,q2,q3,q4,q5⟩
  .have rU:L=[]:=List.eq_nil_of_length_eq_zero h1;subst rU;simp only[Z3,seval,-ae];refine fin aq ⟨true,.nils,[],rfl,All2.nil _⟩ λw hg=>?_;simp only[Z3,seval,-ae];exact hg
  .have cW:s<σ.next:=hs.lt;have ar:s≠t:=by omega
   simp only[Z3,seval,-ae];refine zA.frz q2 (an.bI 0) λo1=>?_;simp only[sbs,sb,jv.ok,and_self,if_true,ar,false_and,if_false];refine fin (aq.kill q4) ⟨true,_,rows,rfl,an⟩ λw hg=>?_;simp only[Z3,seval,-ae];exact hg
 obtain⟨w4,a4,hr⟩:=BP.rowI ah;have mN:=oN _ (List.getElem_mem ah);have jd:A.take (i+1)=A.take i++[A[i]]:=List.take_succ_eq_append_getElem ah;simp only[Z3,seval,-ae,ah,hr,hf];refine hc aq mN ⟨w4,a4,rfl⟩ λt ht=>?_;cases t with
 |false=>
  have qk:¬good A[i]:=λg=>by have:=ht.2 g;cases this
  simp only[Z3,seval,-ae,wrapS ah (by omega:A.length<=4611686018427387904)];refine⟨_,by omega,i+1,vL,L,rows,by omega,rfl,rfl,aq,ha,an,by omega,λx=>?_⟩;rw[jd,List.mem_append,List.mem_singleton,aM];exact⟨λh=>⟨.inl h.1,h.2⟩,λh=>⟨h.1.resolve_right (λe=>qk (by rw[<-e];exact h.2)),h.2⟩⟩
 |true=>
  have hg:=ht.1 rfl;simp only[Z3,seval,-ae];refine PAcc.push (bytes:=24) aq ha (by omega) (by omega) λv' h2 k2 a2=>?_;simp only[Z3,seval,-ae,wrapS ah (by omega:A.length<=4611686018427387904)];refine⟨_,by omega,i+1,v',L++[A[i]],_,by omega,rfl,rfl,k2,by rw[List.length_append];exact a2.acc,an.snoc ⟨w4,a4,rfl⟩,by rw[List.length_append];exact Nat.succ_le_succ Dd,λx=>?_⟩;rw[jd,List.mem_append,List.mem_append,List.mem_singleton,aM];refine⟨λh=>?_,λh=>?_⟩
  .rcases h with h|h
   .exact⟨.inl h.1,h.2⟩
   .exact⟨.inr h,by rw[h];exact hg⟩
  .rcases h.1 with h1|h1
   .exact .inl ⟨h1,h.2⟩
   .exact .inr h1
theorem zH8{x:V1}{vx:PV}{b1 b2 b3:Nat}(hs:PtrR σ s p vP vB)(hR:IsR vP vB W B)(o:OkW p n W)(q:OkB p n B)(h1:σ.rd1 b1 0=some (.ptr s 0))(h2:σ.rd1 b2 0=some vV)(h3:σ.rd1 b3 0=some vU)(hx:FI vx x)(ex:El p n x)(hV:FII vV v)(hU:FII vU u)(ev:Els p n v)(eF:v.length<=6)(hb:Base p n W u)(yD:b1<σ.next/\b2<σ.next/\b3<σ.next)
  (hk:∀t:Bool,(t=true↔∀b∈v,Gen p n W u (at_ (br p W B n x b)))->K (.bool t) σ):zA Tryz.prog 232 [vx,.ptr b1 0,.ptr b2 0,.ptr b3 0] σ K:=by
 refine zA.gh ?_;refine zD mix Tryz.func232 ?_
 conv=>arg 2;cbv
 refine zF rfl ?_;have r1:(σ.new [vx]).rd1 b1 0=some (.ptr s 0):=by rw[(zC σ _).rd1 yD.1];exact h1
 have r2:(σ.new [vx]).rd1 b2 0=some vV:=by rw[(zC σ _).rd1 yD.2.1];exact h2
 have r3:(σ.new [vx]).rd1 b3 0=some vU:=by rw[(zC σ _).rd1 yD.2.2];exact h3
 have ah:=hs.lt;have ar:s≠σ.next:=by omega
 have dX:¬b1=σ.next:=by omega
 have sM:¬b2=σ.next:=by omega
 have nj:¬b3=σ.next:=by omega
 simp only[Z3,seval,-ae,h1,h2,h3,r1,r2,r3,hx.one,hx.cells,dX,sM,nj];refine zA.frz (s:=σ.next) (cs:=[vx]) (by simp only[Z3,seval,-ae]) ⟨hx.bel 0,trivial⟩ λo1=>?_;have k1:Keep σ ((σ.new [vx]).kill σ.next):=(zC σ _).kill (vM _);have e1:=hU.sb σ.next o1 [vx];have e2:=hV.sb σ.next o1 [vx];generalize (σ.new [vx]).kill σ.next=H at *
 simp only[sbs,sb,capOK,and_self,if_true,decide_true,vM,e1,e2,ar,false_and,if_false];refine zAz (hs.keep k1) hR o q (zPt hx) hV hU (λy hy=>by rw[List.mem_singleton.1 hy];exact ex) ev (by simp) eF hb λt ht=>?_;simp only[Z3,seval,-ae];refine Gh.fin0 k1 trivial (hk t ?_);rw[ht];exact⟨λh=>h x (by simp),λh a ha=>by rw[List.mem_singleton.1 ha];exact h⟩
theorem zJf{P:Nat}(hs:PtrR σ s p vP vB)(hR:IsR vP vB W B)(o:OkW p n W)(q:OkB p n B)(hp:isP p)(oe:p=(P:Int))(hb:P ^ n<=729)(hU:FII vU u)(hV:FII vV v)(ev:Els p n v)(eF:v.length<=6)(CS:Base p n W u)
  (hk:∀w out L,Canon p n W L out->(∀x,x∈L↔x∈allE P n/\∀b∈v,Gen p n W u (at_ (br p W B n x b)))->FII w out->K w σ):zA Tryz.prog 144 [.ptr s 0,vU,vV] σ K:=by
 refine zA.gh ?_;refine zD mix Tryz.func144 ?_
 conv=>arg 2;cbv
 refine zF rfl ?_;simp only[Z3,seval,-ae,hU.one,hU.cells,hV.one,hV.cells];have ah:=hs.lt;have k1:Keep σ (((σ.new [.ptr s 0]).new [vU]).new [vV]):=((zC σ _).new _).new _;have q1:(((σ.new [.ptr s 0]).new [vU]).new [vV]).rd1 σ.next 0=some (.ptr s 0):=by simp only[Z3,seval,-ae]
 have q2:(((σ.new [.ptr s 0]).new [vU]).new [vV]).rd1 (σ.next+1) 0=some vU:=by simp only[Z3,seval,-ae]
 have q3:(((σ.new [.ptr s 0]).new [vU]).new [vV]).rd1 (σ.next+2) 0=some vV:=by simp only[Z3,seval,-ae]
 have hn:(((σ.new [.ptr s 0]).new [vU]).new [vV]).next=σ.next+3:=rfl;generalize ((σ.new [.ptr s 0]).new [vU]).new [vV]=H at *
 refine zLV (good:=λx=>∀b∈v,Gen p n W u (at_ (br p W B n x b))) (hs.keep k1) hR.P o hp oe hb (by kernel_rfl) (λ{h x vx K'} aq hx aX bZ=>?_) λw out L c hL hO=>?_
 .have dk:=aq.next;exact zH8 (hs.keep (k1.trans aq)) hR o q (by rw[aq.rd1 (by omega)];exact q1) (by rw[aq.rd1 (by omega)];exact q3) (by rw[aq.rd1 (by omega)];exact q2) aX hx hV hU ev eF CS ⟨by omega,by omega,by omega⟩ bZ
 .simp only[Z3,seval,-ae];exact Gh.fin0 k1 (hO.bel _) (hk w out L c hL hO)
theorem ipowN(P:Nat):∀k,ipow (P:Int) k=((P ^ k:Nat):Int)
 |0=>rfl
 |k+1=>by rw[ipow,ipowN P k,Nat.pow_succ];push_cast;rfl
theorem zP1:FII (.fz true .nils 0 []) []:=⟨true,.nils,[],rfl,All2.nil _⟩
def CzL(p:Int)(W:V2)(B:V3)(u c:V2):Prop:=∃(P:Nat) (L:V2),p=(P:Int)/\Canon p W.length W L c/\∀x,x∈L↔x∈allE P W.length/\cz p W.length W B u x
theorem zEM(o:OkW p n W){x:V1}(hx:El p n x):Gen p n W [] (at_ x)↔∀j,at_ x j=0:=
 ⟨λh=>(zGP o hx).2 (zKX h),λh=>(zM []).eqv _ _ (Eqv.of_eq h) (zM []).zero⟩
variable{gens:V2}
theorem zJx{xs ys:V2}(hU:FII vU xs)(hV:FII vV ys)(hx:xs.length<=1048576)(aW:∀x∈xs,x.length<=1048576)(hk:∀t:Bool,(t=true↔xs=ys)->K (.bool t) σ):zA Tryz.prog 173 [vU,vV] σ K:=by
 have fl:∀{A:Prop},¬A->((false=true)↔A):=λh=>⟨λx=>(by cases x),λx=>absurd x h⟩
 obtain⟨wA,aA,rA,rfl,Iw⟩:=hU;obtain⟨wB,aB,rB,rfl,Iv⟩:=hV;refine zD mix Tryz.func173 ?_
 conv=>arg 2;cbv
 refine zF rfl ?_;by_cases hl:xs.length=ys.length;rotate_left
 .have bu:¬(xs.length:Int)=(ys.length:Int):=by omega
  simp only[Z3,seval,-ae,bu];exact hk _ (fl λh=>hl (by rw[h]))
 have bu:(xs.length:Int)=(ys.length:Int):=by omega
 simp only[Z3,seval,-ae,eq_true bu];refine zG (λm vs h'=>∃i:Nat,i<=xs.length/\m=xs.length-i/\vs=[.fz wA aA xs.length rA,.fz wB aB ys.length rB,.int .i64 i]/\σ=h'/\xs.take i=ys.take i) xs.length ?_ ?_
 .exact⟨0,by omega,by omega,rfl,rfl,rfl⟩
 rintro m vs h' ⟨i,hi,rfl,rfl,rfl,heq⟩
 simp only[Z3,seval,-ae];refine iteI (λah=>?_) λaG=>?_;rotate_left
 .have aK:i=xs.length:=by omega
  subst aK;rw[List.take_length,hl,List.take_length]at heq;exact hk _ ⟨λ_=>heq,λ_=>rfl⟩
 have aD:i<ys.length:=by omega
 obtain⟨w4,a4,hr⟩:=Iw.rowI ah;obtain⟨w5,a5,my⟩:=Iv.rowI aD;have hb:=aW _ (List.getElem_mem ah);simp only[Z3,seval,-ae,ah,aD,hr,my];refine Qg rfl rfl (by omega) ?_;by_cases he:xs[i]=ys[i]
 .simp only[Z3,seval,-ae,he,wrapS ah (by omega:xs.length<=4611686018427387904)];refine⟨_,by omega,i+1,by omega,rfl,rfl,?_⟩;rw[List.take_succ_eq_append_getElem ah,List.take_succ_eq_append_getElem aD,heq,he]
 .simp only[Z3,seval,-ae,he];refine hk _ (fl λh=>he ?_);subst h;rfl
theorem zKD(hR:IsR vP vB W B)(dU:SzR W B)(hU:FII vU u)(sz:SzL u)(hk:∀t:Bool,(t=true↔isLie p W B/\Zy p W u)->K (.bool t) σ):zA Tryz.prog 82 [.agg [.int .i64 p,vP,vB],vU] σ K:=by
 have fl:∀{A:Prop},¬A->((false=true)↔A):=λh=>⟨λx=>(by cases x),λx=>absurd x h⟩
 have h1:=hR.P.one;have h2:=hR.B.one;have fE:=hR;obtain⟨⟨wp,ap,rp,rfl,jf⟩,hB⟩:=hR;obtain⟨wu,au,ru,rfl,dt⟩:=hU;have hU:FII (.fz wu au u.length ru) u:=⟨wu,au,ru,rfl,dt⟩;refine zA.gh ?_;refine zD mix Tryz.func82 ?_
 conv=>arg 2;cbv
 refine zF rfl ?_;simp only[Z3,seval,-ae,h1,h2];have aq:Keep σ (σ.new [.int .i64 p,.fz wp ap W.length rp,vB]):=zC σ _;have bJ:(σ.new [.int .i64 p,.fz wp ap W.length rp,vB]).rd σ.next 0 3=some [.int .i64 p,.fz wp ap W.length rp,vB]:=by simp only[Z3,seval,-ae]
 have mz:(σ.new [.int .i64 p,.fz wp ap W.length rp,vB]).rd1 σ.next 1=some (.fz wp ap W.length rp):=by simp only[Z3,seval,-ae]
 generalize σ.new [.int .i64 p,.fz wp ap W.length rp,vB]=H at *
 refine zAC fE dU λt ht=>?_;cases t with
 |false=>
  simp only[Z3,seval,-ae,bJ,mz];exact Gh.fin0 aq trivial (hk _ (fl λx=>by have:=ht.2 x.1;cases this))
 |true=>
 have hl:=ht.1 rfl;have o:=hl.1.w;have aN:=o.le;by_cases hle:u.length<=W.length;rotate_left
 .have nl:¬(u.length:Int)<=(W.length:Int):=by omega
  simp only[Z3,seval,-ae,bJ,mz,nl,hle,decide_false];exact Gh.fin0 aq trivial (hk _ (fl λx=>hle x.2.2.len))
 have nl:(u.length:Int)<=(W.length:Int):=by omega
 simp only[Z3,seval,-ae,bJ,mz,nl,hle,decide_true];refine Qc fE hU sz o.pr λt gQ=>?_;cases t with
 |false=>
  simp only[Z3,seval,-ae,bJ];exact Gh.fin0 aq trivial (hk _ (fl λx=>by have:=gQ.2 x.2.1;cases this))
 |true=>
 have he:=gQ.1 rfl;simp only[Z3,seval,-ae,bJ];refine Qb fE o hl.1.1 hU he sz.l λvO out c hO=>?_;simp only[Z3,seval,-ae];refine zJx hU hO sz.l sz.r λt mw=>?_;simp only[Z3,seval,-ae];refine Gh.fin0 aq trivial (hk _ (mw.trans ⟨λe=>⟨hl,he,by rw[<-e]at c;exact c⟩,λx=>x.2.2.unique o c⟩))
theorem zEe{x:V1}(hR:IsR vP vB W B)(o:OkW p n W)(hU:FII vU u)(hb:Base p n W u)(hx:FI vX x)(ex:El p n x)(hk:∀t:Bool,(t=true↔Gen p n W u (at_ x))->K (.bool t) σ):zA Tryz.prog 175 [.agg [.int .i64 p,vP,vB],vU,vX] σ K:=by
 have h1:=hR.P.one;have h2:=hR.B.one;have aN:=o.le;have cq:u.length<=n:=ZV (λv hv=>(hb.led v hv).2.1) hb.asc;obtain⟨wx,ax,rfl⟩:=hx;refine zA.gh ?_;refine zD mix Tryz.func175 ?_
 conv=>arg 2;cbv
 refine zF rfl ?_;simp only[Z3,seval,-ae,h1,h2];have aq:Keep σ (σ.new [.int .i64 p,vP,vB]):=zC σ _;generalize σ.new [.int .i64 p,vP,vB]=H at *
 refine zAB hR o hU (λv hv=>⟨(hb.led v hv).1,(hb.led v hv).2.1⟩) (by omega) ex rfl λv1=>?_;have bp:=(Zj o hb.els ex).1;have cA:=zGA o hb ex;simp only[Z3,seval,-ae];refine Qf bp.symm (by omega) ?_;simp only[Z3,seval,-ae];refine Gh.fin0 aq trivial (hk _ ?_);rw[decide_eq_true_eq,<-cA];exact⟨λh j=>ZP h j,λh=>zNO h⟩
theorem zEF(hR:IsR vP vB W B)(o:OkW p n W)(hp:isP p)(hU:FII vU u)(hV:FII vV v)(eu:Els p n u)(ev:Els p n v)(hl:u.length+v.length<=1048576)
  (hk:∀z out,Canon p n W (u++v) out->FII z out->K z σ):zA Tryz.prog 225 [.agg [.int .i64 p,vP,vB],vU,vV] σ K:=by
 have h1:=hR.P.one;have h2:=hR.B.one;obtain⟨wu,au,ru,rfl,dt⟩:=hU;obtain⟨wv,av,rv,rfl,fW⟩:=hV;refine zA.gh ?_;refine zD mix Tryz.func225 ?_
 conv=>arg 2;cbv
 refine zF rfl ?_;simp only[Z3,seval,-ae,h1,h2];generalize hH:σ.new [.int .i64 p,vP,vB]=H;have gZ:H.next=σ.next+1:=by rw[<-hH];rfl
 have fR:Keep σ H:=by rw[<-hH];exact zC σ _
 have eT:H.obj σ.next=some [.int .i64 p,vP,vB]:=by rw[<-hH];simp only[Z3,seval,-ae]
 refine PSl.cat (bytes:=24) (σb:=H) (n:=0) (cs:=[]) (zC H _) (by rw[<-gZ];exact PSl.new _ 1 rfl (vM _)) dt.1 (by omega) (by omega) λv1 g1 k1 a1=>?_;rw[Nat.zero_add,List.nil_append]at a1;have BU:g1.rd σ.next 0 3=some [.int .i64 p,vP,vB]:=by rw[ze (show g1.obj σ.next=some _ by rw[k1.obj _ (by omega)];exact eT)];rfl
 simp only[Z3,seval,-ae,BU];refine PSl.cat (bytes:=24) (σb:=H) k1 a1 fW.1 (by omega) (by omega) λv2 g2 k2 a2=>?_;obtain⟨t,cap,rfl,hc,q2,q3,q4,q5⟩:=a2;have bJ:g2.rd σ.next 0 3=some [.int .i64 p,vP,vB]:=by rw[ze (show g2.obj σ.next=some _ by rw[k2.obj _ (by omega)];exact eT)];rfl
 have aT:=dt.append fW;simp only[Z3,seval,-ae,bJ];refine zA.frz q2 (aT.bI 0) λo1=>?_;have e1:=hR.P.sb t o1 (ru++rv);have e2:=hR.B.sb t o1 (ru++rv);simp only[sbs,sb,hc.ok,and_self,if_true,e1,e2];refine Qb hR o hp ⟨true,_,_,by rw[List.length_append],aT⟩ (λx hx=>by
  rcases List.mem_append.1 hx with e|e
  .exact eu x e
  .exact ev x e) (by rw[List.length_append];omega) λz out c hz=>?_
 simp only[Z3,seval,-ae];exact Gh.fin0 ((fR.trans k2).kill (by omega)) (hz.bel _) (hk z out c hz)
theorem zFW(hR:IsR vP vB W B)(o:OkW p n W)(q:OkB p n B)(nf:qE p W B n)(hp:isP p)(hL:FII vL gens)(he:Els p n gens)(jI:gens.length<=1048576)
  (hk:∀v u,ClsOf p n W B False gens u->FII v u->K v σ):zA Tryz.prog 139 [.agg [.int .i64 p,vP,vB],vL] σ K:=by
 have h1:=hR.P.one;have h2:=hR.B.one;have aN:=o.le;refine zA.gh ?_;refine zD mix Tryz.func139 ?_
 conv=>arg 2;cbv
 refine zF rfl ?_;simp only[Z3,seval,-ae,h1,h2];have aq:Keep σ (σ.new [.int .i64 p,vP,vB]):=zC σ _;have bJ:(σ.new [.int .i64 p,vP,vB]).rd σ.next 0 3=some [.int .i64 p,vP,vB]:=by simp only[Z3,seval,-ae]
 generalize σ.new [.int .i64 p,vP,vB]=H at *
 refine Qb hR o hp hL he jI λvU u c hU=>?_;simp only[Z3,seval,-ae];refine zG (λm us h=>∃vU u,m=n-u.length/\us=[.ptr σ.next 0,vU]/\H=h/\FII vU u/\Grw p n W B False gens u) (n-u.length) ⟨vU,u,rfl,rfl,rfl,hU,Grw.start c⟩ ?_;clear c hU u vU
 rintro m us h ⟨vU,u,rfl,rfl,rfl,hU,hg⟩
 have cq:=hg.len o;have eu:=hg.base.els;simp only[Z3,seval,-ae,bJ];refine Qd hR o q hp hU hU eu eu (by omega) (by omega) λvY y cy hY=>?_;have dz:=cy.len;simp only[Z3,seval,-ae,bJ];refine zEF hR o hp hU hY eu cy.els (by omega) λvO out c hO=>?_;have r:=zHX o q nf (.inr ⟨λh=>h,rfl⟩) cy c;have fI:=c.len;obtain⟨wo,ao,ro,rfl,kB⟩:=hO;obtain⟨wu,au,ru,rfl,dt⟩:=hU;by_cases hlen:out.length=u.length
 .have aY:(out.length:Int)=(u.length:Int):=by omega
  simp only[Z3,seval,-ae,aY,hlen,decide_true];exact Gh.fin0 aq trivial (hk _ u (hg.done o r (by omega)) ⟨wu,au,ru,rfl,dt⟩)
 .have aY:¬(out.length:Int)=(u.length:Int):=by omega
  have ve:=hg.less o r hlen;simp only[Z3,seval,-ae,aY,hlen,decide_false];exact⟨n-out.length,by omega,_,out,rfl,rfl,⟨wo,ao,ro,rfl,kB⟩,hg.next r⟩
theorem zJj(hR:IsR vP vB W B)(o:OkW p n W)(q:OkB p n B)(nf:qE p W B n)(hp:isP p)(hL:FII vL gens)(he:Els p n gens)(jI:gens.length<=1048576)
  (hk:∀v u,ClsOf p n W B True gens u->FII v u->K v σ):zA Tryz.prog 226 [.agg [.int .i64 p,vP,vB],vL] σ K:=by
 have h1:=hR.P.one;have h2:=hR.B.one;have aN:=o.le;refine zA.gh ?_;refine zD mix Tryz.func226 ?_
 conv=>arg 2;cbv
 refine zF rfl ?_;simp only[Z3,seval,-ae,h1,h2];have aq:Keep σ (σ.new [.int .i64 p,vP,vB]):=zC σ _;have bJ:(σ.new [.int .i64 p,vP,vB]).rd σ.next 0 3=some [.int .i64 p,vP,vB]:=by simp only[Z3,seval,-ae]
 generalize σ.new [.int .i64 p,vP,vB]=H at *
 refine Qb hR o hp hL he jI λvU u c hU=>?_;simp only[Z3,seval,-ae];refine zG (λm us h=>∃vU u,m=n-u.length/\us=[.ptr σ.next 0,vU]/\H=h/\FII vU u/\Grw p n W B True gens u) (n-u.length) ⟨vU,u,rfl,rfl,rfl,hU,Grw.start c⟩ ?_;clear c hU u vU
 rintro m us h ⟨vU,u,rfl,rfl,rfl,hU,hg⟩
 have cq:=hg.len o;have eu:=hg.base.els;simp only[Z3,seval,-ae,bJ];refine Qi hR o.len (by omega) λvW hW=>?_;simp only[Z3,seval,-ae,bJ];refine Qd hR o q hp hU hW eu (ZW o.pr) (by omega) (by rw[qG];omega) λvY y cy hY=>?_;have dz:=cy.len;simp only[Z3,seval,-ae,bJ];refine zEF hR o hp hU hY eu cy.els (by omega) λvO out c hO=>?_;have r:=zHX o q nf (.inl ⟨trivial,rfl⟩) cy c;have fI:=c.len;obtain⟨wo,ao,ro,rfl,kB⟩:=hO;obtain⟨wu,au,ru,rfl,dt⟩:=hU;by_cases hlen:out.length=u.length
 .have aY:(out.length:Int)=(u.length:Int):=by omega
  simp only[Z3,seval,-ae,aY,hlen,decide_true];exact Gh.fin0 aq trivial (hk _ u (hg.done o r (by omega)) ⟨wu,au,ru,rfl,dt⟩)
 .have aY:¬(out.length:Int)=(u.length:Int):=by omega
  have ve:=hg.less o r hlen;simp only[Z3,seval,-ae,aY,hlen,decide_false];exact⟨n-out.length,by omega,_,out,rfl,rfl,⟨wo,ao,ro,rfl,kB⟩,hg.next r⟩
theorem zPB{P n k:Nat}(h:k<P ^ n):(allE P n).take (k+1)=(allE P n).take k++[digs P n k]:=by
 have hl:k<(allE P n).length:=by rw[ZX];exact h
 rw[List.take_succ_eq_append_getElem hl,zCm hl]
theorem zJl{list:V2}{P:Nat}(hR:IsR vP vB W B)(o:OkW p n W)(q:OkB p n B)(hp:isP p)(oe:p=(P:Int))(hb:P ^ n<=729)(hL:FII vL list)(eL:Els p n list)(kL:list.length<=1048576)(hU:FII vU u)(CS:Base p n W u)
  (hk:∀w out L,Canon p n W L out->(∀x,x∈L↔x∈allE P n/\∀b∈list,Gen p n W u (at_ (br p W B n x b)))->FII w out->K w σ):zA Tryz.prog 145 [.agg [.int .i64 p,vP,vB],vL,vU] σ K:=by
 have fE:=hR;have aN:=o.le;have dA:=hp.bd;have mF:=o.len;have h1:=hR.P.one;have h2:=hR.B.one;obtain⟨⟨wp,ap,rp,rfl,jf⟩,Dk⟩:=hR;obtain⟨wl,al,rl,rfl,bp⟩:=hL;refine zA.gh ?_;refine zD mix Tryz.func145 ?_
 conv=>arg 2;cbv
 refine zF rfl ?_;simp only[Z3,seval,-ae,h1,h2];generalize hH:σ.new [.int .i64 p,.fz wp ap W.length rp,vB]=H;have gZ:H.next=σ.next+1:=by rw[<-hH];rfl
 have fR:Keep σ H:=by rw[<-hH];exact zC σ _
 have eT:H.obj σ.next=some [.int .i64 p,.fz wp ap W.length rp,vB]:=by rw[<-hH];simp only[Z3,seval,-ae]
 refine zG (λm us h=>∃(k:Nat) (v:PV) (out L:V2) (rows:List PV),k<=P ^ n/\m=P ^ n-k/\us=[.fz wl al list.length rl,vU,.ptr σ.next 0,v,.int .i64 k]/\Keep H h/\PSl H.next 1 h v out.length rows/\All2 FI rows out/\Canon p n W L out/\∀x,x∈L↔x∈(allE P n).take k/\∀b∈list,Gen p n W u (at_ (br p W B n x b))) (P ^ n) ?_ ?_
 .refine⟨0,_,[],[],[],by omega,by omega,rfl,zC H _,?_,All2.nil _,⟨.nil,List.Pairwise.nil,λf=>Iff.rfl⟩,λx=>by simp⟩;rw[<-gZ];exact PSl.new H.next 1 rfl (vM _)
 rintro m us h ⟨k,v,out,L,rows,Mr,rfl,rfl,aq,ps,an,bE,aM⟩
 have eo:h.obj σ.next=some [.int .i64 p,.fz wp ap W.length rp,vB]:=by rw[aq.obj _ (by omega)];exact eT
 have bJ:h.rd σ.next 0 3=some [.int .i64 p,.fz wp ap W.length rp,vB]:=by rw[ze eo];rfl
 have iF:h.rd1 σ.next 0=some (.int .i64 p):=by rw[zI eo];rfl
 have mz:h.rd1 σ.next 1=some (.fz wp ap W.length rp):=by rw[zI eo];rfl
 have fI:=bE.len;simp only[Z3,seval,-ae,iF,mz];refine zCd dA (by omega) λkk a1 a2 a3 a4=>?_;have fL:kk=((P ^ n:Nat):Int):=by
  rw[oe,ipowN,mF]at a1 a2;exact a2 (a1.2 (by omega))
 subst fL;clear a1 a2 a3 a4;simp only[Z3,seval,-ae];refine iteI (λah=>?_) λaG=>?_;rotate_left
 .have dJ:k=P ^ n:=by omega
  subst dJ;rw[List.take_of_length_le (by rw[ZX];exact vM _)]at aM;obtain⟨t,cap,rfl,hc,q2,q3,q4,q5⟩:=ps;exact Gh.finF (fR.trans aq) q2 (by omega) (an.bI 0) hc.ok λo1=>hk _ out L bE aM ⟨true,.sl o1 0 out.length cap,rows,rfl,an⟩
 have di:k<P ^ n:=by omega
 simp only[Z3,seval,-ae,bJ];refine zOq fE mF aN oe (by omega) (by omega) λvX hX=>?_;have ex:=zGQ (P:=P) (by omega) n k;rw[<-oe]at ex;have jd:=zPB (P:=P) (n:=n) di;generalize digs P n k=x at *
 simp only[Z3,seval,-ae,bJ];obtain⟨t,cap,rfl,hc,q2,q3,q4,q5⟩:=ps;refine zA.lend (s:=t) q2 (an.bI 0) λo1=>?_;have J1:=hX.sb t o1 rows;have Kr:=Dk.sb t o1 rows;simp only[sbs,sb,hc.ok,and_self,if_true,J1,Kr,nm_eq];refine zEe fE o ⟨true,_,rows,rfl,an⟩ bE.base hX ex λtt yg=>⟨rfl,⟨_,rfl⟩,?_⟩
 have yZ:IntKind.i64.wrap ((k:Int)+1)=((k+1:Nat):Int):=by rw[wrap64 (by omega) (by omega)];omega
 obtain⟨wx,ax,rfl⟩:=hX;have hX:FI (.fz wx ax x.length (pis x)) x:=⟨wx,ax,rfl⟩
 -- y7 is left to do when pn DK Ls Hr
 have skip:(Gen p n W out (at_ x)\/¬∀b∈list,Gen p n W u (at_ (br p W B n x b)))->∃L',Canon p n W L' out/\∀y,y∈L'↔y∈(allE P n).take (k+1)/\∀b∈list,Gen p n W u (at_ (br p W B n y b)):=λhs=>by
  by_cases hg:∀b∈list,Gen p n W u (at_ (br p W B n x b))
  .have hx:=hs.resolve_right λh=>h hg;refine⟨L++[x],bE.trans λf=>⟨λhf=>qw (λy hy=>?_) hf,zb λy hy=>List.mem_append_left _ hy⟩,λy=>?_⟩
   .rcases List.mem_append.1 hy with e|e
    .exact zQ e
    .rw[List.mem_singleton.1 e];exact(bE.gen _).2 hx
   .rw[jd,List.mem_append,List.mem_append,List.mem_singleton,aM];refine⟨λh=>?_,λh=>?_⟩
    .rcases h with h|h
     .exact⟨.inl h.1,h.2⟩
     .exact⟨.inr h,by rw[h];exact hg⟩
    .rcases h.1 with h1|h1
     .exact .inl ⟨h1,h.2⟩
     .exact .inr h1
  .refine⟨L,bE,λy=>?_⟩;rw[jd,List.mem_append,List.mem_singleton,aM];exact⟨λh=>⟨.inl h.1,h.2⟩,λh=>⟨h.1.resolve_right λe=>hg (by rw[<-e];exact h.2),h.2⟩⟩
 have take:(∀b∈list,Gen p n W u (at_ (br p W B n x b)))->∀jz,Canon p n W (out++[x]) jz->∃L',Canon p n W L' jz/\∀y,y∈L'↔y∈(allE P n).take (k+1)/\∀b∈list,Gen p n W u (at_ (br p W B n y b)):=λhg jz c'=>by
  refine⟨L++[x],⟨c'.base,c'.red,λf=>Iff.trans ⟨qw λy hy=>?_,qw λy hy=>?_⟩ (c'.gen f)⟩,λy=>?_⟩
  .rcases List.mem_append.1 hy with e|e
   .exact zb (λz hz=>List.mem_append_left _ hz) ((bE.gen _).1 (zQ e))
   .exact zQ (List.mem_append_right _ e)
  .rcases List.mem_append.1 hy with e|e
   .exact zb (λz hz=>List.mem_append_left _ hz) ((bE.gen _).2 (zQ e))
   .exact zQ (List.mem_append_right _ e)
  .rw[jd,List.mem_append,List.mem_append,List.mem_singleton,aM];refine⟨λh=>?_,λh=>?_⟩
   .rcases h with h|h
    .exact⟨.inl h.1,h.2⟩
    .exact⟨.inr h,by rw[h];exact hg⟩
   .rcases h.1 with h1|h1
    .exact .inl ⟨h1,h.2⟩
    .exact .inr h1
 simp only[Z3,seval,-ae];refine zG (λm us g=>∃(i:Nat) (b:Bool),i<=list.length/\m=list.length-i/\us=[.fz wl al list.length rl,vU,.ptr σ.next 0,.sl t 0 out.length cap,.int .i64 k,.fz wx ax x.length (pis x),.bool b,.int .i64 i]/\h=g/\(b=true->¬Gen p n W out (at_ x)/\∀j (hj:j<list.length),j<i->Gen p n W u (at_ (br p W B n x list[j])))/\(b=false->Gen p n W out (at_ x)\/¬∀b∈list,Gen p n W u (at_ (br p W B n x b)))) list.length ?_ ?_
 .refine⟨0,!tt,by omega,by omega,rfl,rfl,λhb=>⟨λhg=>?_,λj hj h0=>by omega⟩,λhb=>.inl (yg.1 (by simpa using hb))⟩
  have:=yg.2 hg
  rw[this]at hb;cases hb
 rintro m us g ⟨i,b,hi,rfl,rfl,rfl,Fb,JD⟩
 simp only[Z3,seval,-ae];cases b with
 |false=>
  obtain⟨L',c',m'⟩:=skip (JD rfl);by_cases aH:i<list.length
  .have iM:(i:Int)<(list.length:Int):=by omega
   simp only[Z3,seval,-ae,aH,iM,decide_true,yZ];exact⟨_,by omega,k+1,_,out,L',rows,by omega,rfl,rfl,aq,⟨t,cap,rfl,hc,q2,q3,q4,q5⟩,an,c',m'⟩
  .have iM:¬(i:Int)<(list.length:Int):=by omega
   simp only[Z3,seval,-ae,aH,iM,decide_false,yZ];exact⟨_,by omega,k+1,_,out,L',rows,by omega,rfl,rfl,aq,⟨t,cap,rfl,hc,q2,q3,q4,q5⟩,an,c',m'⟩
 |true=>
 obtain⟨qk,aj⟩:=Fb rfl;by_cases aH:i<list.length
 .have iM:(i:Int)<(list.length:Int):=by omega
  obtain⟨w5,a5,iE⟩:=bp.rowI aH;have Lh:=eL _ (List.getElem_mem aH);simp only[Z3,seval,-ae,aH,iM,decide_true,bJ,iE];refine qF fE o q ex Lh rfl rfl λa6=>?_;have Fc:=br_el o q (a:=x) (b:=list[i]);have jM:=Fc.1;simp only[Z3,seval,-ae,bJ,iE,aH];refine zEe fE o hU CS (x:=br p W B n x list[i]) ⟨true,a6,by rw[jM]⟩ Fc λt2 gQ=>?_;simp only[Z3,seval,-ae,bJ,iE,aH,wrapS aH (by omega:list.length<=4611686018427387904)];refine⟨_,by omega,i+1,t2,by omega,rfl,rfl,λe=>⟨qk,λj hj I3=>?_⟩,λe=>.inr λhg=>?_⟩
  .by_cases e2:j=i
   .subst e2;exact gQ.1 e
   .exact aj j hj (by omega)
  .have:=gQ.2 (hg _ (List.getElem_mem aH))
   rw[this]at e;cases e
 have iM:¬(i:Int)<(list.length:Int):=by omega
 have hg:∀b∈list,Gen p n W u (at_ (br p W B n x b)):=λb hb=>by
  obtain⟨j,hj,rfl⟩:=List.mem_iff_getElem.1 hb;exact aj j hj (by omega)
 have Cb:¬σ.next=h.next:=by have:=aq.next;omega
 simp only[Z3,seval,-ae,aH,iM,decide_false,bJ,Cb];refine PSl.push (bytes:=24) (σb:=H) aq ⟨t,cap,rfl,hc,q2,q3,q4,q5⟩ (by omega) (by omega) λv2 h2 k2 a2=>?_;obtain⟨t2,gL,rfl,gY,b2,b3,b4,b5⟩:=a2;have Ca:h2.obj σ.next=some [.int .i64 p,.fz wp ap W.length rp,vB]:=by rw[k2.obj _ (by omega)];exact eT
 have BS:h2.rd σ.next 0 3=some [.int .i64 p,.fz wp ap W.length rp,vB]:=by rw[ze Ca];rfl
 have aT:=an.snoc hX;simp only[Z3,seval,-ae,BS];refine zA.frz b2 (aT.bI 0) λo2=>?_;have Dj:=Dk.sb t2 o2 (rows++[.fz wx ax x.length (pis x)]);simp only[sbs,sb,gY.ok,and_self,if_true,Dj,nm_eq];refine zGj fE o hp (gens:=out++[x]) ⟨true,_,_,by rw[List.length_append];rfl,aT⟩ (λy hy=>by
  rcases List.mem_append.1 hy with e|e
  .exact bE.els y e
  .rw[List.mem_singleton.1 e];exact ex) (by rw[List.length_append,List.length_singleton];omega) λjz tu aZ c' fX wC=>?_
 obtain⟨L',d',m'⟩:=take hg jz c';have pz:Keep H (h2.kill t2):=k2.kill b4;simp only[Z3,seval,-ae,yZ];exact⟨_,by omega,k+1,_,jz,L',tu,by omega,rfl,rfl,pz.new _,⟨_,aZ,rfl,wC,by rw[zP];exact if_pos rfl,by rw[fX.1,Nat.mul_one],pz.next,Nat.lt_succ_self _⟩,fX,d',m'⟩
end Go.Proofs
namespace Go.Grp
end Go.Grp
namespace Go.Proofs
open Go.Ab Go.Lie Go.Grp
variable{σ h h':PHeap}{K:PV->PHeap->Prop}{O x:V1}{P:V2}{C:V3}{vO vP vC vx vL vU:PV}{L u:V2}{sp:Nat}
def ZE(O:V1)(P:V2)(C:V3)(u:V2):Prop:=(∀x∈u,gS O x)/\CanG O (GC O P C u) u
theorem zDJ(g:LG O P C)(hs:PtrG σ sp vO vP vC)(hR:IsPr vO vP vC O P C)(hL:FII vL L)(hg:∀x∈L,gS O x)(yK:L.length<=1000000)
  (hk:∀v u,FII v u->CanG O (GC O P C L) u->K v σ):zA Tryz.prog 96 [.ptr sp 0,vL] σ K:=by
 have s:=g.s;have F:=g.F;have hC:=g.cent;have hp:=qx.isp g.pr;have rU:=hL;obtain⟨wl,al,rl,rfl,bp⟩:=hL;refine zA.gh ?_;refine zD mix Tryz.func96 ?_
 conv=>arg 2;cbv
 refine zF rfl ?_;simp only[Z3,seval,-ae];refine zCB s hs hR λss sb h1 k1 n1 n2 q1=>?_;simp only[Z3,seval,-ae];refine zNp s F hC hp q1 hR (OkD.start O.length rfl) ⟨by simp,λk c r hc hr=>?_⟩ (QI.start _) rU hg yK λt rb' D' fH jY J9 wP hf dS=>?_
 .rw[List.getElem?_replicate]at hc hr;split at hc
  .rename_i h;rw[if_pos h]at hr;cases hc;cases hr;exact .inl ⟨rfl,rfl⟩
  .cases hc
 simp only[Z3,seval,-ae];refine zDS s F hC (q1.setB rb') hR jY fH λv u f1 cd=>?_;simp only[Z3,seval,-ae];exact Gh.fin0 (k1.set n2 _) (f1.bel _) (hk v u f1 (cd.can s F hC jY J9 λN hN=>(wP N hN).trans ⟨λh=>h.2,λh=>⟨InD.start _,h⟩⟩))
theorem ZE.len(h:ZE O P C u):u.length<=O.length:=h.2.len
theorem zBo{wL:Bool}{aL:AV}(g:LG O P C)(hs:PtrG σ sp vO vP vC)(hR:IsPr vO vP vC O P C)(sz:SzP O P C)(hU:FII vU u)(hJ:SzL u)(hk:∀t:Bool,(t=true↔ZE O P C u)->K (.bool t) σ):zA Tryz.prog 107 [.ptr sp 0,.fz wL aL 1 [vU]] σ K:=by
 have fl:∀{A:Prop},¬A->((false=true)↔A):=λh=>⟨λx=>(by cases x),λx=>absurd x h⟩
 have s:=g.s;have F:=g.F;have aN:=s.le;have r3:σ.rd sp 0 3=some [vO,vP,vC]:=by rw[ze hs.obj];rfl
 have aJ:=hR;obtain⟨⟨w0,a0,rfl⟩,_,_⟩:=hR;have r1:σ.rd1 sp 0=some (.fz w0 a0 O.length (pis O)):=by rw[zI hs.obj];rfl
 have cq:=hJ.l;have Fe:=hU;obtain⟨wu,au,ru,rfl,dt⟩:=hU;refine zD mix Tryz.func107 ?_
 conv=>arg 2;cbv
 refine zF rfl ?_;simp only[Z3,seval,-ae,r3];refine zBr aJ sz λt ht=>?_;obtain rfl:t=true:=ht.2 ⟨g.pr,g.co⟩;clear ht;simp only[Z3,seval,-ae];refine zG (λm us h'=>∃i:Nat,i<=1/\m=1-i/\us=[.ptr sp 0,.fz wL aL 1 [.fz wu au u.length ru],.int .i64 ((1:Nat):Int),.int .i64 i]/\σ=h'/\(i=1->ZE O P C u)) 1 ⟨0,by omega,by omega,rfl,rfl,λh=>by omega⟩ ?_
 rintro m us h' ⟨i,hi,rfl,rfl,rfl,aj⟩
 rcases Nat.lt_or_ge i 1 with CA|CA;rotate_left
 .obtain rfl:i=1:=by omega
  have n1:¬(((1:Nat):Int)<((1:Nat):Int)):=by omega
  simp only[Z3,seval,-ae,n1,decide_false];exact hk true ⟨λ_=>aj rfl,λ_=>rfl⟩
 obtain rfl:i=0:=by omega
 have n0:((0:Nat):Int)<((1:Nat):Int):=by omega
 have HA:(0:Int)<((1:Nat):Int):=by omega
 have Hz:(0:Nat)<1:=by omega
 simp only[Z3,seval,-ae,n0,HA,Hz,decide_true,r1];refine iteI (λEZ=>?_) λhle=>?_
 .refine hk _ (fl λh=>?_)
  have:=h.len
  omega
 have nl:u.length<=O.length:=by omega
 refine zG (λm us h'=>∃i:Nat,i<=u.length/\m=u.length-i/\us=[.ptr sp 0,.fz wu au u.length ru,.fz wL aL 1 [.fz wu au u.length ru],.int .i64 ((1:Nat):Int),.int .i64 ((0:Nat):Int),.fz wu au u.length ru,.int .i64 u.length,.int .i64 i]/\σ=h'/\∀x∈u.take i,isExp O x) u.length ⟨0,by omega,by omega,rfl,rfl,by simp⟩ ?_
 rintro m us h' ⟨i,jt,rfl,rfl,rfl,lD⟩
 simp only[Z3,seval,-ae];refine iteI (λah=>?_) λaG=>?_;rotate_left
 .have aK:i=u.length:=by omega
  subst aK;rw[List.take_length]at lD;have CB:∀x∈u,gS O x:=λx hx=>(lD x hx).gS;simp only[Z3,seval,-ae];refine zDJ g hs aJ Fe CB (by omega) λv z hv hz=>?_;simp only[Z3,seval,-ae];have dQ:=hz.len;refine zBt hv Fe (by omega) (λx hx=>by have:=(hz.one x hx).1.len;omega) λt ht=>?_;cases t with
  |false=>
   simp only[Z3,seval,-ae];refine hk _ (fl λh=>?_)
   have:=ht.2 (hz.unique s F (GC.sub F CB) h.2)
   cases this
  |true=>
   have e:=ht.1 rfl;have w1:IntKind.i64.wrap (((0:Nat):Int)+1)=((1:Nat):Int):=by rw[wrap64 (by omega) (by omega)];omega
   simp only[Z3,seval,-ae,w1];exact⟨0,by omega,1,vM _,by omega,rfl,λ_=>⟨CB,by rw[e]at hz;exact hz⟩⟩
 obtain⟨w4,a4,hr⟩:=dt.rowI ah;have mq:=hJ.r _ (List.getElem_mem ah);simp only[Z3,seval,-ae,ah,hr];refine zCF hs aJ.O (by omega) (qx.isp g.pr) ⟨w4,a4,rfl⟩ mq λt ht=>?_;cases t with
 |false=>
  simp only[Z3,seval,-ae];refine hk _ (fl λh=>?_)
  have:=ht.2 (zQw.2 (h.1 _ (List.getElem_mem ah)))
  cases this
 |true=>
 have h1:=ht.1 rfl;simp only[Z3,seval,-ae,wrapS ah (by omega:u.length<=4611686018427387904)];refine⟨_,by omega,i+1,by omega,rfl,rfl,λx hx=>?_⟩;rw[List.take_succ_eq_append_getElem ah,List.mem_append,List.mem_singleton]at hx;rcases hx with hx|hx
 .exact lD x hx
 .rw[hx];exact h1
theorem zOl(g:LG O P C){H:V1->Prop}(hH:gB O P C H)(hu:CanG O H u){x z:V1}(hx:gS O x)(hz:gS O z)(h0:∀v∈u,at_ z (dep v)=0)(hN:∀N,gB O P C N->(∀v∈u,N v)->(N x↔N z)):z=zv O↔H x:=by
 have s:=g.s;constructor
 .rintro rfl
  exact(hN H hH hu.mem).2 hH.one
 .intro h;have H3:=(hN H hH hu.mem).1 h;rcases Nat.lt_or_ge (dep z) O.length with hd|hd
  .obtain⟨v,hv,e⟩:=hu.all z H3 hd;exact absurd (by rw[<-e];exact h0 v hv) (qa (by rw[hz.len];exact hd))
  .exact zDP hz hd
theorem zC7(hU:FII vU [])(aX:FI vx [])(hk:∀w a,K (.fz w a 0 []) σ):zA Tryz.prog 209 [.ptr sp 0,vU,vx] σ K:=by
 obtain⟨wx,ax,rfl⟩:=aX;have oH:=hU;obtain⟨wl,al,rl,rfl,bp⟩:=hU;refine zA.gh ?_;refine zD mix Tryz.func209 ?_
 conv=>arg 2;cbv
 refine zF rfl ?_;simp only[Z3,seval,-ae];refine Zh rfl (by simp) ⟨λh0=>?_,λcap hc=>?_⟩
 .simp only[Z3,seval,-ae];refine zBe oH (λv hv=>by cases hv) (by simp) λvp=>?_;simp only[Z3,seval,-ae];refine zG (λm vs h'=>vs=[.ptr sp 0,.fz wl al 0 rl,.fz true .nils 0 [],.fz true vp 0 (pis (deps [])),.int .i64 0,.int .i64 0]/\h'=σ) 0 ⟨rfl,rfl⟩ ?_
  rintro m vs h' ⟨rfl,rfl⟩
  simp only[Z3,seval,-ae];exact Gh.fin0 (Keep.refl _) trivial (hk _ _)
 .simp only[Z3,seval,-ae];refine zBe oH (λv hv=>by cases hv) (by simp) λvp=>?_;simp only[Z3,seval,-ae];refine zG (λm vs h'=>vs=[.ptr sp 0,.fz wl al 0 rl,.sl σ.next 0 0 cap,.fz true vp 0 (pis (deps [])),.int .i64 0,.int .i64 0]/\h'=σ.new []) 0 ⟨rfl,rfl⟩ ?_
  rintro m vs h' ⟨rfl,rfl⟩
  simp only[Z3,seval,-ae];exact Gh.finF (s:=σ.next) (cs:=[]) (zC σ _) (by simp only[Z3,seval,-ae]) (vM _) trivial hc.ok λo=>hk _ _
theorem zEK(g:LG O P C)(hs:PtrG σ sp vO vP vC)(hR:IsPr vO vP vC O P C)(hU:FII vU u)(hu:ZE O P C u)(hx:gS O x)(aX:FI vx x)(hk:∀t:Bool,(t=true↔GC O P C u x)->K (.bool t) σ):zA Tryz.prog 120 [.ptr sp 0,vU,vx] σ K:=by
 have s:=g.s;have F:=g.F;have aN:=s.le;have cq:=hu.len;rcases Nat.eq_zero_or_pos O.length with hn|hn
 .obtain rfl:u=[]:=List.eq_nil_of_length_eq_zero (by omega);obtain rfl:x=[]:=List.eq_nil_of_length_eq_zero (by rw[hx.len,hn]);refine zD mix Tryz.func120 ?_
  conv=>arg 2;cbv
  refine zF rfl ?_;simp only[Z3,seval,-ae];refine zC7 hU aX λw a=>?_;simp only[Z3,seval,-ae];refine Z8 (xs:=[]) rfl (by simp) ?_;simp only[Z3,seval,-ae];refine hk _ ?_;rw[decide_eq_true_iff];refine⟨λ_=>?_,λ_ x hx=>by cases hx⟩
  have:=(GC.sub (L:=[]) F (λx hx=>by cases hx)).one
  rwa[show zv O=[] from List.eq_nil_of_length_eq_zero (by simp[zv,hn])]at this
 refine zD mix Tryz.func120 ?_
 conv=>arg 2;cbv
 refine zF rfl ?_;simp only[Z3,seval,-ae];refine zA0 s F g.cent hn hs hR hU hu.2.one hu.2.asc (by omega) hx aX λo cap z hz h1 h0 hN=>?_;have dQ:=hz.len;simp only[Z3,seval,-ae];refine Z8 dQ.symm (by omega) ?_;simp only[Z3,seval,-ae];refine hk _ ?_;rw[decide_eq_true_iff,zIK dQ];exact zOl g (GC.sub F hu.1) hu.2 hx hz h0 hN
end Go.Proofs
namespace Go.Proofs
open Go.Ab Go.Lie
variable{σ h h':PHeap}{K:PV->PHeap->Prop}{vC vP vB:PV}{bs:V1}{s n:Nat}{p:Int}{W:V2}{B:V3}
theorem zPc{T h:PHeap}{n t l:Nat}{v:PV}{cs:List PV}{cap:Cap}{x:V1}{K:PV×PHeap->Prop}(w:PWF T)(so:So h s vC bs)(hs:s<T.next)(km:KM T s h)(a:PSl T.next 1 h v n cs)
  (h1:(n+1)*24<=140737488355328) (h2:n+1<=4611686018427387904) (hx:h.obj t=some (pis x)) (ht:T.next<=t) (gu:t<h.next) (ar:∀off l c,v≠.sl t off l c) (hc:capOK cap l=true) (hb:Bels 0 cs)
  (k:∀v' h',h'.obj t=some (pis x)->(∀o,KM T s ((h'.kill t).sub t o (pis x))/\So ((h'.kill t).sub t o (pis x)) s vC bs/\PSl T.next 1 ((h'.kill t).sub t o (pis x)) v' (n+1) (cs++[.fz true (.sl o 0 l cap) l (pis x)])/\sb t o (pis x) v'=v'/\(∀u ds,u≠t->Bels 0 ds->h'.obj u=some ds->((h'.kill t).sub t o (pis x)).obj u=some ds))->
   KM T s h'->K (v',h')):optK (qU 1 24 (h.new [.sl t 0 l cap]) v (.sl h.next 0 1 (.known 1))) K:=by
 have LZ:=km;obtain⟨σ',m,q⟩:=km;have hn:=m.next;have cU:So σ' s vC bs:=by
  obtain⟨a0,nJ,S⟩:=so;exact⟨a0,nJ,by rw[<-q.obj s (by omega)];exact S.obj,by omega,S.fb,S.byt,S.le,S.sd⟩
 have w':PWF σ':=by
  obtain⟨c0,c1,g0,g1,rfl⟩:=m;exact PWF.setS w g0 g1
 refine PAcc.pushS (bytes:=24) (σb:=σ') q (by rw[hn];exact a.acc) rfl h1 h2 λv' h' k1 a1 o1 n1 l1=>?_;refine k v' h' (by rw[o1 t gu ar];exact hx) (λo=>?_) ⟨σ',m,k1⟩;have f:=PSl.fzr w' k1 a1 (s:=t) (cs:=pis x) (by omega) (n1 t gu) o;refine⟨⟨σ',m,f.1⟩,cU.keep f.1,?_,f.2.2,λu ds hu hd ho=>?_⟩
 .have:=f.2.1
  rw[zB6 hb hc,hn]at this;exact this
 .have:=QK (o:=o) (xs:=pis x) hu ho
  rw[QL (Nat.zero_le _) hd]at this;exact this
theorem zCb(so:So σ s vC bs)(hR:IsR vP vB W B)(hp:-4611686018427387904<=p/\p<=4611686018427387904)(hl:W.length<=1048000)
  (hk:∀v xs h,FII v xs->xs.length<=3->(∀x∈xs,x.length<=W.length+1)->Mv σ s h->So h s vC bs->K v h):zA Tryz.prog 137 [.ptr s 0,.agg [.int .i64 p,vP,vB]] σ K:=by
 have g1:=hR.P.one;have g2:=hR.B.one;have bK:=so.lt;refine zA.pwf λw=>zA.gh ?_;generalize hT:σ.new [.int .i64 p,vP,vB]=T;have cJ:T.next=σ.next+1:=by rw[<-hT];rfl
 have cg:Keep σ T:=by rw[<-hT];exact zC σ _
 have dp:So T s vC bs:=so.keep cg;have bQ:s<T.next:=dp.lt;have wT:PWF T:=by rw[<-hT];exact w.newB ⟨trivial,hR.P.bel _,hR.B.bel _,trivial⟩
 have fU:T.obj σ.next=some [.int .i64 p,vP,vB]:=by rw[<-hT];simp only[Z3,seval,-ae]
 have jS:∀{g:PHeap},KM T s g->g.rd σ.next 0 3=some [.int .i64 p,vP,vB]:=λ{g} k=>by
  have ob:=k.obj (t:=σ.next) (by omega) (by omega);rw[fU]at ob;rw[ze ob];rfl
 refine zD mix Tryz.func137 ?_
 conv=>arg 2;cbv
 refine zF rfl ?_;simp only[Z3,seval,-ae,g1,g2];rw[hT];refine zw (dp.keep (zC _ _)) (by decide) λc h0 hc m0 GW=>?_;have cD:=hc.1;have oE:c<4:=hc.2.2 (by decide);obtain⟨k0,rfl⟩:=Int.eq_ofNat_of_zero_le cD;simp only[Z3,seval,-ae];refine ZG (λm us h=>∃(k:Nat) (v:PV) (xs:V2) (rows:List PV),m=k/\k+xs.length<=3/\us=[.ptr s 0,.ptr σ.next 0,v,.int .i64 k]/\KM T s h/\So h s vC bs/\PSl T.next 1 h v xs.length rows/\All2 FI rows xs/\∀x∈xs,x.length<=W.length+1) k0 ?_ ?_
 .refine .here ⟨k0,.sl T.next 0 0 (.known 0),[],[],rfl,by simp;omega,by first|(rw[cJ];rfl)|rfl,((dp.kmK (zC _ _)).mv bQ m0),GW,zBN (PSl.new _ 1 rfl (vM _)) bQ m0,All2.nil _,λx hx=>by cases hx⟩
 rintro m us h ⟨k,v,xs,rows,rfl,Mp,rfl,km,dP,ps,an,aW⟩
 have r3:=jS km;simp only[Z3,seval,-ae];by_cases eC:m=0
 .subst eC;have Cu:¬((0:Nat):Int) > 0:=by omega
  simp only[Z3,seval,-ae,Cu];refine Gh.km ((so.kmK cg).trans bK km) dP bK λσ' m' cU kp=>?_;obtain⟨t,cap,rfl,jv,q2,q3,q4,q5⟩:=ps;exact Gh.finF (s:=t) kp q2 (by rw[m'.next];omega) (an.bI 0) jv.ok λo=>hk _ xs σ' ⟨_,_,_,rfl,an⟩ (by omega) aW m' cU
 have aq:(m:Int) > 0:=by omega
 have Cr:(0:Int)<(m:Int):=aq;simp only[Z3,seval,-ae,aq,Cr,r3];refine zHB dP hR hp (by omega) λx h2 cap bh hx m2 dy=>?_;simp only[Z3,seval,-ae];have sM:h.next=h2.next:=m2.next.symm;have J6:=km.next;refine zG (λmm us h3=>∃(i:Nat) (y:V1),i<=x.length/\mm=x.length-i/\us=[.ptr s 0,.ptr σ.next 0,v,.int .i64 m,.sl h.next 0 x.length cap,.int .i64 i]/\y.length=x.length/\KM T s h3/\So h3 s vC bs/\PSl T.next 1 h3 v xs.length rows/\h3.obj h.next=some (pis y)/\h.next<h3.next/\(∀off l c,v≠.sl h.next off l c)) x.length ?_ ?_
 .refine⟨0,x,Nat.zero_le _,rfl,rfl,rfl,(km.mv bQ m2).new _,dy.keep (zC _ _),(zBN ps bQ m2).keep (zC _ _),by rw[zP,if_pos sM],by rw[sM];exact Nat.lt_succ_self _,λoff l c e=>?_⟩;obtain⟨t,cap,rfl,jv,q2,q3,q4,q5⟩:=ps;cases e;omega
 rintro mm us h3 ⟨i,y,hi,rfl,rfl,dz,eY,dO,D2,o3,tN,x8⟩
 have fin:∀{g:PHeap} {Q:PV×PHeap->Prop},KM T s g->So g s vC bs->PSl T.next 1 g v xs.length rows->g.obj h.next=some (pis y)->h.next<g.next->(∀off l c,v≠.sl h.next off l c)->
   (∀v' h',GL (λus h=>∃(k:Nat) (v:PV) (xs:V2) (rows:List PV),m-1=k/\k+xs.length<=3/\us=[.ptr s 0,.ptr σ.next 0,v,.int .i64 k]/\KM T s h/\So h s vC bs/\PSl T.next 1 h v xs.length rows/\All2 FI rows xs/\∀x∈xs,x.length<=W.length+1) [.ptr s 0,.ptr σ.next 0,v',.int .i64 ((m-1:Nat):Int)] h'->Q (v',h'))->
   optK (qU 1 24 (g.new [.sl h.next 0 x.length cap]) v (.sl g.next 0 1 (.known 1))) Q:=by
  intro g Q kg sg pg og lg ng hQ;refine zPc wT sg bQ kg pg (by omega) (by omega) og (by omega) lg ng bh.ok (an.bI 0) λv' h' ho fP _=>?_;refine hQ v' h' (.fzh h.next _ ho (zL _ _) λo=>?_);obtain⟨f1,f2,f3,f4,_⟩:=fP o;refine .here ⟨m-1,v',xs++[y],_,rfl,by simp;omega,by simp only[sbs,sb,f4],f1,f2,by rw[List.length_append];exact f3,an.snoc ⟨true,.sl o 0 x.length cap,by rw[dz]⟩,λz hz=>?_⟩;rcases List.mem_append.1 hz with e|e
  .exact aW z e
  .rw[List.mem_singleton.1 e,dz];exact hx
 have wk:IntKind.i64.wrap ((m:Int)-1)=((m-1:Nat):Int):=by rw[wrap64 (by omega) (by omega)];omega
 by_cases ah:i<x.length;rotate_left
 .have aE:¬(i:Int)<(x.length:Int):=by omega
  simp only[Z3,seval,-ae,aE,decide_false,wk];refine fin eY dO D2 o3 tN x8 λv' h' gl=>?_;simp only[Z3,seval,-ae,wk];exact⟨m-1,by omega,gl⟩
 have aE:(i:Int)<(x.length:Int):=by omega
 have bB:IntKind.i64.wrap ((i:Int)+1)=((i+1:Nat):Int):=wrapS ah (by omega);simp only[Z3,seval,-ae,aE,ah,decide_true];refine zw dO (by decide) λz h4 hz m4 dV=>?_;have ig:=eY.mv bQ m4;have D1:=zBN D2 bQ m4;have o4:h4.obj h.next=some (pis y):=by rw[m4.obj (by omega)];exact o3
 have Es:h.next<h4.next:=by rw[m4.next];exact tN
 by_cases ck:z=0;rotate_left
 .simp only[Z3,seval,-ae,ck,decide_false,wk];refine fin ig dV D1 o4 Es x8 λv' h' gl=>?_;simp only[Z3,seval,-ae,wk];exact⟨m-1,by omega,gl⟩
 have hw:=QS (v:=.int .i64 0) (i:=i) o4 (by rw[zJ,dz];exact ah) rfl;rw[zB8]at hw;simp only[Z3,seval,-ae,ck,decide_true,ah,aE,hw,bB];refine⟨_,by omega,i+1,y.set i 0,by omega,rfl,rfl,by rw[List.length_set];exact dz,ig.set (by omega) _,dV.set (by omega) _,?_,by first|rfl|rw[zH,if_pos rfl],Es,x8⟩;exact Qq D1 (λt off l c e=>by rw[zH,if_neg (λe2=>by subst e2;exact x8 off l c e)]) (vM _)
variable{u c d:V2}
theorem CzL.unique(o:OkW p W.length W)(h:CzL p W B u c)(g:CzL p W B u d):c=d:=by
 obtain⟨P,L,hp,hc,hL⟩:=h;obtain⟨Q,M,hq,hd,hM⟩:=g;obtain rfl:P=Q:=by omega
 have e:∀x,x∈L↔x∈M:=λx=>(hL x).trans (hM x).symm;exact zDT o hc.base hc.red hd.base hd.red (λf hf=>(hd.gen f).1 (zb (λx hx=>(e x).1 hx) ((hc.gen f).2 hf))) (λf hf=>(hc.gen f).1 (zb (λx hx=>(e x).2 hx) ((hd.gen f).2 hf)))
variable{vL vU:PV}{x:V1}
theorem zH9{list:V2}(hR:IsR vP vB W B)(o:OkW p n W)(hU:FII vU u)(hb:Base p n W u)(hL:FII vL list)(eL:Els p n list)(kL:list.length<=1048576)
  (hk:∀t:Bool,(t=true↔∀x∈list,Gen p n W u (at_ x))->K (.bool t) σ):zA Tryz.prog 84 [.agg [.int .i64 p,vP,vB],vU,vL] σ K:=by
 have h1:=hR.P.one;have h2:=hR.B.one;obtain⟨wl,al,rl,rfl,bp⟩:=hL;refine zA.gh ?_;refine zD mix Tryz.func84 ?_
 conv=>arg 2;cbv
 refine zF rfl ?_;simp only[Z3,seval,-ae,h1,h2];have bJ:(σ.new [.int .i64 p,vP,vB]).rd σ.next 0 3=some [.int .i64 p,vP,vB]:=by simp only[Z3,seval,-ae]
 have fR:Keep σ (σ.new [.int .i64 p,vP,vB]):=zC σ _;generalize σ.new [.int .i64 p,vP,vB]=H at *
 refine zG (λm us h=>∃i:Nat,i<=list.length/\m=list.length-i/\us=[vU,.fz wl al list.length rl,.ptr σ.next 0,.int .i64 i]/\H=h/\∀j (hj:j<list.length),j<i->Gen p n W u (at_ list[j])) list.length ⟨0,by omega,by omega,rfl,rfl,λj hj h0=>by omega⟩ ?_
 rintro m us h ⟨i,hi,rfl,rfl,rfl,aj⟩
 simp only[Z3,seval,-ae];refine iteI (λah=>?_) λaG=>?_;rotate_left
 .refine Gh.fin0 fR trivial (hk _ ⟨λ_ x hx=>?_,λ_=>rfl⟩);obtain⟨j,hj,rfl⟩:=List.mem_iff_getElem.1 hx;exact aj j hj (by omega)
 obtain⟨w5,a5,iE⟩:=bp.rowI ah;simp only[Z3,seval,-ae,ah,iE,bJ];refine zEe hR o hU hb (x:=list[i]) ⟨w5,a5,rfl⟩ (eL _ (List.getElem_mem ah)) λt ht=>?_;cases t with
 |false=>
  simp only[Z3,seval,-ae,ah,iE,bJ];exact Gh.fin0 fR trivial (hk _ ⟨λe=>(by cases e),λh=>by have:=ht.2 (h _ (List.getElem_mem ah));cases this⟩)
 |true=>
  simp only[Z3,seval,-ae,ah,iE,bJ,wrapS ah (by omega:list.length<=4611686018427387904)];refine⟨_,by omega,i+1,by omega,rfl,rfl,λj hj I3=>?_⟩;by_cases e:j=i
  .subst e;exact ht.1 rfl
  .exact aj j hj (by omega)
def isId(p:Int)(n:Nat)(W:V2)(B:V3)(u:V2):Prop:=∀a∈u,∀b∈units n,Gen p n W u (at_ (br p W B n a b))
variable{va vb:PV}{xs ys:V2}
theorem Zg(ha:FII va xs)(hb:FII vb ys)(sz:SzL xs)(hk:∀t:Bool,(t=true↔xs=ys)->K (.bool t) σ):zA Tryz.prog 26 [va,vb] σ K:=by
 obtain⟨wx,ax,rx,rfl,BJ⟩:=ha;obtain⟨wy,ay,ry,rfl,BI⟩:=hb;have hl:=sz.l;refine zD mix Tryz.func26 ?_
 conv=>arg 2;cbv
 refine zF rfl ?_;simp only[Z3,seval,-ae];by_cases jb:xs.length=ys.length;rotate_left
 .have ar:¬(xs.length:Int)=(ys.length:Int):=by omega
  simp only[Z3,seval,-ae,ar];exact hk false ⟨λh=>(by cases h),λh=>absurd (by rw[h]) jb⟩
 have heq:(xs.length:Int)=(ys.length:Int):=by omega
 simp only[Z3,seval,-ae,heq];refine zG (λm us g=>∃i:Nat,i<=ys.length/\m=ys.length-i/\us=[.fz wx ax xs.length rx,.fz wy ay ys.length ry,.int .i64 i]/\g=σ/\∀j,j<i->xs[j]? = ys[j]?) ys.length ⟨0,by omega,by omega,rfl,rfl,λj hj=>absurd hj (Nat.not_lt_zero _)⟩ ?_
 rintro m us g ⟨i,hi,rfl,rfl,rfl,he⟩
 simp only[Z3,seval,-ae,heq];refine iteI (λah=>?_) λaG=>?_;rotate_left
 .refine hk true ⟨λ_=>List.ext_getElem? λj=>?_,λ_=>rfl⟩;rcases Nat.lt_or_ge j i with e|e
  .exact he j e
  .rw[List.getElem?_eq_none (by omega),List.getElem?_eq_none (by omega)]
 have fK:i<xs.length:=by omega
 have fa:i<ys.length:=by omega
 have bB:IntKind.i64.wrap ((i:Int)+1)=((i+1:Nat):Int):=wrapS fa (by omega);obtain⟨w1,a1,h1⟩:=BJ.rowI fK;obtain⟨w2,a2,h2⟩:=BI.rowI fa;have hle:=sz.r _ (List.getElem_mem fK);simp only[Z3,seval,-ae,h1,h2,fK,fa];refine zED ⟨w1,a1,rfl⟩ ⟨w2,a2,rfl⟩ hle λt ht=>?_;cases t with
 |false=>
  simp only[Z3,seval,-ae];refine hk false ⟨λh=>(by cases h),λh=>?_⟩
  have:=ht.2 (by simp only[h])
  cases this
 |true=>
  have hv:=ht.1 rfl;simp only[Z3,seval,-ae,bB];refine⟨_,by omega,i+1,by omega,rfl,rfl,λj hj=>?_⟩;rcases Nat.lt_or_ge j i with e|e
  .exact he j e
  .obtain rfl:j=i:=by omega
   rw[List.getElem?_eq_getElem fK,List.getElem?_eq_getElem fa,hv]
theorem zNt(hR:IsR vP vB W B)(dU:SzR W B)(hU:FII vU u)(hl:isLie p W B)(sp:Zy p W u)
  (hk:∀t:Bool,(t=true↔isId p W.length W B u)->K (.tup [.bool t,.int .i64 0]) σ):zA Tryz.prog 49 [.agg [.int .i64 p,vP,vB],vU] σ K:=by
 have h1:=hR.P.one;have h2:=hR.B.one;have o:=hl.1.w;have aN:=o.le;have cq:=sp.2.len;refine zA.gh ?_;refine zD mix Tryz.func49 ?_
 conv=>arg 2;cbv
 refine zF rfl ?_;simp only[Z3,seval,-ae,h1,h2,hU.one,hU.cells];refine zA.frz (s:=σ.next+1) (cs:=[vU]) (by simp only[Z3,seval,-ae]) ⟨hU.bel 0,trivial⟩ λo1=>?_;have aq:Keep σ (((σ.new [.int .i64 p,vP,vB]).new [vU]).kill (σ.next+1)):=((zC σ _).new _).kill (by omega);have gT:PtrR (((σ.new [.int .i64 p,vP,vB]).new [vU]).kill (σ.next+1)) σ.next p vP vB:=⟨by simp only[Z3,seval,-ae],by simp only[Z3,seval,-ae];omega⟩
 generalize ((σ.new [.int .i64 p,vP,vB]).new [vU]).kill (σ.next+1)=H at *
 simp only[sbs,sb,capOK,and_self,if_true,decide_true,vM];refine zCL (us:=[u]) gT hR dU ((All2.nil FII).snoc hU) (by simp) (by simp) (λx hx=>by rw[List.mem_singleton.1 hx];exact zKH o sp.1 (by omega)) λt ht=>?_;obtain rfl:t=true:=ht.2 ⟨hl,λx hx=>by rw[List.mem_singleton.1 hx];exact sp⟩;simp only[Z3,seval,-ae];refine zAa gT hR.P rfl (by omega) λvW hW=>?_;simp only[Z3,seval,-ae];refine zAz gT hR o hl.1.b hU hW hU sp.1 (ZW o.pr) (by omega) (by rw[qG];omega) sp.2.base λt ht=>?_;simp only[Z3,seval,-ae];exact Gh.fin0 aq ⟨trivial,trivial,trivial⟩ (hk t ht)
theorem zG9{va vb:PV}{xs ys:V3}(ha:FIII va xs)(hb:FIII vb ys)(hl:xs.length<=1048576)(sz:∀q∈xs,SzL q)(hk:∀t:Bool,(t=true↔xs=ys)->K (.bool t) σ):zA Tryz.prog 122 [va,vb] σ K:=by
 have fl:∀{A:Prop},¬A->((false=true)↔A):=λh=>⟨λx=>(by cases x),λx=>absurd x h⟩
 obtain⟨wx,ax,rx,rfl,BJ⟩:=ha;obtain⟨wy,ay,ry,rfl,BI⟩:=hb;refine zD mix Tryz.func122 ?_
 conv=>arg 2;cbv
 refine zF rfl ?_;simp only[Z3,seval,-ae];by_cases jb:xs.length=ys.length;rotate_left
 .have ar:¬(xs.length:Int)=(ys.length:Int):=by omega
  simp only[Z3,seval,-ae,ar];exact hk _ (fl λh=>jb (by rw[h]))
 have ar:(xs.length:Int)=(ys.length:Int):=by omega
 simp only[Z3,seval,-ae,eq_true ar];refine zG (λm vs h'=>∃i:Nat,i<=xs.length/\m=xs.length-i/\vs=[.fz wx ax xs.length rx,.fz wy ay ys.length ry,.int .i64 i]/\σ=h'/\xs.take i=ys.take i) xs.length ⟨0,by omega,by omega,rfl,rfl,rfl⟩ ?_
 rintro m vs h' ⟨i,hi,rfl,rfl,rfl,heq⟩
 simp only[Z3,seval,-ae];refine iteI (λah=>?_) λaG=>?_;rotate_left
 .have aK:i=xs.length:=by omega
  subst aK;rw[List.take_length,jb,List.take_length]at heq;exact hk _ ⟨λ_=>heq,λ_=>rfl⟩
 have aD:i<ys.length:=by omega
 obtain⟨w4,a4,r4,hr,BR⟩:=BJ.rowL ah;obtain⟨w5,a5,r5,my,iE⟩:=BI.rowL aD;simp only[Z3,seval,-ae,ah,aD,hr,my];refine Zg (xs:=xs[i]) (ys:=ys[i]) ⟨w4,a4,r4,rfl,BR⟩ ⟨w5,a5,r5,rfl,iE⟩ (sz _ (List.getElem_mem ah)) λt ht=>?_;cases t with
 |true=>
  simp only[Z3,seval,-ae,wrapS ah (by omega:xs.length<=4611686018427387904)];refine⟨_,by omega,i+1,by omega,rfl,rfl,?_⟩;rw[List.take_succ_eq_append_getElem ah,List.take_succ_eq_append_getElem aD,heq,ht.1 rfl]
 |false=>
  simp only[Z3,seval,-ae];refine hk _ (fl λh=>?_)
  have:=ht.2 (by subst h;rfl)
  cases this
end Go.Proofs
namespace Go.Proofs
open Go.Ab Go.Lie Go.Grp
variable{σ:PHeap}{K:PV->PHeap->Prop}{c:Nat}{p:Int}{W:V2}{B:V3}{vP vB:PV}{s:Nat}{O:V1}{P:V2}{C:V3}{vO vQ vC:PV}
def LGR(p:Int)(W:V2)(B:V3)(O:V1)(P:V2)(C:V3)(c:Int):Prop:=
 (CodeL p W B [] c/\c≠0/\O=[]/\P=[]/\C=[])\/(CodeL p W B [] 0/\c=0/\O=List.replicate W.length p/\P=lgPs p W.length W B W.length/\C=lgCs p W.length W B W.length)
theorem LGR.unique{O':V1}{P':V2}{C':V3}{c c':Int}(h:LGR p W B O P C c)(g:LGR p W B O' P' C' c'):(O=O'/\P=P'/\C=C')/\c=c':=by
 rcases h with ⟨h1,h2,h3,h4,h5⟩|⟨h1,h2,h3,h4,h5⟩<;>rcases g with ⟨g1,g2,g3,g4,g5⟩|⟨g1,g2,g3,g4,g5⟩
 .exact⟨⟨by rw[h3,g3],by rw[h4,g4],by rw[h5,g5]⟩,h1.unique g1⟩
 .exact absurd (h1.unique g1) h2
 .exact absurd (g1.unique h1) g2
 .exact⟨⟨by rw[h3,g3],by rw[h4,g4],by rw[h5,g5]⟩,by rw[h2,g2]⟩
theorem lg_bd{c:Int}(h:LGR p W B O P C c):SzP O P C:=by
 rcases h with ⟨_,_,rfl,rfl,rfl⟩|⟨h1,_,rfl,rfl,rfl⟩
 .exact⟨by simp,⟨by simp,λy hy=>by cases hy⟩,⟨by simp,λy hy=>by cases hy⟩⟩
 .have h6:=h1.zero.1.1.1.w.le;refine⟨by simp;omega,⟨by simp[lgPs];omega,λy hy=>?_⟩,⟨by simp[lgCs];omega,λq hq=>?_⟩⟩
  .obtain⟨i,_,rfl⟩:=List.mem_map.1 hy;rw[show(lgP p W.length W B i).length=W.length from Zi _];omega
  .obtain⟨i,_,rfl⟩:=List.mem_map.1 hq;refine⟨by simp[lgR];omega,λy hy=>?_⟩;obtain⟨k,_,rfl⟩:=List.mem_map.1 hy;rw[show(lgC p W.length W B i k).length=W.length from Zi _];omega
theorem zHJ(hR:IsR vP vB W B)(dU:SzR W B)
  (hk:∀vO vQ vC O P C c t,LGR p W B O P C c->IsPr vO vQ vC O P C->Own σ.top t (.agg [vO,vQ,vC])->σ.top<=t->K (.tup [.agg [vO,vQ,vC],.int .i64 c]) (σ.up t)):zA Tryz.prog 37 [.agg [.int .i64 p,vP,vB]] σ K:=by
 have h1:=hR.P.one;have h2:=hR.B.one;refine zA.gh ?_;generalize hT:(σ.new [.int .i64 p,vP,vB]).new [.fz true .nils 0 [],.fz true .nils 0 [],.fz true .nils 0 []]=T;have cJ:T.next=σ.next+2:=by rw[<-hT];rfl
 have J4:T.top=σ.top:=by rw[<-hT];rfl
 have cg:Keep σ T:=by rw[<-hT];exact(zC σ _).new _
 have hs:PtrR T σ.next p vP vB:=⟨by rw[<-hT];simp only[Z3,seval,-ae],by omega⟩
 have lJ:∀{g:PHeap} {u0 u1 u2:PV},Keep T g->u0.one=true->u1.one=true->u2.one=true->g.wr (σ.next+1) 0 [u0,u1,u2]=some (g.set (σ.next+1) [u0,u1,u2])/\(g.set (σ.next+1) [u0,u1,u2]).rd (σ.next+1) 0 3=some [u0,u1,u2]:=λ{g u0 u1 u2} k z0 z1 z2=>by
  have aI:g.obj (σ.next+1)=some [.fz true .nils 0 [],.fz true .nils 0 [],.fz true .nils 0 []]:=by rw[k.obj _ (by omega),<-hT];simp only[Z3,seval,-ae]
  exact⟨by rw[qC aI,if_pos ⟨by simp,by simp only[List.all_cons,List.all_nil,z0,z1,z2];rfl⟩];rfl,by rw[qh,if_pos rfl];rfl⟩
 refine zD mix Tryz.func37 ?_
 conv=>arg 2;cbv
 refine zF rfl ?_;simp only[Z3,seval,-ae,h1,h2];rw[hT];refine zCs (xs:=[]) hs hR dU ⟨true,.nils,[],rfl,All2.nil _⟩ ⟨by simp,λy hy=>by cases hy⟩ λc hc=>?_;by_cases cD:c=0;rotate_left
 .obtain⟨g1,g2⟩:=lJ (Keep.refl T) (u0:=.fz true .nils 0 []) (u1:=.fz true .nils 0 []) (u2:=.fz true .nils 0 []) rfl rfl rfl;simp only[Z3,seval,-ae,cD,g1,g2];exact Gh.fin0T (t:=σ.top) (cg.set (by omega) _) (by show σ.top<=T.top;omega) ⟨⟨trivial,trivial,trivial,trivial⟩,trivial,trivial⟩ λ_=>hk _ _ _ [] [] [] _ σ.top (.inl ⟨hc,cD,rfl,rfl,rfl⟩) ⟨⟨true,.nils,rfl⟩,⟨true,.nils,[],rfl,All2.nil _⟩,⟨true,.nils,[],rfl,All2.nil _⟩⟩ ⟨⟨.inl rfl,.inl rfl,.inl rfl,trivial⟩,List.nodup_nil,λo ho=>by cases ho⟩ (vM _)
 subst cD;obtain⟨⟨hl,_⟩,hz⟩:=hc.zero;obtain⟨cc,lz⟩:=Lz.of hl hz;simp only[Z3,seval,-ae];refine zAy lz hs hR λvO vQ vC t f1 f2 f3 ho ht=>?_;have bw:IsPr vO vQ vC (List.replicate W.length p) (lgPs p W.length W B W.length) (lgCs p W.length W B W.length):=⟨f1,f2,f3⟩;obtain⟨g1,g2⟩:=lJ ((Keep.refl T).up ht) f1.one f2.one f3.one;simp only[Z3,seval,-ae,g1,g2];refine Gh.fin0T (t:=t) ((cg.up ht).set (by omega) _) (vM _) ⟨⟨f1.bel _,f2.bel _,f3.bel _,trivial⟩,trivial,trivial⟩ λ_=>hk _ _ _ _ _ _ _ t (.inr ⟨hc,rfl,rfl,rfl,rfl⟩) bw (by rw[J4]at ho;exact ho) (by omega)
theorem zDz(hR:IsR vP vB W B)(dU:SzR W B)
  (hk:∀vO vQ vC O P C c,LGR p W B O P C c->IsPr vO vQ vC O P C->K (.tup [.agg [vO,vQ,vC],.int .i64 c]) σ):zA Tryz.prog 28 [.agg [.int .i64 p,vP,vB]] σ K:=by
 have h1:=hR.P.one;have h2:=hR.B.one;refine zA.gh ?_;generalize hT:(σ.new [.int .i64 p,vP,vB]).new [.fz true .nils 0 [],.fz true .nils 0 [],.fz true .nils 0 []]=T;have cJ:T.next=σ.next+2:=by rw[<-hT];rfl
 have cg:Keep σ T:=by rw[<-hT];exact(zC σ _).new _
 have ld:∀{g:PHeap},Keep T g->g.rd σ.next 0 3=some [.int .i64 p,vP,vB]:=λ{g} k=>by
  have ob:g.obj σ.next=some [.int .i64 p,vP,vB]:=by rw[k.obj _ (by omega),<-hT];simp only[Z3,seval,-ae]
  rw[ze ob];rfl
 have lJ:∀{g:PHeap} {u0 u1 u2:PV},Keep T g->u0.one=true->u1.one=true->u2.one=true->g.wr (σ.next+1) 0 [u0,u1,u2]=some (g.set (σ.next+1) [u0,u1,u2])/\(g.set (σ.next+1) [u0,u1,u2]).rd (σ.next+1) 0 3=some [u0,u1,u2]:=λ{g u0 u1 u2} k z0 z1 z2=>by
  have aI:g.obj (σ.next+1)=some [.fz true .nils 0 [],.fz true .nils 0 [],.fz true .nils 0 []]:=by rw[k.obj _ (by omega),<-hT];simp only[Z3,seval,-ae]
  exact⟨by rw[qC aI,if_pos ⟨by simp,by simp only[List.all_cons,List.all_nil,z0,z1,z2];rfl⟩];rfl,by rw[qh,if_pos rfl];rfl⟩
 have l3:=ld (Keep.refl T);refine zD mix Tryz.func28 ?_
 conv=>arg 2;cbv
 refine zF rfl ?_;simp only[Z3,seval,-ae,h1,h2];rw[hT];simp only[Z3,seval,-ae,l3];have tQ:Keep T ((T.new []).kill (σ.next+2)):=((Keep.refl T).new _).kill (by omega);refine zA.frz (s:=σ.next+2) (cs:=[]) (by rw[zP,if_pos cJ.symm]) trivial λo1=>?_;simp only[sbs,Go.Ab.sb,capOK,and_self,if_true,decide_true,vM,hR.P.sb,hR.B.sb];generalize (T.new []).kill (σ.next+2)=T2 at *
 have l4:=ld tQ;refine zLa (xs:=[]) hR dU ⟨true,_,[],rfl,All2.nil _⟩ ⟨by simp,λy hy=>by cases hy⟩ λc hc=>?_;by_cases cD:c=0;rotate_left
 .obtain⟨g1,g2⟩:=lJ tQ (u0:=.fz true .nils 0 []) (u1:=.fz true .nils 0 []) (u2:=.fz true .nils 0 []) rfl rfl rfl;simp only[Z3,seval,-ae,cD,g1,g2];exact Gh.fin0 ((cg.trans tQ).set (by omega) _) ⟨⟨trivial,trivial,trivial,trivial⟩,trivial,trivial⟩ (hk _ _ _ [] [] [] _ (.inl ⟨hc,cD,rfl,rfl,rfl⟩) ⟨⟨true,.nils,rfl⟩,⟨true,.nils,[],rfl,All2.nil _⟩,⟨true,.nils,[],rfl,All2.nil _⟩⟩)
 subst cD;obtain⟨⟨hl,_⟩,hz⟩:=hc.zero;obtain⟨cc,lz⟩:=Lz.of hl hz;simp only[Z3,seval,-ae,l4];refine zEE lz hR λvO vQ vC f1 f2 f3=>?_;obtain⟨g1,g2⟩:=lJ tQ f1.one f2.one f3.one;simp only[Z3,seval,-ae,g1,g2];exact Gh.fin0 ((cg.trans tQ).set (by omega) _) ⟨⟨f1.bel _,f2.bel _,f3.bel _,trivial⟩,trivial,trivial⟩ (hk _ _ _ _ _ _ _ (.inr ⟨hc,rfl,rfl,rfl,rfl⟩) ⟨f1,f2,f3⟩)
variable{O' x:V1}{P':V2}{C':V3}{fq ef j3:PV}{n:Nat}
theorem pt_pw(z:Lz p n W B c)(hx:El p n x):∀k:Nat,El p n (Grp.pw (rm p n W B) (zv (rO p n)) x k)/\ptG p n W B (Grp.pw (rm p n W B) (zv (rO p n)) x k) n=lmul p W k (ptG p n W B x n)
 |0=>⟨by rw[show Grp.pw (rm p n W B) (zv (rO p n)) x 0=zv (rO p n) from rfl,zv_rO];exact ZO z.r.o.pr,by
  show ptG p n W B (zv (rO p n)) n=_;rw[zDn z,<-z.pw_eq (pt_el z x) 0];rfl⟩
 |k+1=>by
  obtain⟨h1,h2⟩:=pt_pw z hx k;obtain⟨h3,h4⟩:=zHi z h1 hx;refine⟨h3,?_⟩;show ptG p n W B (rm p n W B _ _) n=_;rw[h4,h2,<-z.pw_eq (pt_el z x),<-z.pw_eq (pt_el z x)];rfl
theorem zGI(hR:IsPr vO vQ vC O P C)(nD:IsPr fq ef j3 O' P' C')(sz:SzP O P C)(hk:∀t:Bool,(t=true↔O=O'/\P=P'/\C=C')->K (.bool t) σ):zA Tryz.prog 39 [.agg [vO,vQ,vC],.agg [fq,ef,j3]] σ K:=by
 have h0:=hR.O.one;have h1:=hR.P.one;have h2:=hR.C.one;have g0:=nD.O.one;have g1:=nD.P.one;have g2:=nD.C.one;refine zA.gh ?_;refine zD mix Tryz.func39 ?_
 conv=>arg 2;cbv
 refine zF rfl ?_;simp only[Z3,seval,-ae,h0,h1,h2,g0,g1,g2];have aq:Keep σ ((σ.new [vO,vQ,vC]).new [fq,ef,j3]):=(zC σ _).new _;have a0:((σ.new [vO,vQ,vC]).new [fq,ef,j3]).rd1 σ.next 0=some vO:=by simp only[Z3,seval,-ae]
 have a1:((σ.new [vO,vQ,vC]).new [fq,ef,j3]).rd1 σ.next 1=some vQ:=by simp only[Z3,seval,-ae]
 have a2:((σ.new [vO,vQ,vC]).new [fq,ef,j3]).rd1 σ.next 2=some vC:=by simp only[Z3,seval,-ae]
 have b0:((σ.new [vO,vQ,vC]).new [fq,ef,j3]).rd1 (σ.next+1) 0=some fq:=by simp only[Z3,seval,-ae]
 have b1:((σ.new [vO,vQ,vC]).new [fq,ef,j3]).rd1 (σ.next+1) 1=some ef:=by simp only[Z3,seval,-ae]
 have b2:((σ.new [vO,vQ,vC]).new [fq,ef,j3]).rd1 (σ.next+1) 2=some j3:=by simp only[Z3,seval,-ae]
 generalize (σ.new [vO,vQ,vC]).new [fq,ef,j3]=H at *
 simp only[Z3,seval,-ae,a0,b0];refine zED hR.O nD.O sz.O λt ht=>?_;cases t with
 |false=>
  simp only[Z3,seval,-ae];exact Gh.fin0 aq trivial (hk _ ⟨λh=>(by cases h),λh=>ht.2 h.1⟩)
 |true=>
 simp only[Z3,seval,-ae,a1,a2,b1,b2];refine Zg hR.P nD.P sz.P λt gQ=>?_;cases t with
 |false=>
  simp only[Z3,seval,-ae,a1,a2,b1,b2];exact Gh.fin0 aq trivial (hk _ ⟨λh=>(by cases h),λh=>gQ.2 h.2.1⟩)
 |true=>
  simp only[Z3,seval,-ae,a1,a2,b1,b2];refine zG9 hR.C nD.C sz.C.l (λq hq=>sz.C.r q hq) λt mw=>?_;simp only[Z3,seval,-ae];exact Gh.fin0 aq trivial (hk _ ⟨λh=>⟨ht.1 rfl,gQ.1 rfl,mw.1 h⟩,λh=>mw.2 h.2.2⟩)
variable{a:Nat}{y l:V1}{f g:Vec}{L:V2}{H:V1->Prop}{S:Vec->Prop}
theorem zI4(o:OkW p n W)(hS:IsSub p n W S)(hL:∀l∈L,El p n l/\S (at_ l))(hd:∀x,El p n x->S (at_ x)->dep x<n->∃l∈L,dep l=dep x/\at_ l (dep l)=1):∀x,El p n x->S (at_ x)->Gen p n W L (at_ x):=by
 have:∀(k:Nat) (x:V1),n-dep x<=k->El p n x->S (at_ x)->Gen p n W L (at_ x):=by
  intro k
  induction k with
  |zero=>
   intro x hk hx _;have hz:∀j,at_ x j=0:=λj=>by
    rcases Nat.lt_or_ge j (dep x)with h|h
    .exact zY h
    .exact hx.beyond (by omega)
   exact(zM L).eqv _ _ (Eqv.of_eq hz) (zM L).zero
  |succ k ih=>
   intro x hk hx hs;rcases Nat.lt_or_ge (dep x) n with dN|dN
   .obtain⟨l,hl,e1,e2⟩:=hd x hx hs dN;obtain⟨l1,l2⟩:=hL l hl;have led:Led p n l:=⟨l1,by omega,e2⟩
    have h1:=zB7 o hx l1;have h2:=zEU o hx l1;have h3:S (at_ (red1 p W x l)):=hS.eqv _ _ h2 (hS.sub hs (hS.mul (at_ x (dep l)) _ l2));have h4:dep x+1<=dep (red1 p W x l):=Go.Lie.dep_ge (by rw[h1.1];omega) λj hj=>by
     rw[zDl o hx led (by omega)];split
     .rfl
     .exact zY (by omega)
    have h5:=ih _ (by omega) h1 h3;have h6:=(zM L).add _ _ h5 ((zM L).mul (at_ x (dep l)) _ (zQ (p:=p) (n:=n) (W:=W) hl));refine(zM L).eqv _ _ ?_ h6;refine Eqv.symm ((h2.add (Eqv.refl λj=>at_ x (dep l)*at_ l j)).trans (Eqv.of_eq λj=>by omega))
   .exact ih x (by omega) hx hs
 exactλx hx hs=>this _ x (vM _) hx hs
theorem zCg{O:V1}{P:V2}{C:V3}(g:LG O P C){H H':V1->Prop}(hH:gB O P C H)(Df:gB O P C H')(hd:∀x,H x->dep x<O.length->∃l,H' l/\H l/\dep l=dep x/\at_ l (dep l)=1):∀x,H x->H' x:=by
 have s:=g.s;have F:=g.F
 have:∀(k:Nat) (x:V1),O.length-dep x<=k->H x->H' x:=by
  intro k
  induction k with
  |zero=>
   intro x hk hx;rw[zDP (hH.inS hx) (by omega)];exact Df.one
  |succ k ih=>
   intro x hk hx;rcases Nat.lt_or_ge (dep x) O.length with dN|dN
   .obtain⟨l,l1,l2,e1,e2⟩:=hd x hx dN;have xS:=hH.inS hx;have lS:=hH.inS l2;have lT:=zAg lS;rw[e1]at lT e2;have st:=zGa s F g.cent dN (zAg xS) lT e2;have h1:=hH.cl (hH.pw l2 (at_ O (dep x)-at_ x (dep x)).toNat) hx;have h2:=ih _ (by have:=Go.Grp.dep_ge st (by omega);omega) h1;exact Df.quot F.g (Df.pw l1 _) xS h2
   .exact ih x (by omega) hx
 exactλx hx=>this _ x (vM _) hx
theorem zFK(z:Lz p n W B c)(hx:El p n x):dep (ptG p n W B x n)=dep x/\at_ (ptG p n W B x n) (dep x)=at_ x (dep x):=by
 have he:=pt_el z x;have hl:=he.1;rcases Nat.lt_or_ge (dep (ptG p n W B x n)) n with h|h
 .obtain⟨h1,h2⟩:=zDi z he (Nat.le_of_lt h) (λj hj=>zY hj);rw[vc_pt z hx]at h1 h2;have e:dep x=dep (ptG p n W B x n):=zAr h1 (by rw[h2 h];exact qa (by omega));exact⟨e.symm,by rw[e];exact(h2 h).symm⟩
 .have hz:ptG p n W B x n=List.replicate n 0:=Zl (by rw[hl];simp) λj hj=>by rw[zn];exact zY (by omega)
  have fV:x=zv (rO p n):=zMU z hx (by rw[zv_rO];exact ZO z.r.o.pr) (by rw[hz,zDn z]);have hd:dep x=n:=by
   have:=zHL (zCD z)
   rw[<-fV]at this;simpa using this
  have h2:=Zz (ptG p n W B x n);refine⟨by omega,?_⟩;rw[hd,at_ge (by omega),at_ge (by rw[hx.1];exact vM _)]
theorem zE6(z:Lz p n W B c)(hx:El p n x):dep (vcG p n W B x)=dep x/\at_ (vcG p n W B x) (dep x)=at_ x (dep x):=by
 obtain⟨h1,h2⟩:=zFK z (vc_el z hx);rw[pt_vc z hx]at h1 h2;exact⟨h1.symm,by rw[h1];exact h2.symm⟩
theorem zQ5(o:OkW p n W)(hx:El p n x){k:Int}(hk:isZ x\/Cop p k):∃m:Nat,dv p n W k x=lmul p W m x:=by
 rcases Nat.eq_zero_or_pos n with hn|hn
 .refine⟨0,?_⟩;subst hn;rw[List.length_eq_zero_iff.1 (dv_el o hx).1];exact(List.length_eq_zero_iff.1 (zK o hx hx).1).symm
 rcases hk with h0|hc
 .refine⟨1,?_⟩;rw[(ZZ o hx (k:=k)).nil h0];exact(zOm o hx).symm
 .obtain⟨e,w,h⟩:=zAY hc hn
  -- a tM GG is not negative
  have aF:0<pw_ p n:=by rw[zGd];exact Int.pow_pos (by have:=o.pr.1;omega)
  refine⟨(e % pw_ p n).toNat,?_⟩;have he:((e % pw_ p n).toNat:Int)=e % pw_ p n:=Int.toNat_of_nonneg (Int.emod_nonneg _ (by omega));rw[he];refine(dv_of o hc hx (zK o hx hx) ?_).symm;have ed:e % pw_ p n=e-pw_ p n*(e / pw_ p n):=by have:=Int.emod_add_mul_ediv e (pw_ p n);omega
  refine((qO o hx _).mul k).trans ?_;rw[ed];have eC:=(Qr o (f:=at_ x) λj hj=>hx.beyond hj).mul (w-k*(e / pw_ p n));refine Eqv.trans (Eqv.of_eq λj=>?_) (((Eqv.refl (at_ x)).add eC).trans (Eqv.of_eq λj=>by omega));have h':k*(e-pw_ p n*(e / pw_ p n))=1+(w-k*(e / pw_ p n))*pw_ p n:=by grind
  show k*((e-pw_ p n*(e / pw_ p n))*at_ x j)=at_ x j+(w-k*(e / pw_ p n))*(pw_ p n*at_ x j);rw[<-Int.mul_assoc,h'];grind
structure ESub(p:Int)(n:Nat)(W:V2)(B:V3)(E:V1->Prop):Prop where
 el:∀x,E x->El p n x
 zero:E (List.replicate n 0)
 cl:∀x y,E x->E y->E (bch p n W B x y)
 mul:∀(k:Int) x,E x->E (lmul p W k x)
theorem ESub.fold{E:V1->Prop}(h:ESub p n W B E):∀{xs:V2},(∀x∈xs,E x)->E (fold p n W B xs):=λ{xs} hx=>by
 have:∀(xs:V2) (y:V1),E y->(∀x∈xs,E x)->E (xs.foldl (bch p n W B) y):=by
  intro xs
  induction xs with
  |nil=>exactλy hy _=>hy
  |cons x xs ih=>exactλy hy hx=>ih _ (h.cl _ _ hy (hx x (by simp))) λz hz=>hx z (by simp[hz])
 exact this xs _ h.zero hx
theorem ESub.dv{E:V1->Prop}(h:ESub p n W B E)(o:OkW p n W){x:V1}(hx:E x){k:Int}(hk:isZ x\/Cop p k):E (Go.Proofs.dv p n W k x):=by
 obtain⟨m,e⟩:=zQ5 o (h.el x hx) hk;rw[e];exact h.mul _ x hx
theorem ESub.comm{E:V1->Prop}(h:ESub p n W B E){x y:V1}(hx:E x)(hy:E y):E (Go.Proofs.comm p n W B x y):=h.fold λz hz=>by
 simp only[List.mem_cons,List.not_mem_nil,or_false]at hz;rcases hz with rfl|rfl|rfl|rfl
 .exact h.mul _ _ hx
 .exact h.mul _ _ hy
 .exact hx
 .exact hy
theorem Lz.comm_lw(z:Lz p n W B c)(hx:El p n x)(hy:El p n y){k:Nat}(h:Lw p n W B k (at_ x)):Lw p n W B (k+1) (at_ (Go.Proofs.comm p n W B x y)):=z.comm_fil z.fil hx hy h
theorem Lz.c2(z:Lz p n W B c)(hx:El p n x)(h:Lw p n W B 1 (at_ x)):isZ x\/Cop p 2:=(z.r.two z.hp z.hc hx h).imp id λh=>h.1
theorem Lz.c12(z:Lz p n W B c)(hx:El p n x)(h:Lw p n W B 2 (at_ x)):isZ x\/Cop p 12:=(z.r.twelve z.hp z.hc hx h).imp id λh=>h.1
theorem ESub.br{E:V1->Prop}(h:ESub p n W B E)(z:Lz p n W B c){x y:V1}(hx:El p n x)(hy:El p n y)(h0:E (Go.Proofs.comm p n W B x y))(h1:E (Go.Proofs.comm p n W B (Go.Proofs.comm p n W B x y) x))(h2:E (Go.Proofs.comm p n W B (Go.Proofs.comm p n W B x y) y)):E (Go.Proofs.br p W B n x y):=by
 have o:=z.r.o;rw[<-z.brkP hx hy];have hc:=zBD z hx hy;have w1:=z.comm_lw hx hy (z.r.all hx);have w2:=z.r.down (z.comm_lw hc hx w1);have w3:=z.r.down (z.comm_lw hc hy w1);refine h.fold λw hw=>?_;simp only[List.mem_cons,List.not_mem_nil,or_false]at hw;rcases hw with rfl|rfl|rfl
 .exact h0
 .exact h.mul _ _ (h.dv o h1 (z.c2 (zBD z hc hx) w2))
 .exact h.mul _ _ (h.dv o h2 (z.c2 (zBD z hc hy) w3))
theorem ESub.add{E:V1->Prop}(h:ESub p n W B E)(z:Lz p n W B c){x y:V1}(hx:E x)(hy:E y):E (ladd p W x y):=by
 have o:=z.r.o;have ex:=h.el x hx;have ey:=h.el y hy;rw[<-z.sumP ex ey];have hc:=zBD z ex ey;have w1:=z.comm_lw ex ey (z.r.all ex);have w2:=z.comm_lw hc ex w1;have w3:=z.comm_lw hc ey w1;have c0:=h.comm hx hy;refine h.fold λw hw=>?_;simp only[List.mem_cons,List.not_mem_nil,or_false]at hw;rcases hw with rfl|rfl|rfl|rfl|rfl
 .exact hx
 .exact hy
 .exact h.mul _ _ (h.dv o c0 (z.c2 hc w1))
 .exact h.dv o (h.comm c0 hx) (z.c12 (zBD z hc ex) w2)
 .exact h.mul _ _ (h.dv o (h.comm c0 hy) (z.c12 (zBD z hc ey) w3))
def vS(p:Int)(n:Nat)(W:V2)(E:V1->Prop)(f:Vec):Prop:=∃x,E x/\Eqv p n W f (at_ x)
theorem ESub.vs{E:V1->Prop}(h:ESub p n W B E)(z:Lz p n W B c):IsSub p n W (vS p n W E) where
 zero:=⟨_,h.zero,Eqv.of_eq λj=>(zn n j).symm⟩
 add:=λf g ⟨x,h1,h2⟩ ⟨y,g1,g2⟩=>⟨_,h.add z h1 g1,(h2.add g2).trans (qP z.r.o (h.el x h1) (h.el y g1)).symm⟩
 mul:=λk f ⟨x,h1,h2⟩=>⟨_,h.mul k x h1,(h2.mul k).trans (qO z.r.o (h.el x h1) k).symm⟩
 eqv:=λf g e ⟨x,h1,h2⟩=>⟨x,h1,e.trans h2⟩
theorem ESub.iff{E:V1->Prop}(h:ESub p n W B E)(o:OkW p n W)(hx:El p n x):vS p n W E (at_ x)↔E x:=by
 constructor
 .rintro⟨y,h1,h2⟩
  have ey:=h.el y h1;rw[qQ o hx.1 ey.1 hx.2 ey.2 h2];exact h1
 .intro h1;exact⟨x,h1,Eqv.refl _⟩
abbrev rB(p:Int)(n:Nat)(W:V2)(B:V3)(H:V1->Prop):Prop:=gB (rO p n) (lgPs p n W B n) (lgCs p n W B n) H
theorem vc_pw(z:Lz p n W B c)(hx:El p n x)(k:Nat):vcG p n W B (lmul p W k x)=Grp.pw (rm p n W B) (zv (rO p n)) (vcG p n W B x) k:=by
 obtain⟨h1,h2⟩:=pt_pw z (vc_el z hx) k;rw[pt_vc z hx]at h2;rw[<-h2,vc_pt z h1]
theorem zQa(z:Lz p n W B c)(hx:El p n x):vcG p n W B (lmul p W (-1) x)=ginv (gS (rO p n)) (rm p n W B) (zv (rO p n)) (vcG p n W B x):=by
 have G:=(lg_LG z).F.g;have hn:=zAl z.r.o hx;refine G.inv_eq ((gS_el z).2 (vc_el z hx)) ((gS_el z).2 (vc_el z hn)) ?_;show rm p n W B _ _=_;rw[<-zE4 z hx hn,z.inv_r hx,zDh z]
theorem zKd(z:Lz p n W B c)(hH:rB p n W B H):ESub p n W B (λx=>El p n x/\H (vcG p n W B x)) where
 el:=λx h=>h.1
 zero:=⟨ZO z.r.o.pr,by rw[zDh z];exact hH.one⟩
 cl:=λx y hx hy=>⟨Z5 z.r.o z.r.q hx.1 hy.1,by rw[zE4 z hx.1 hy.1];exact hH.cl hx.2 hy.2⟩
 mul:=λk x hx=>by
  have o:=z.r.o;refine⟨zK o hx.1 hx.1,?_⟩;rcases Int.le_total 0 k with h|h
  .have e:k=((k.toNat:Nat):Int):=(Int.toNat_of_nonneg h).symm;rw[e,vc_pw z hx.1];exact hH.pw hx.2 _
  .have e:k=-1*(((-k).toNat:Nat):Int):=by rw[Int.toNat_of_nonneg (by omega)];omega
   rw[e,<-zH6 o hx.1,zQa z (zK o hx.1 hx.1),vc_pw z hx.1];exact hH.inv (hH.pw hx.2 _)
theorem zPU(z:Lz p n W B c)(hS:IsSub p n W S)(hb:∀f g,S f->S g->S (brv B n f g)):rB p n W B (λe=>El p n e/\S (at_ (ptG p n W B e n))):=by
 have o:=z.r.o;have q:=z.r.q;refine QA (zCD z) (lg_LG z).F (lg_LG z).cent (λx hx=>(gS_el z).2 hx.1) ⟨by rw[zv_rO];exact ZO o.pr,?_⟩ λx y hx hy=>?_
 .rw[zDn z];exact hS.eqv _ _ (Eqv.of_eq λj=>zn n j) hS.zero
 .obtain⟨h1,h2⟩:=zHi z hx.1 hy.1;refine⟨h1,?_⟩;show S (at_ (ptG p n W B (rm p n W B x y) n));rw[h2];have ex:=pt_el z x;have ey:=pt_el z y;have yC:El p n (Go.Proofs.br p W B n (ptG p n W B x n) (ptG p n W B y n)):=br_el o q;have h3:El p n (ZB p W B n (ptG p n W B x n) (ptG p n W B y n)):=Za o q;have Aw:S (at_ (Go.Proofs.br p W B n (ptG p n W B x n) (ptG p n W B y n))):=hS.eqv _ _ (qg o q _ _) (hb _ _ hx.2 hy.2);have s3:S (at_ (ZB p W B n (ptG p n W B x n) (ptG p n W B y n))):=hS.eqv _ _ (qP o (br_el o q) (br_el o q)) (hS.add _ _ (hS.eqv _ _ (qg o q _ _) (hb _ _ hx.2 Aw)) (hS.eqv _ _ (qg o q _ _) (hb _ _ hy.2 (hS.eqv _ _ (qO o yC _) (hS.mul _ _ Aw)))));refine hS.eqv _ _ (qP o (zK o (zK o ex ey) (dv_el o yC)) (dv_el o h3)) (hS.add _ _ (hS.eqv _ _ (qP o (zK o ex ey) (dv_el o yC)) (hS.add _ _ (hS.eqv _ _ (qP o ex ey) (hS.add _ _ hx.2 hy.2)) ?_)) ?_)
  .exact zCJ o hS (ZZ o yC) (z.d2 ex) Aw
  .exact zCJ o hS (ZZ o h3) (z.d12 ex) s3
end Go.Proofs
namespace Go.Proofs
open Go.Ab Go.Lie Go.Grp
variable{p:Int}{n c:Nat}{W:V2}{B:V3}{u x m:V2}
theorem zKq:∀{a b:List Nat},a.Pairwise (· < ·)->b.Pairwise (· < ·)->(∀x,x∈a↔x∈b)->a=b
 |[],[],_,_,_=>rfl
 |[],v::u',_,_,h=>by have:=(h v).2 (by simp);cases this
 |v::u,[],_,_,h=>by have:=(h v).1 (by simp);cases this
 |v::u,w::u',h1,h2,h=>by
  rw[List.pairwise_cons]at h1 h2;have e:v=w:=by
   rcases List.mem_cons.1 ((h v).1 (by simp))with e|e
   .exact e
   .rcases List.mem_cons.1 ((h w).2 (by simp))with e2|e2
    .exact e2.symm
    .have a1:=h1.1 _ e2;have a2:=h2.1 _ e;omega
  subst e;rw[zKq h1.2 h2.2 λx=>⟨λhx=>?_,λhx=>?_⟩]
  .rcases List.mem_cons.1 ((h x).1 (List.mem_cons_of_mem _ hx))with e|e
   .subst e;have:=h1.1 _ hx;omega
   .exact e
  .rcases List.mem_cons.1 ((h x).2 (List.mem_cons_of_mem _ hx))with e|e
   .subst e;have:=h2.1 _ hx;omega
   .exact e
abbrev rG(p:Int)(n:Nat)(W:V2)(B:V3)(u:V2):V1->Prop:=GC (rO p n) (lgPs p n W B n) (lgCs p n W B n) u
theorem sg_E(z:Lz p n W B c)(hu:ZE (rO p n) (lgPs p n W B n) (lgCs p n W B n) u):ESub p n W B (λx=>El p n x/\rG p n W B u (vcG p n W B x)):=zKd z (GC.sub (lg_LG z).F hu.1)
theorem zMB(z:Lz p n W B c)(hu:ZE (rO p n) (lgPs p n W B n) (lgCs p n W B n) u){x:V1}(hx:El p n x):Gen p n W (u.map λe=>ptG p n W B e n) (at_ x)↔rG p n W B u (vcG p n W B x):=by
 have o:=z.r.o;have h:=sg_E z hu;have hS:=h.vs z;have el:(rO p n).length=n:=by simp
 have eu:∀e∈u,El p n e:=λe he=>(gS_el z).1 (hu.1 e he);have hm:∀l∈u.map (λe=>ptG p n W B e n),El p n l/\vS p n W (λx=>El p n x/\rG p n W B u (vcG p n W B x)) (at_ l):=λl hl=>by
  obtain⟨e,he,rfl⟩:=List.mem_map.1 hl;exact⟨pt_el z e,(h.iff o (pt_el z e)).2 ⟨pt_el z e,by rw[vc_pt z (eu e he)];exact GC.mem he⟩⟩
 constructor
 .intro hg;exact((h.iff o hx).1 (Zk hS (λl hl=>(hm l hl).2) hg)).2
 .intro hg;refine zI4 o hS hm (λy hy hs hd=>?_) x hx ((h.iff o hx).2 ⟨hx,hg⟩);have hv:=((h.iff o hy).1 hs).2;have rI:=zE6 z hy;obtain⟨v,Bv,e⟩:=hu.2.all _ hv (by rw[rI.1,el];exact hd);have ev:=eu v Bv;have hp:=zFK z ev;refine⟨_,List.mem_map.2 ⟨v,Bv,rfl⟩,by rw[hp.1,e,rI.1],?_⟩;rw[hp.1,hp.2];exact(hu.2.one v Bv).2.2
theorem zMC(z:Lz p n W B c)(hu:ZE (rO p n) (lgPs p n W B n) (lgCs p n W B n) u){x y:V1}(hx:El p n x)(hy:El p n y)(gx:rG p n W B u (vcG p n W B x))(gy:rG p n W B u (vcG p n W B y)):rG p n W B u (vcG p n W B (br p W B n x y)):=by
 have h:=sg_E z hu;have h0:=h.comm ⟨hx,gx⟩ ⟨hy,gy⟩;exact(h.br z hx hy h0 (h.comm h0 ⟨hx,gx⟩) (h.comm h0 ⟨hy,gy⟩)).2
theorem zN3(z:Lz p n W B c)(hu:ZE (rO p n) (lgPs p n W B n) (lgCs p n W B n) u)(hm:Canon p n W (u.map λe=>ptG p n W B e n) m):
  (∀x,El p n x->(Gen p n W m (at_ x)↔rG p n W B u (vcG p n W B x)))/\(∀x∈m,∀y∈m,Gen p n W m (at_ (br p W B n x y)))/\m.length=u.length/\
  (∀x,rG p n W B (m.map λe=>vcG p n W B e) x↔rG p n W B u x):=by
 have o:=z.r.o;have F:=(lg_LG z).F;have el:(rO p n).length=n:=by simp
 have eu:∀e∈u,El p n e:=λe he=>(gS_el z).1 (hu.1 e he);have em:=hm.els;have hg:∀x,El p n x->(Gen p n W m (at_ x)↔rG p n W B u (vcG p n W B x)):=λx hx=>(hm.gen _).symm.trans (zMB z hu hx);have aM:∀x∈m,rG p n W B u (vcG p n W B x):=λx hx=>(hg x (em x hx)).1 (zQ hx);have hH:=GC.sub F hu.1;have dm:∀y,rG p n W B u y->dep y<n->∃v∈m,dep v=dep y:=λy hy hd=>by
  have ey:El p n y:=(gS_el z).1 (hH.inS hy);have hp:=zFK z ey;obtain⟨v,hv,e⟩:=QN o hm.base (pt_el z y) ((hg _ (pt_el z y)).2 (by rw[vc_pt z ey];exact hy)) (by rw[hp.1];exact hd);exact⟨v,hv,by rw[e,hp.1]⟩
 refine⟨hg,λx hx y hy=>(hg _ (br_el o z.r.q)).2 (zMC z hu (em x hx) (em y hy) (aM x hx) (aM y hy)),?_,λx=>⟨λh=>h _ hH λl hl=>?_,λh=>?_⟩⟩
 .have e:m.map dep=u.map dep:=by
   refine zKq (List.pairwise_map.2 hm.base.asc) (List.pairwise_map.2 hu.2.asc) λd=>⟨λh=>?_,λh=>?_⟩
   .obtain⟨v,hv,rfl⟩:=List.mem_map.1 h;have lv:=hm.base.led v hv;have hd:=zE6 z (em v hv);obtain⟨w,hw,e⟩:=hu.2.all _ (aM v hv) (by rw[hd.1,el];exact lv.2.1);exact List.mem_map.2 ⟨w,hw,by rw[e,hd.1]⟩
   .obtain⟨v,hv,rfl⟩:=List.mem_map.1 h;have lv:=hu.2.one v hv;obtain⟨w,hw,e⟩:=dm v (hu.2.mem v hv) (by rw[<-el];exact lv.2.1);exact List.mem_map.2 ⟨w,hw,e⟩
  have:=congrArg List.length e
  simpa using this
 .obtain⟨e,he,rfl⟩:=List.mem_map.1 hl;exact aM e he
 .have gD:∀l∈m.map (λe=>vcG p n W B e),gS (rO p n) l:=λl hl=>by
   obtain⟨e,he,rfl⟩:=List.mem_map.1 hl;exact(gS_el z).2 (vc_el z (em e he))
  refine zCg (lg_LG z) hH (GC.sub F gD) (λy hy hd=>?_) x h;rw[el]at hd;obtain⟨v,hv,e⟩:=dm y hy hd;have hd:=zE6 z (em v hv);refine⟨_,GC.mem (List.mem_map.2 ⟨v,hv,rfl⟩),aM v hv,by rw[hd.1,e],?_⟩;rw[hd.1,hd.2];exact(hm.base.led v hv).2.2
end Go.Proofs
namespace Go.Proofs
open Go.Ab Go.Lie Go.Grp
variable{σ:PHeap}{K:PV->PHeap->Prop}{O:V1}{P:V2}{C:V3}{vO vP vC vU:PV}{u:V2}{x:V1}{sp:Nat}
def NorG(O:V1)(P:V2)(C:V3)(u:V2):Prop:=∀g∈ql O,∀x∈u,GC O P C u (gcnj O P C x g)
theorem Z6(s:Shp O P C):∀g∈ql O,gS O g:=λg hg=>by
 obtain⟨i,hi,rfl⟩:=List.mem_map.1 hg;exact s.unit (by simpa using hi) (Nat.zero_le _)
theorem zJz(g:LG O P C)(hs:PtrG σ sp vO vP vC)(hR:IsPr vO vP vC O P C)(hU:FII vU u)(hu:ZE O P C u)(hk:∀t:Bool,(t=true↔NorG O P C u)->K (.bool t) σ):zA Tryz.prog 142 [.ptr sp 0,vU] σ K:=by
 have fl:∀{A:Prop},¬A->((false=true)↔A):=λh=>⟨λx=>(by cases x),λx=>absurd x h⟩
 have up:∀{z:V1},gS O z->TT O (O.length-O.length) z:=λh=>by rw[Nat.sub_self];exact h
 have dn:∀{z:V1},TT O (O.length-O.length) z->gS O z:=λh=>by rw[Nat.sub_self]at h;exact h
 have s:=g.s;have F:=g.F;have aN:=s.le;have cq:=hu.len;have fN:=Z6 s;have oH:=hU;obtain⟨wu,au,ru,rfl,dt⟩:=hU;refine zD mix Tryz.func142 ?_
 conv=>arg 2;cbv
 refine zF rfl ?_;simp only[Z3,seval,-ae];refine zCu s hs hR λvG hG=>?_;have jI:(ql O).length=O.length:=by simp[ql]
 unfold NorG at hk;generalize ql O=G at *
 obtain⟨wg,ag,rg,rfl,uM⟩:=hG;simp only[Z3,seval,-ae];refine zG (λm vs h=>∃i:Nat,i<=G.length/\m=G.length-i/\vs=[.ptr sp 0,.fz wu au u.length ru,.fz wg ag G.length rg,.int .i64 G.length,.int .i64 i]/\σ=h/\∀g∈G.take i,∀x∈u,GC O P C u (gcnj O P C x g)) G.length ⟨0,by omega,by omega,rfl,rfl,λg hg=>by simp at hg⟩ ?_
 rintro m vs h ⟨i,hi,rfl,rfl,rfl,aj⟩
 simp only[Z3,seval,-ae];refine iteI (λah=>?_) λaG=>?_;rotate_left
 .have aK:i=G.length:=by omega
  subst aK;rw[List.take_length]at aj;exact hk _ ⟨λ_=>aj,λ_=>rfl⟩
 obtain⟨w4,a4,hr⟩:=uM.rowI ah;have gX:=fN _ (List.getElem_mem ah);simp only[Z3,seval,-ae,ah,hr];refine zG (λm vs h=>∃k:Nat,k<=u.length/\m=u.length-k/\vs=[.ptr sp 0,.fz wu au u.length ru,.fz w4 a4 G[i].length (pis G[i]),.fz wg ag G.length rg,.int .i64 G.length,.int .i64 i,.fz wu au u.length ru,.int .i64 u.length,.int .i64 k]/\σ=h/\∀x∈u.take k,GC O P C u (gcnj O P C x G[i])) u.length ⟨0,by omega,by omega,rfl,rfl,λx hx=>by simp at hx⟩ ?_
 rintro m vs h ⟨k,fe,rfl,rfl,rfl,aR⟩
 simp only[Z3,seval,-ae];refine iteI (λaD=>?_) λaG=>?_;rotate_left
 .have dJ:k=u.length:=by omega
  subst dJ;rw[List.take_length]at aR;simp only[Z3,seval,-ae,wrapS ah (by omega:G.length<=4611686018427387904)];refine⟨_,by omega,i+1,by omega,rfl,rfl,λy hy=>?_⟩;rw[List.take_succ_eq_append_getElem ah,List.mem_append,List.mem_singleton]at hy;rcases hy with hy|rfl
  .exact aj y hy
  .exact aR
 obtain⟨w5,a5,my⟩:=dt.rowI aD;have mq:=hu.1 _ (List.getElem_mem aD);simp only[Z3,seval,-ae,aD,my];refine zAH s F hs hR (up mq) (up gX) ⟨w5,a5,rfl⟩ ⟨w4,a4,rfl⟩ λv1 z h1 h2 f1=>?_;obtain rfl:z=gcnj O P C u[k] G[i]:=F.g.cnj_eq mq gX (dn h1) h2;simp only[Z3,seval,-ae];refine zEK g hs hR oH hu (dn h1) f1 λt ht=>?_;cases t with
 |false=>
  simp only[Z3,seval,-ae];refine hk _ (fl λh=>?_)
  have:=ht.2 (h _ (List.getElem_mem ah) _ (List.getElem_mem aD))
  cases this
 |true=>
 have e:=ht.1 rfl;simp only[Z3,seval,-ae,wrapS aD (by omega:u.length<=4611686018427387904)];refine⟨_,by omega,k+1,by omega,rfl,rfl,λy hy=>?_⟩;rw[List.take_succ_eq_append_getElem aD,List.mem_append,List.mem_singleton]at hy;rcases hy with hy|rfl
 .exact aR y hy
 .exact e
theorem zDd(g:LG O P C)(hR:IsPr vO vP vC O P C)(sz:SzP O P C)(hU:FII vU u)(hu:ZE O P C u)
  (hk:∀t:Bool,(t=true↔NorG O P C u)->K (.tup [.bool t,.int .i64 0]) σ):zA Tryz.prog 50 [.agg [vO,vP,vC],vU] σ K:=by
 have h0:=hR.O.one;have h1:=hR.P.one;have h2:=hR.C.one;have s:=g.s;have aN:=s.le;have cq:=hu.len;have hJ:SzL u:=⟨by omega,λy hy=>by have:=(hu.1 y hy).len;omega⟩
 refine zA.gh ?_;refine zD mix Tryz.func50 ?_
 conv=>arg 2;cbv
 refine zF rfl ?_;simp only[Z3,seval,-ae,h0,h1,h2,hU.one,hU.cells];have aq:Keep σ (((σ.new [vO,vP,vC]).new [vU]).kill (σ.next+1)):=((zC σ _).new _).kill (by omega);have hs:PtrG (((σ.new [vO,vP,vC]).new [vU]).kill (σ.next+1)) σ.next vO vP vC:=⟨by simp only[Z3,seval,-ae],by simp only[Z3,seval,-ae];omega⟩
 refine zA.frz (s:=σ.next+1) (cs:=[vU]) (by simp only[Z3,seval,-ae]) ⟨hU.bel 0,trivial⟩ λo=>?_;generalize ((σ.new [vO,vP,vC]).new [vU]).kill (σ.next+1)=H at *
 simp only[sbs,Go.Ab.sb,capOK,and_self,if_true,decide_true,vM];refine zBo g hs hR sz hU hJ λt ht=>?_;obtain rfl:t=true:=ht.2 hu;clear ht;simp only[Z3,seval,-ae];refine zJz g hs hR hU hu λt ht=>?_;simp only[Z3,seval,-ae];exact Gh.fin0 aq ⟨trivial,trivial,trivial⟩ (hk t ht)
variable{p:Int}{n c:Nat}{W m g:V2}{B:V3}{y:V1}
theorem zPP(o:OkW p n W)(q:OkB p n B)(nf:qE p W B n)(hc:∀x∈u,∀y∈u,Gen p n W u (at_ (br p W B n x y))):∀f g,Gen p n W u f->Gen p n W u g->Gen p n W u (brv B n f g):=λf g hf hg=>by
 refine Zk (zM u) (λz hz=>?_) (zKZ o q nf hf hg);obtain⟨x,hx,y,hy,rfl⟩:=Q0.1 hz;exact hc x hx y hy
theorem zMA(z:Lz p n W B c)(hb:Base p n W u)(hc:∀x∈u,∀y∈u,Gen p n W u (at_ (br p W B n x y))){x:V1}:rG p n W B (u.map λe=>vcG p n W B e) x↔El p n x/\Gen p n W u (at_ (ptG p n W B x n)):=by
 have o:=z.r.o;have el:(rO p n).length=n:=by simp
 have hH:=zPU z (zM u) (zPP o z.r.q z.r.nf hc);have hL:∀l∈u.map (λe=>vcG p n W B e),gS (rO p n) l:=λl hl=>by
  obtain⟨e,he,rfl⟩:=List.mem_map.1 hl;exact(gS_el z).2 (vc_el z (hb.els e he))
 have cA:∀v∈u,El p n (vcG p n W B v)/\Gen p n W u (at_ (ptG p n W B (vcG p n W B v) n)):=λv hv=>⟨vc_el z (hb.els v hv),by rw[pt_vc z (hb.els v hv)];exact zQ hv⟩
 constructor
 .intro h;refine h _ hH λl hl=>?_;obtain⟨e,he,rfl⟩:=List.mem_map.1 hl;exact cA e he
 .intro h;refine zCg (lg_LG z) hH (GC.sub (lg_LG z).F hL) (λy hy hd=>?_) x h;rw[el]at hd;have hp:=zFK z hy.1;obtain⟨v,hv,e⟩:=QN o hb (pt_el z y) hy.2 (by rw[hp.1];exact hd);have By:=zE6 z (hb.els v hv);refine⟨_,GC.mem (List.mem_map.2 ⟨v,hv,rfl⟩),cA v hv,by rw[By.1,e,hp.1],?_⟩;rw[By.1,By.2];exact(hb.led v hv).2.2
theorem zNi{O:V1}{P:V2}{C:V3}(g:LG O P C){H:V1->Prop}(hH:gB O P C H)(hc:CanG O H u):∀x,GC O P C u x↔H x:=λx=>by
 refine⟨λh=>h H hH hc.mem,λh=>zCg g hH (GC.sub g.F λl hl=>hH.inS (hc.mem l hl)) (λy hy hd=>?_) x h⟩;obtain⟨v,hv,e⟩:=hc.all y hy hd;exact⟨v,GC.mem hv,hc.mem v hv,e,(hc.one v hv).2.2⟩
theorem zQM{O:V1}{P:V2}{C:V3}(g:LG O P C){H:V1->Prop}(hH:gB O P C H)(hc:CanG O H u):ZE O P C u:=
 ⟨λx hx=>hH.inS (hc.mem x hx),hc.asc,λv hv=>GC.mem hv,hc.one,hc.red,λx hx hd=>hc.all x ((zNi g hH hc x).1 hx) hd⟩
theorem zKY(o:OkW p n W){a b:V2}(ha:Els p n a)(h:∀x,El p n x->Gen p n W a (at_ x)->Gen p n W b (at_ x)){f:Vec}(hf:Gen p n W a f):Gen p n W b f:=by
 obtain⟨z,h1,h2,h3⟩:=zDt o ha hf;exact(zM b).eqv _ _ h2 (h z h1 h3)
theorem zPQ(z:Lz p n W B c)(hu:Canon p n W u u)(hc:∀x∈u,∀y∈u,Gen p n W u (at_ (br p W B n x y)))(hm:CanG (rO p n) (rG p n W B (u.map λe=>vcG p n W B e)) m):
  ZE (rO p n) (lgPs p n W B n) (lgCs p n W B n) m/\(∀x,rG p n W B m x↔El p n x/\Gen p n W u (at_ (ptG p n W B x n)))/\Canon p n W (m.map λe=>ptG p n W B e n) u/\m.length=u.length:=by
 have o:=z.r.o;have hL:∀l∈u.map (λe=>vcG p n W B e),gS (rO p n) l:=λl hl=>by
  obtain⟨e,he,rfl⟩:=List.mem_map.1 hl;exact(gS_el z).2 (vc_el z (hu.base.els e he))
 have hH:=GC.sub (lg_LG z).F hL;have hs:=zQM (lg_LG z) hH hm;have hg:∀x,rG p n W B m x↔El p n x/\Gen p n W u (at_ (ptG p n W B x n)):=λx=>(zNi (lg_LG z) hH hm x).trans (zMA z hu.base hc);have he:∀x,El p n x->(Gen p n W (m.map λe=>ptG p n W B e n) (at_ x)↔Gen p n W u (at_ x)):=λx hx=>(zMB z hs hx).trans ((hg _).trans (by rw[pt_vc z hx];exact and_iff_right (vc_el z hx)));have hC:Canon p n W (m.map λe=>ptG p n W B e n) u:=⟨hu.base,hu.red,λf=>⟨zKY o (λy hy=>by
  obtain⟨e,_,rfl⟩:=List.mem_map.1 hy;exact pt_el z e) λx hx=>(he x hx).1,zKY o hu.base.els λx hx=>(he x hx).2⟩⟩
 exact⟨hs,hg,hC,(zN3 z hs hC).2.2.1.symm⟩
variable{vx:PV}{q:Nat}
theorem zJb(hs:PtrG σ sp vO vP vC)(hO:FI vO (rO (q:Int) n))(hn:n<=6)(hq:2<=q/\q<=7)(hb:q ^ n<=729)(hk:K (.int .i64 ((q ^ n:Nat):Int)) σ):zA Tryz.prog 321 [.ptr sp 0] σ K:=by
 have oK:(rO (q:Int) n).length=n:=by simp
 have rT:∀i (h:i<(rO (q:Int) n).length),(rO (q:Int) n)[i]=(q:Int):=λi h=>by simp
 generalize rO (q:Int) n=O at *
 obtain⟨w0,a0,rfl⟩:=hO;have e0:σ.rd1 sp 0=some (.fz w0 a0 O.length (pis O)):=by rw[zI hs.obj];rfl
 refine zD mix Tryz.func321 ?_
 conv=>arg 2;cbv
 refine zF rfl ?_;simp only[Z3,seval,-ae,e0];refine zG (λm vs h'=>∃i:Nat,i<=n/\m=n-i/\vs=[.int .i64 ((q ^ i:Nat):Int),.fz w0 a0 O.length (pis O),.int .i64 O.length,.int .i64 i]/\σ=h') n ⟨0,by omega,by omega,rfl,rfl⟩ ?_
 rintro m vs h' ⟨i,hi,rfl,rfl,rfl⟩
 simp only[Z3,seval,-ae];refine iteI (λah=>?_) λaG=>?_;rotate_left
 .have aK:i=n:=by omega
  subst aK;exact hk
 have aE:i<O.length:=by omega
 have aD:i<n:=by omega
 have mZ:q ^ (i+1)<=729:=Nat.le_trans (Nat.pow_le_pow_right (by omega) (by omega)) hb;have hm:((q ^ i:Nat):Int)*(q:Int)=((q ^ (i+1):Nat):Int):=by rw[Nat.pow_succ];push_cast;rfl
 have hw:IntKind.i64.wrap (((q ^ i:Nat):Int)*(q:Int))=((q ^ (i+1):Nat):Int):=by rw[hm,wrap64 (by omega) (by omega)]
 have fM:(pis O)[i]? = some (.int .i64 (q:Int)):=by rw[zU,List.getElem?_eq_getElem aE,rT];rfl
 simp only[Z3,seval,-ae,aE,fM,hw,wrapS aD (by omega:n<=4611686018427387904)];exact⟨_,by omega,i+1,by omega,rfl,rfl⟩
theorem zHH{k0:Nat}(hs:PtrG σ sp vO vP vC)(hO:FI vO (rO (q:Int) n))(hn:n<=6)(hq:2<=q/\q<=7)(eC:k0<=1000000)(hk:∀v,FI v (digs q n k0)->K v σ):zA Tryz.prog 322 [.ptr sp 0,.int .i64 k0] σ K:=by
 have oK:(rO (q:Int) n).length=n:=by simp
 have rT:∀i (h:i<(rO (q:Int) n).length),(rO (q:Int) n)[i]=(q:Int):=λi h=>by simp
 generalize rO (q:Int) n=O at *
 subst oK;obtain⟨w0,a0,rfl⟩:=hO;have e0:∀{h:PHeap},Keep σ h->h.rd1 sp 0=some (.fz w0 a0 O.length (pis O)):=λk=>by rw[zI (hs.keep k).obj];rfl
 have Il:=hs.lt;refine zA.gh ?_;refine zD mix Tryz.func322 ?_
 conv=>arg 2;cbv
 refine zF rfl ?_;have ew:IntKind.i64.wrap ((O.length:Int)-1)=(O.length:Int)-1:=wrap64 (by omega) (by omega);simp only[Z3,seval,-ae,e0 (Keep.refl σ),mk8 (n:=O.length) (by omega),mkL (n:=O.length) (by omega),ew,List.length_replicate,qA];refine zG (λm vs h'=>∃(c kk:Nat) (out:V1),c<=O.length/\m=c/\vs=[.ptr sp 0,.int .i64 kk,.sl σ.next 0 O.length (.known O.length),.int .i64 ((c:Int)-1)]/\h'=σ.new (pis out)/\out.length=O.length/\kk<=k0/\digs q c kk++out.drop c=digs q O.length k0) O.length ?_ ?_
 .refine⟨O.length,k0,List.replicate O.length 0,vM _,rfl,rfl,?_,by simp,vM _,?_⟩
  .first|rfl|simp[pis]
  rw[List.drop_of_length_le (by simp),List.append_nil]
 rintro m vs h' ⟨c,kk,out,yB,rfl,rfl,rfl,fI,fL,hd⟩
 have kp:Keep σ (σ.new (pis out)):=zC _ _;rcases Nat.eq_zero_or_pos m with rfl|aF
 .simp only[Z3,seval,-ae,show ¬((0:Int)<=((0:Nat):Int)-1) by omega];have he:out=digs q O.length k0:=by simpa [digs]using hd
  rw[<-he]at hk;clear he hd;rw[<-fI];exact Gh.finF (s:=σ.next) kp (by simp only[Z3,seval,-ae]) (by omega) (zL _ _) (by simp[capOK]) λo1=>hk _ ⟨_,_,rfl⟩
 .obtain⟨c,rfl⟩:∃c,m=c+1:=⟨m-1,by omega⟩
  have e:((c+1:Nat):Int)-1=(c:Int):=by omega
  have ln:c<out.length:=by omega
  have iO:c<O.length:=by omega
  have o7:IntKind.i64.wrap ((c:Int)-1)=(c:Int)-1:=wrap64 (by omega) (by omega);rw[e];have wK:¬(q:Int)=0:=by omega
  have et:(kk:Int).tmod (q:Int)=((kk % q:Nat):Int):=rfl;have ed:(kk:Int).tdiv (q:Int)=((kk / q:Nat):Int):=rfl;have dZ:kk / q<=kk:=Nat.div_le_self _ _;have mb:∀q:Nat,q<=kk->IntKind.i64.wrap (q:Int)=(q:Int):=λq hq=>wrap64 (by omega) (by omega);have mb:=mb _ dZ;have ll:c+1<=out.length:=ln;have bY:=zX ln (x:=((kk % q:Nat):Int));have fM:(pis O)[c]? = some (.int .i64 (q:Int)):=by rw[zU,List.getElem?_eq_getElem iO,rT];rfl
  have dF:¬sp=σ.next:=by omega
  simp only[Z3,seval,-ae,e0 kp,e0 (zC σ (pis (out.set c ((kk % q:Nat):Int)))),wK,et,ed,mb,iO,fM,ll,zJ,bY,o7];refine⟨c,Nat.lt_succ_self c,c,kk / q,out.set c ((kk % q:Nat):Int),by omega,rfl,rfl,rfl,by rw[List.length_set];exact fI,Nat.le_trans dZ fL,?_⟩;rw[<-hd,digs,List.append_assoc];congr 1;rw[List.drop_eq_getElem_cons (by rw[List.length_set];exact ln),List.getElem_set_self,List.drop_set_of_lt (by omega)];rfl
theorem zFx(hs:PtrG σ sp vO vP vC)(hO:FI vO (rO (q:Int) n))(hn:n<=6)(hq:2<=q/\q<=7)(hb:q ^ n<=729)(hk:∀v,FII v (allE q n)->K v σ):zA Tryz.prog 296 [.ptr sp 0] σ K:=by
 have yM:=ZX q n;refine zA.gh ?_;refine zD mix Tryz.func296 ?_
 conv=>arg 2;cbv
 refine zF rfl ?_;simp only[Z3,seval,-ae];refine zJb hs hO hn hq hb ?_;simp only[Z3,seval,-ae];refine zG (λm vs h'=>∃(i:Nat) (v:PV) (rows:List PV),i<=q ^ n/\m=q ^ n-i/\vs=[.ptr sp 0,v,.int .i64 ((q ^ n:Nat):Int),.int .i64 i]/\Keep σ h'/\PAcc σ.next 1 h' v i rows/\All2 FI rows ((allE q n).take i)) (q ^ n) ?_ ?_
 .exact⟨0,_,[],by omega,by omega,rfl,Keep.refl σ,PAcc.nil _ _ _,by simpa using All2.nil _⟩
 rintro m vs h' ⟨i,v,rows,hi,rfl,rfl,aq,ha,aj⟩
 simp only[Z3,seval,-ae];refine iteI (λah=>?_) λaG=>?_;rotate_left
 .have aK:i=q ^ n:=by omega
  subst aK;rw[List.take_of_length_le (by omega)]at aj;exact ha.fin aq (aj.bI 0) λa=>hk _ ⟨true,a,rows,by rw[yM],aj⟩
 have aE:i<q ^ n:=by omega
 have jG:i<(allE q n).length:=by omega
 simp only[Z3,seval,-ae];refine zHH (hs.keep aq) hO hn hq (by omega) λv1 f1=>?_;have K2:=f1;obtain⟨w1,a1,rfl⟩:=f1;simp only[Z3,seval,-ae];refine PAcc.push (bytes:=24) aq ha (by omega) (by omega) λv' h2 k2 a2=>?_;simp only[Z3,seval,-ae,wrapS aE (by omega:q ^ n<=4611686018427387904)];refine⟨_,by omega,i+1,v',rows++[.fz w1 a1 (digs q n i).length (pis (digs q n i))],by omega,rfl,rfl,k2,a2.acc,?_⟩;rw[List.take_succ_eq_append_getElem jG,zCm jG];exact aj.snoc K2
theorem zNT:gS (rO (q:Int) n) x↔El (q:Int) n x:=by
 have at0:∀j,j<n->at_ (rO (q:Int) n) j=(q:Int):=λj hj=>by rw[at_eq (by simpa using hj)];simp
 constructor
 .intro h;have hl:x.length=n:=by simpa using h.len
  refine⟨hl,λy hy=>?_⟩;obtain⟨j,hj,rfl⟩:=List.mem_iff_getElem.1 hy
  have:=h.bd j (by simpa using (by omega:j<n))
  rw[at_eq hj,at0 j (by omega)]at this;omega
 .intro h;refine⟨by simpa using h.1,λj hj=>?_,λj hj=>by omega⟩;have eE:j<n:=by simpa using hj
  have sQ:j<x.length:=by rw[h.1];exact eE
  rw[at0 j eE,at_eq sQ]
  have:=h.2 _ (List.getElem_mem sQ)
  omega
theorem zNM{h1 H:PHeap}{sb:Nat}{rb xY:List PV}(k:Keep (h1.set sb rb) H):Keep (h1.set sb xY) (H.set sb xY):=
 ⟨k.next,k.top,λt ht=>by
  rw[zH,zH]
  have:=k.obj t ht
  rw[zH]at this;by_cases e:t=sb
  .rw[if_pos e,if_pos e]
  .rw[if_neg e]at this;rw[if_neg e,if_neg e];exact this⟩
theorem zFn{f:FuncId}{bj:List PV}{good:V1->Prop}(g:LG O P C)(hs:PtrG σ sp vO vP vC)(hR:IsPr vO vP vC O P C)(hO:O=rO (q:Int) n)(hn:n<=6)(hq:2<=q/\q<=7)(hb:q ^ n<=729)(hf:okF Tryz.prog f=true)(fj:∀t o cs,sbs t o cs bj=bj)
  (hc:∀{h:PHeap} {x:V1} {v:PV} {K':PV->PHeap->Prop},Keep σ h->gS O x->FI v x->(∀t:Bool,(t=true↔good x)->K' (.bool t) h)->zA Tryz.prog f ([]++[v]++bj) h K')
  (hk:∀v u L,FII v u->(∀x,x∈L↔gS O x/\good x)->CanG O (GC O P C L) u->K v σ):zA Tryz.prog 233 [.ptr sp 0,.clo f [] bj] σ K:=by
 have s:=g.s;have F:=g.F;have hC:=g.cent;have hp:=qx.isp g.pr;refine zA.gh ?_;refine zD mix Tryz.func233 ?_
 conv=>arg 2;cbv
 refine zF rfl ?_;simp only[Z3,seval,-ae];refine zCB s hs hR λss sb h1 k1 n1 n2 q1=>?_;simp only[Z3,seval,-ae];refine zFx (hs.keep k1) (hO ▸ hR.O) hn hq hb λvA hA=>?_;have oN:∀x,x∈allE q n↔gS O x:=λx=>by
  rw[hO,zNT];exact⟨zIs (by omega),zFo (by omega)⟩
 have yM:=ZX q n;generalize allE q n=A at *
 obtain⟨wa,aa,ra,rfl,BP⟩:=hA;simp only[Z3,seval,-ae];refine zG (λm us h'=>∃(i:Nat) (rb:List PV) (D:List (Option V1)) (L:V2),i<=A.length/\m=A.length-i/\us=[.clo f [] bj,.ptr ss 0,.fz wa aa A.length ra,.int .i64 A.length,.int .i64 i]/\Keep (h1.set sb rb) h'/\All2 (DRow O.length) rb D/\OkD O D/\QI O P C D []/\(∀N,gB O P C N->(InD N D↔∀q∈L,N q))/\∀x,x∈L↔x∈A.take i/\good x) A.length ?_ ?_
 .refine⟨0,List.replicate O.length (.fz true .nils 0 []),List.replicate O.length none,[],by omega,by omega,rfl,?_,⟨by simp,λk c r hc hr=>?_⟩,OkD.start O.length rfl,QI.start _,λN hN=>⟨λh q hq=>(by cases hq),λh=>InD.start _⟩,λx=>by simp⟩
  .rw[zAP q1.bobj];exact Keep.refl _
  .rw[List.getElem?_replicate]at hc hr;split at hc
   .rename_i h;rw[if_pos h]at hr;cases hc;cases hr;exact .inl ⟨rfl,rfl⟩
   .cases hc
 rintro m us h' ⟨i,rb,D,L,hi,rfl,rfl,bV,bD,hD,hQ,hN,aM⟩
 have mY:=(q1.setB rb).keep bV;have mM:Keep σ h':=(k1.set n2 _).trans bV;simp only[Z3,seval,-ae];refine iteI (λah=>?_) λaG=>?_;rotate_left
 .have aK:i=A.length:=by omega
  subst aK;rw[List.take_length]at aM;simp only[Z3,seval,-ae];refine zDS s F hC mY hR hD bD λv u f1 cd=>?_;simp only[Z3,seval,-ae];exact Gh.fin0 mM (f1.bel _) (hk v u L f1 (λx=>(aM x).trans (and_congr_left λ_=>oN x)) (cd.can s F hC hD hQ hN))
 obtain⟨w4,a4,hr⟩:=BP.rowI ah;have mN:=(oN _).1 (List.getElem_mem ah);have jd:A.take (i+1)=A.take i++[A[i]]:=List.take_succ_eq_append_getElem ah;simp only[Z3,seval,-ae,ah,hr,hf];refine hc mM mN ⟨w4,a4,rfl⟩ λt ht=>?_;cases t with
 |false=>
  have qk:¬good A[i]:=λg=>by have:=ht.2 g;cases this
  simp only[Z3,seval,-ae,wrapS ah (by omega:A.length<=4611686018427387904)];refine⟨_,by omega,i+1,rb,D,L,by omega,rfl,rfl,bV,bD,hD,hQ,hN,λx=>?_⟩;rw[jd,List.mem_append,List.mem_singleton,aM];exact⟨λh=>⟨.inl h.1,h.2⟩,λh=>⟨h.1.resolve_right (λe=>qk (by rw[<-e];exact h.2)),h.2⟩⟩
 |true=>
  have hg:=ht.1 rfl;simp only[Z3,seval,-ae];have bn:sb<h'.next:=mY.blt;have kk:Keep h' ((h'.new [.fz w4 a4 A[i].length (pis A[i])]).kill h'.next):=(zC _ _).kill (vM _);refine zA.frz (s:=h'.next) (cs:=[.fz w4 a4 A[i].length (pis A[i])]) (by simp only[Z3,seval,-ae]) ⟨trivial,trivial⟩ λo1=>?_;simp only[sbs,Go.Ab.sb,capOK,and_self,if_true,decide_true,vM,false_and,if_false];refine zNp (L:=[A[i]]) s F hC hp (mY.keep kk) hR hD bD hQ ⟨true,_,[.fz w4 a4 A[i].length (pis A[i])],rfl,(All2.nil FI).snoc ⟨w4,a4,rfl⟩⟩ (λy hy=>by rw[List.mem_singleton.1 hy];exact mN) (by simp) λt4 xY D4 BO Ko J8 Kd ME MB=>?_;simp only[Z3,seval,-ae,wrapS ah (by omega:A.length<=4611686018427387904)];refine⟨_,by omega,i+1,xY,D4,L++[A[i]],by omega,rfl,rfl,zNM (bV.trans kk),BO,Ko,J8,λN Dc=>(Kd N Dc).trans ⟨λh y hy=>?_,λh=>⟨(hN N Dc).2 λy hy=>h y (List.mem_append_left _ hy),λy hy=>h y (List.mem_append_right _ hy)⟩⟩,λx=>?_⟩
  .rcases List.mem_append.1 hy with e|e
   .exact(hN N Dc).1 h.1 y e
   .exact h.2 y e
  .rw[jd,List.mem_append,List.mem_append,List.mem_singleton,aM];refine⟨λh=>?_,λh=>?_⟩
   .rcases h with h|h
    .exact⟨.inl h.1,h.2⟩
    .exact⟨.inr h,by rw[h];exact hg⟩
   .rcases h.1 with e|e
    .exact .inl ⟨e,h.2⟩
    .exact .inr e
def CenA(O:V1)(P:V2)(C:V3)(u:V2)(x:V1):Prop:=∀g∈ql O,GC O P C u (gcom O P C x g)
theorem zFs{s1 s2:Nat}{x:V1}{vx:PV}(g:LG O P C)(hs:PtrG σ sp vO vP vC)(hR:IsPr vO vP vC O P C)(h1:σ.rd1 s1 0=some (.ptr sp 0))(h2:σ.rd1 s2 0=some vU)(hU:FII vU u)(hu:ZE O P C u)(hx:gS O x)(aX:FI vx x)
  (hk:∀t:Bool,(t=true↔CenA O P C u x)->K (.bool t) σ):zA Tryz.prog 234 [vx,.ptr s1 0,.ptr s2 0] σ K:=by
 have fl:∀{A:Prop},¬A->((false=true)↔A):=λh=>⟨λx=>(by cases x),λx=>absurd x h⟩
 have s:=g.s;have F:=g.F;have aN:=s.le;have fN:=Z6 s;have mQ:=aX;obtain⟨wx,ax,rfl⟩:=aX;refine zD mix Tryz.func234 ?_
 conv=>arg 2;cbv
 refine zF rfl ?_;simp only[Z3,seval,-ae,h1];refine zCu s hs hR λvG hG=>?_;have jI:(ql O).length=O.length:=by simp[ql]
 unfold CenA at hk;generalize ql O=G at *
 obtain⟨wg,ag,rg,rfl,uM⟩:=hG;simp only[Z3,seval,-ae];refine zG (λm vs h=>∃i:Nat,i<=G.length/\m=G.length-i/\vs=[.fz wx ax x.length (pis x),.ptr s1 0,.ptr s2 0,.fz wg ag G.length rg,.int .i64 G.length,.int .i64 i]/\σ=h/\∀g∈G.take i,GC O P C u (gcom O P C x g)) G.length ⟨0,by omega,by omega,rfl,rfl,λg hg=>by simp at hg⟩ ?_
 rintro m vs h ⟨i,hi,rfl,rfl,rfl,aj⟩
 simp only[Z3,seval,-ae];refine iteI (λah=>?_) λaG=>?_;rotate_left
 .have aK:i=G.length:=by omega
  subst aK;rw[List.take_length]at aj;exact hk _ ⟨λ_=>aj,λ_=>rfl⟩
 obtain⟨w4,a4,hr⟩:=uM.rowI ah;have gX:=fN _ (List.getElem_mem ah);simp only[Z3,seval,-ae,ah,hr,h1,h2];refine zCx s F hs hR hx gX mQ ⟨w4,a4,rfl⟩ λv1 f1=>?_;simp only[Z3,seval,-ae,h1,h2];refine zEK g hs hR hU hu (F.g.com_in hx gX) f1 λt ht=>?_;cases t with
 |false=>
  simp only[Z3,seval,-ae,h1,h2];refine hk _ (fl λh=>?_)
  have:=ht.2 (h _ (List.getElem_mem ah))
  cases this
 |true=>
 have e:=ht.1 rfl;simp only[Z3,seval,-ae,h1,h2,wrapS ah (by omega:G.length<=4611686018427387904)];refine⟨_,by omega,i+1,by omega,rfl,rfl,λy hy=>?_⟩;rw[List.take_succ_eq_append_getElem ah,List.mem_append,List.mem_singleton]at hy;rcases hy with hy|rfl
 .exact aj y hy
 .exact e
def EleG(O:V1)(P:V2)(C:V3)(good:V1->Prop)(u:V2):Prop:=∃L,(∀x,x∈L↔gS O x/\good x)/\CanG O (GC O P C L) u
theorem zGS(g:LG O P C)(hs:PtrG σ sp vO vP vC)(hR:IsPr vO vP vC O P C)(hO:O=rO (q:Int) n)(hn:n<=6)(hq:2<=q/\q<=7)(hb:q ^ n<=729)(hU:FII vU u)(hu:ZE O P C u)
  (hk:∀v z,FII v z->EleG O P C (CenA O P C u) z->K v σ):zA Tryz.prog 147 [.ptr sp 0,vU] σ K:=by
 refine zA.gh ?_;refine zD mix Tryz.func147 ?_
 conv=>arg 2;cbv
 refine zF rfl ?_;simp only[Z3,seval,-ae,hU.one,hU.cells];have ah:=hs.lt;have k1:Keep σ ((σ.new [.ptr sp 0]).new [vU]):=(zC σ _).new _;have q1:((σ.new [.ptr sp 0]).new [vU]).rd1 σ.next 0=some (.ptr sp 0):=by simp only[Z3,seval,-ae]
 have q2:((σ.new [.ptr sp 0]).new [vU]).rd1 (σ.next+1) 0=some vU:=by simp only[Z3,seval,-ae]
 have dk:((σ.new [.ptr sp 0]).new [vU]).next=σ.next+2:=rfl;generalize (σ.new [.ptr sp 0]).new [vU]=H at *
 refine zFn (good:=CenA O P C u) g (hs.keep k1) hR hO hn hq hb (by kernel_rfl) (λ_ _ _=>rfl) (λ{h x vx K'} aq hx aX bZ=>?_) λv z L hz hL bE=>?_
 .have ID:=aq.next;exact zFs g (hs.keep (k1.trans aq)) hR (by rw[aq.rd1 (by omega)];exact q1) (by rw[aq.rd1 (by omega)];exact q2) hU hu hx aX bZ
 .simp only[Z3,seval,-ae];exact Gh.fin0 k1 (hz.bel _) (hk v z hz ⟨L,hL,bE⟩)
theorem zN1(g:LG O P C):ZE O P C []:=⟨λx hx=>(by cases hx),List.Pairwise.nil,λv hv=>(by cases hv),λv hv=>(by cases hv),λv hv=>(by cases hv),λx hx hd=>by
 have h1:x=zv O:=hx (λy=>y=zv O) ⟨λh=>h ▸ g.F.g.one,rfl,λh1 h2=>by rw[h1,h2];exact g.F.g.l1 g.F.g.one,λh=>by rw[h];exact g.F.g.inv_one⟩ λl hl=>by cases hl
 rw[h1]at hd;exact absurd (zn _ _) (qa (by simpa using hd))⟩
theorem zPJ(g:LG O P C)(hR:IsPr vO vP vC O P C)(sz:SzP O P C)(hO:O=rO (q:Int) n)(hn:n<=6)(hq:2<=q/\q<=7)(hb:q ^ n<=729)
  (hk:∀v z,FII v z->EleG O P C (CenA O P C []) z->K (.tup [v,.int .i64 0]) σ):zA Tryz.prog 53 [.agg [vO,vP,vC]] σ K:=by
 have h0:=hR.O.one;have h1:=hR.P.one;have h2:=hR.C.one;refine zA.gh ?_;refine zD mix Tryz.func53 ?_
 conv=>arg 2;cbv
 refine zF rfl ?_;simp only[Z3,seval,-ae,h0,h1,h2];have aq:Keep σ (σ.new [vO,vP,vC]):=zC σ _;have hs:PtrG (σ.new [vO,vP,vC]) σ.next vO vP vC:=⟨by simp only[Z3,seval,-ae],by simp only[Z3,seval,-ae]⟩
 have bJ:(σ.new [vO,vP,vC]).rd σ.next 0 3=some [vO,vP,vC]:=by simp only[Z3,seval,-ae]
 generalize σ.new [vO,vP,vC]=H at *
 simp only[Z3,seval,-ae,bJ];refine zBr hR sz λt ht=>?_;obtain rfl:t=true:=ht.2 ⟨g.pr,g.co⟩;clear ht;simp only[Z3,seval,-ae];refine zGS g hs hR hO hn hq hb (u:=[]) ⟨true,.nils,[],rfl,All2.nil _⟩ (zN1 g) λv z hz he=>?_;simp only[Z3,seval,-ae];exact Gh.fin0 aq ⟨hz.bel _,trivial,trivial⟩ (hk v z hz he)
noncomputable abbrev rcj (p:Int) (n:Nat) (W:V2) (B:V3) (x g:V1):V1:=gcnj (rO p n) (lgPs p n W B n) (lgCs p n W B n) x g
theorem zC2(z:Lz p n W B c)(hx:El p n x)(hy:El p n y):vcG p n W B (conj p n W B x y)=rcj p n W B (vcG p n W B x) (vcG p n W B y):=by
 have o:=z.r.o;have hc:=Qh o z.r.q hx hy;refine(lg_LG z).F.g.cnj_eq ((gS_el z).2 (vc_el z hx)) ((gS_el z).2 (vc_el z hy)) ((gS_el z).2 (vc_el z hc)) ?_;show rm p n W B _ _=rm p n W B _ _;rw[<-zE4 z hy hc,z.conj_move hx hy,zE4 z hx hy]
theorem zHR{O:V1}{P:V2}{C:V3}(g:LG O P C){N:V1->Prop}(hN:gB O P C N)(hu:∀i,i<O.length->N (Grp.unit O i))(hx:gS O x):N x:=by
 have key:∀(d t:Nat),t+d<=O.length->N (ph (gm O P C) (zv O) (Grp.unit O) (nx x) t d):=by
  intro d
  induction d with
  |zero=>exactλt _=>hN.one
  |succ d ih=>exactλt ht=>hN.cl (hN.pw (hu t (by omega)) _) (ih (t+1) (by omega))
 have:=key O.length 0 (by omega)
 rwa[g.F.nfx hx]at this
theorem zQJ{O:V1}{P:V2}{C:V3}(g:LG O P C){x y a:V1}(hx:gS O x)(hy:gS O y)(ha:gS O a):gcnj O P C (gm O P C x y) a=gm O P C (gcnj O P C x a) (gcnj O P C y a):=by
 have G:=g.F.g;have c1:=G.cnj_in hx ha;have c2:=G.cnj_in hy ha;refine(G.cnj_eq (G.cl hx hy) ha (G.cl c1 c2) ?_).symm;rw[<-G.as ha c1 c2,G.cnj_spec hx ha,G.as hx ha c2,G.cnj_spec hy ha,G.as hx hy ha]
theorem zKj{O:V1}{P:V2}{C:V3}(g:LG O P C){x a b:V1}(hx:gS O x)(ha:gS O a)(hb:gS O b):gcnj O P C x (gm O P C a b)=gcnj O P C (gcnj O P C x a) b:=by
 have G:=g.F.g;have c1:=G.cnj_in hx ha;have c2:=G.cnj_in c1 hb;refine(G.cnj_eq hx (G.cl ha hb) c2 ?_).symm;rw[G.as ha hb c2,G.cnj_spec c1 hb,<-G.as ha c1 hb,G.cnj_spec hx ha,G.as hx ha hb]
theorem cnj_one{O:V1}{P:V2}{C:V3}(g:LG O P C){x:V1}(hx:gS O x):gcnj O P C x (zv O)=x:=by
 have G:=g.F.g;exact(G.cnj_eq hx G.one hx (by rw[G.l1 hx,G.r1 hx])).symm
theorem zKN{O:V1}{P:V2}{C:V3}(g:LG O P C){a:V1}(ha:gS O a):gcnj O P C (zv O) a=zv O:=by
 have G:=g.F.g;exact(G.cnj_eq G.one ha G.one (by rw[G.l1 ha,G.r1 ha])).symm
theorem zKh{O:V1}{P:V2}{C:V3}(g:LG O P C){x y:V1}(hx:gS O x)(hy:gS O y):gcom O P C x y=zv O↔gcnj O P C x y=x:=by
 have G:=g.F.g;have hs:gm O P C (gm O P C y x) (gcom O P C x y)=gm O P C x y:=G.com_spec hx hy;have hi:gS O (gcom O P C x y):=G.com_in hx hy;constructor
 .intro h;rw[h,G.r1 (G.cl hy hx)]at hs;exact(G.cnj_eq hx hy hx hs).symm
 .intro h;have h2:gm O P C y (gcnj O P C x y)=gm O P C x y:=G.cnj_spec hx hy;rw[h]at h2;refine G.cancel (G.cl hy hx) hi G.one ?_;rw[G.r1 (G.cl hy hx),hs,h2]
theorem zPz{O:V1}{P:V2}{C:V3}(g:LG O P C)(hu:∀x∈u,gS O x)(h:NorG O P C u):∀x a,GC O P C u x->gS O a->GC O P C u (gcnj O P C x a):=by
 have s:=g.s;have F:=g.F;have G:=F.g;have hH:=GC.sub F hu;have step:∀i,i<O.length->∀x,GC O P C u x->GC O P C u (gcnj O P C x (Grp.unit O i)):=λi hi x hx=>by
  have dq:Grp.unit O i∈ql O:=List.mem_map.2 ⟨i,List.mem_range.2 hi,rfl⟩;have ui:gS O (Grp.unit O i):=Z6 s _ dq;have hB:gB O P C (λx=>gS O x/\GC O P C u (gcnj O P C x (Grp.unit O i))):=QA s F g.cent (λx hx=>hx.1) ⟨G.one,by rw[zKN g ui];exact hH.one⟩ λx y hx hy=>⟨G.cl hx.1 hy.1,by rw[zQJ g hx.1 hy.1 ui];exact hH.cl hx.2 hy.2⟩
  exact(hx _ hB λl hl=>⟨hu l hl,h _ dq l hl⟩).2
 intro x a hx ha;have hB:gB O P C (λa=>gS O a/\∀x,GC O P C u x->GC O P C u (gcnj O P C x a)):=QA s F g.cent (λx hx=>hx.1) ⟨G.one,λx hx=>by rw[cnj_one g (hH.inS hx)];exact hx⟩ λa b ha hb=>⟨G.cl ha.1 hb.1,λx hx=>by rw[zKj g (hH.inS hx) ha.1 hb.1];exact hb.2 _ (ha.2 _ hx)⟩
 exact(zHR g hB (λi hi=>⟨Z6 s _ (List.mem_map.2 ⟨i,List.mem_range.2 hi,rfl⟩),step i hi⟩) ha).2 x hx
theorem zN2(z:Lz p n W B c)(hb:Base p n W u)(hs:ZE (rO p n) (lgPs p n W B n) (lgCs p n W B n) m)(hg:∀x,rG p n W B m x↔El p n x/\Gen p n W u (at_ (ptG p n W B x n))):isId p n W B u↔NorG (rO p n) (lgPs p n W B n) (lgCs p n W B n) m:=by
 have o:=z.r.o;have q:=z.r.q;have nf:=z.r.nf;have hv:∀{x},El p n x->(rG p n W B m (vcG p n W B x)↔Gen p n W u (at_ x)):=λ{x} hx=>(hg _).trans (by rw[pt_vc z hx];exact and_iff_right (vc_el z hx));constructor
 .intro hI;have eH:∀f g,Gen p n W u f->Gen p n W u (brv B n f g):=λf g hf=>by
   refine Zk (zM u) (λw hw=>?_) (zFg o q nf hf g);obtain⟨a,ha,b,hb,rfl⟩:=Q0.1 hw;exact hI a ha b hb
  have F:Fil p n W B λ_=>Gen p n W u:=⟨λ_=>zM u,λ_ _ h=>h,λ_ f g h=>eH f g h⟩
  intro a ha e he;have ea:El p n a:=(gS_el z).1 (Z6 (zCD z) a ha);have ee:El p n e:=(gS_el z).1 (hs.1 e he);have E4:=((hg e).1 (GC.mem he)).2;have pa:=pt_el z a;have pe:=pt_el z e;have hc:=Qh o q pe pa;obtain⟨w,hw,hq⟩:=z.conj_fil F pe pa
  have:=(hv hc).2 ((zM u).eqv _ _ hq ((zM u).add _ _ E4 (hw 0 (.inl E4))))
  rw[zC2 z pe pa,vc_pt z ee,vc_pt z ea]at this;exact this
 .intro hN a ha b gd;have aj:=zPz (lg_LG z) hs.1 hN;have E:=sg_E z hs;have ea:=hb.els a ha;have eb:=ZW o.pr b gd;have cn:∀{x},(El p n x/\rG p n W B m (vcG p n W B x))->(El p n (comm p n W B x b)/\rG p n W B m (vcG p n W B (comm p n W B x b))):=λ{x} hx=>by
   have hc:El p n (conj p n W B x b)/\rG p n W B m (vcG p n W B (conj p n W B x b)):=⟨Qh o q hx.1 eb,by rw[zC2 z hx.1 eb];exact aj _ _ hx.2 ((gS_el z).2 (vc_el z eb))⟩
   rw[<-z.conj_comm hx.1 eb];exact E.cl _ _ (E.mul _ _ hx) hc
  have h0:El p n a/\rG p n W B m (vcG p n W B a):=⟨ea,(hv ea).2 (zQ ha)⟩;have h1:=cn h0;exact(hv (br_el o q)).1 (E.br z ea eb h1 (E.comm h1 h0) (cn h1)).2
variable{h h':PHeap}{A0:Int}{s:Nat}{vB:PV}{bs:V1}
theorem zJm{p:Int}{n:Nat}(hp:1<=p/\p<=11)(hn:n<=6)(hk:∀k,K (.int .i64 k) σ):zA Tryz.prog 115 [.int .i64 p,.int .i64 n] σ K:=by
 refine zD mix Tryz.func115 ?_
 conv=>arg 2;cbv
 refine zF rfl ?_;simp only[Z3,seval,-ae];refine zG (λm vs h'=>∃(i:Nat) (k:Int),i<=n/\m=n-i/\1<=k/\k<=8019/\vs=[.int .i64 p,.int .i64 n,.int .i64 k,.int .i64 i]/\h'=σ) n ⟨0,1,by omega,by omega,by omega,by omega,rfl,rfl⟩ ?_
 rintro m vs h' ⟨i,k,hi,rfl,k1,k2,rfl,rfl⟩
 by_cases ah:i<n
 .by_cases hle:k<=729
  .have e1:=Int.mul_le_mul_of_nonneg_left hp.1 (show 0<=k by omega);have e2:=Int.mul_le_mul_of_nonneg_left hp.2 (show 0<=k by omega);simp only[Z3,seval,-ae,ah,hle,wrapS (n:=n) ah (by omega),wrap64 (n:=k*p) (by omega) (by omega)];exact⟨_,by omega,i+1,k*p,by omega,rfl,by omega,by omega,rfl⟩
  .simp only[Z3,seval,-ae,ah,hle];exact hk _
 .simp only[Z3,seval,-ae,ah];exact hk _
theorem zJg(so:So σ s vC bs)(hk:∀p vP vB W B h,DrR p W B->IsR vP vB W B->Mv σ s h->So h s vC bs->K (.agg [.int .i64 p,vP,vB]) h):zA Tryz.prog 111 [.ptr s 0,.int .i64 A0] σ K:=by
 have bK:=so.lt;refine zA.gh ?_;generalize hT:σ.new [.int .i64 0,.fz true .nils 0 [],.fz true .nils 0 []]=T;have cJ:T.next=σ.next+1:=by rw[<-hT];rfl
 have cg:Keep σ T:=by rw[<-hT];exact zC σ _
 have dp:So T s vC bs:=so.keep cg;have bQ:s<T.next:=dp.lt;have fU:T.obj σ.next=some [.int .i64 0,.fz true .nils 0 [],.fz true .nils 0 []]:=by rw[<-hT];simp only[Z3,seval,-ae]
 have aI:∀{g:PHeap} {u0 u1 u2:PV},KM T s g->u0.one=true->u1.one=true->u2.one=true->g.wr σ.next 0 [u0,u1,u2]=some (g.set σ.next [u0,u1,u2])/\(g.set σ.next [u0,u1,u2]).rd σ.next 0 3=some [u0,u1,u2]:=λ{g u0 u1 u2} k z0 z1 z2=>by
  have aI:g.obj σ.next=some [.int .i64 0,.fz true .nils 0 [],.fz true .nils 0 []]:=by rw[k.obj (by omega) (by omega)];exact fU
  exact⟨by rw[qC aI,if_pos ⟨by simp,by simp only[List.all_cons,List.all_nil,z0,z1,z2];rfl⟩];rfl,by rw[qh,if_pos rfl];rfl⟩
 refine zD mix Tryz.func111 ?_
 conv=>arg 2;cbv
 refine zF rfl ?_;simp only[Z3,seval,-ae];rw[hT];refine zG (λm us h=>∃i:Nat,i<=12/\m=12-i/\us=[.ptr s 0,.int .i64 A0,.ptr σ.next 0,.int .i64 i]/\KM T s h/\So h s vC bs) 12 ⟨0,by omega,by omega,rfl,dp.km,dp⟩ ?_
 rintro m us h ⟨i,hi,rfl,rfl,km,dP⟩
 simp only[Z3,seval,-ae];refine iteI (λah=>?_) λaG=>?_;rotate_left
 .refine zCe (n:=2) (by omega) (by omega) λsP capP cs sB ai ls h5 k5 iX=>?_;obtain⟨x1,x2⟩:=aI (u0:=.int .i64 3) (u1:=.sl sP 0 2 capP) (u2:=.sl sB 0 2 ai) (km.keep k5) rfl rfl rfl;simp only[Z3,seval,-ae,x1,x2];have J6:=km.next;refine Gh.km (((so.kmK cg).trans bK (km.keep k5)).set (vM _) _) ((dP.keep k5).set (by omega) _) bK λσ' m' cU kp=>?_;refine RS.fin ((iX.low (b':=σ'.next) (by rw[m'.next];omega)).move (λt ht=>?_) (vM _)) kp (vM _) λvP vB hR=>hk 3 vP vB _ _ σ' (DrR.ok (.inr (.inl rfl)) (OkF.zero (by unfold okp;omega) (by omega))) hR m' cU
  have:=(iX.lt ht).1
  rw[zH,if_neg (by omega)]
 refine zLY dP λp vP vB W B h2 d hR m2 dy=>?_;have gk:=km.mv bQ m2;have g1:=hR.P.one;have g2:=hR.B.one;have dA:=d.p;have mO:=d.wl;have Kw:=gk.next;have bB:IntKind.i64.wrap ((i:Int)+1)=((i+1:Nat):Int):=by rw[wrap64 (by omega) (by omega)];omega
 have dO:So (h2.new [.int .i64 p,vP,vB]) s vC bs:=dy.keep (zC _ _);have eY:KM T s (h2.new [.int .i64 p,vP,vB]):=gk.new _;have jy:(h2.new [.int .i64 p,vP,vB]).rd h2.next 0 3=some [.int .i64 p,vP,vB]:=by simp only[Z3,seval,-ae]
 have mi:(h2.new [.int .i64 p,vP,vB]).rd1 h2.next 0=some (.int .i64 p):=by simp only[Z3,seval,-ae]
 have rd1:(h2.new [.int .i64 p,vP,vB]).rd1 h2.next 1=some vP:=by simp only[Z3,seval,-ae]
 simp only[Z3,seval,-ae,g1,g2];generalize h2.new [PV.int .i64 p,vP,vB]=H at *
 have aJ:=hR;obtain⟨⟨wp,ap,rp,rfl,jf⟩,MQ⟩:=aJ;simp only[Z3,seval,-ae];refine zJm dA mO λk=>?_;by_cases di:k<=A0
 .obtain⟨x1,x2⟩:=aI (u0:=.int .i64 p) (u1:=.fz wp ap W.length rp) (u2:=vB) eY rfl g1 g2;simp only[Z3,seval,-ae,di,decide_true,jy,x1,x2,g2];refine Gh.km (((so.kmK cg).trans bK eY).set (vM _) _) (dO.set (by omega) _) bK λσ' m' cU kp=>?_;exact Gh.fin0 kp ⟨trivial,hR.P.bel _,hR.B.bel _,trivial⟩ (hk p _ vB W B σ' d hR m' cU)
 .simp only[Z3,seval,-ae,di,decide_false,bB];exact⟨_,by omega,i+1,by omega,rfl,rfl,eY,dO⟩
theorem zH1:∀n,Bels 0 (List.replicate n (PV.fz true .nils 0 []))
 |0=>trivial
 |n+1=>by rw[List.replicate_succ];exact⟨trivial,zH1 n⟩
theorem zIE(hR:IsPr vO vP vC O P C)(hn:O.length<=6){w:Bool}{a:AV}(hk:∀a,K (.fz true a O.length (List.replicate O.length (.fz true .nils 0 []))) σ):zA Tryz.prog 324 [.agg [vO,vP,vC],.fz w a 0 []] σ K:=by
 have h1:=hR.P.one;have h2:=hR.C.one;obtain⟨⟨w0,a0,rfl⟩,yG,yH⟩:=hR;refine zA.gh ?_;refine zD mix Tryz.func324 ?_
 conv=>arg 2;cbv
 refine zF rfl ?_;simp only[Z3,seval,-ae,h1,h2,mk24 (n:=O.length) (by omega),mkL (n:=O.length) (by omega)];refine zG (λm vs h'=>m=0/\vs=[.fz w a 0 [],.sl (σ.next+1) 0 O.length (.known O.length),.int .i64 0]/\h'=(σ.new [.fz w0 a0 O.length (pis O),vP,vC]).new (List.replicate O.length (.fz true .nils 0 []))) 0 ⟨rfl,rfl,rfl⟩ ?_
 rintro m vs h' ⟨rfl,rfl,rfl⟩
 simp only[Z3,seval,-ae];exact Gh.finF (s:=σ.next+1) ((zC σ _).new _) (by simp only[Z3,seval,-ae]) (by omega) (zH1 _) (by simp[capOK]) λo=>hk _
theorem zHC(hR:IsPr vO vP vC O P C)(hx:gS O x)(aX:FI vx x)(hn:O.length<=6){w:Bool}{a:AV}(hk:∀v,FI v x->K v σ):zA Tryz.prog 323 [.agg [vO,vP,vC],.fz w a O.length (List.replicate O.length (.fz true .nils 0 [])),vx] σ K:=by
 have h0:=hR.O.one;have h1:=hR.P.one;have h2:=hR.C.one;have aW:=hx.len;refine zA.gh ?_;refine zD mix Tryz.func323 ?_
 conv=>arg 2;cbv
 refine zF rfl ?_;simp only[Z3,seval,-ae,h0,h1,h2];refine ownFI aX (by omega) λv0 mr=>?_;have Bz:=mr;obtain⟨wx,ax,rfl⟩:=mr;simp only[Z3,seval,-ae];refine zG (λm vs h'=>∃i:Nat,i<=O.length/\m=O.length-i/\vs=[.fz w a O.length (List.replicate O.length (.fz true .nils 0 [])),.ptr σ.next 0,.fz wx ax x.length (pis x),.int .i64 i]/\h'=σ.new [vO,vP,vC]) O.length ⟨0,by omega,by omega,rfl,rfl⟩ ?_
 rintro m vs h' ⟨i,hi,rfl,rfl,rfl⟩
 simp only[Z3,seval,-ae];refine iteI (λah=>?_) λaG=>?_;rotate_left
 .exact Gh.fin0 (zC σ _) trivial (hk _ Bz)
 have aE:i<O.length:=by omega
 have fM:(List.replicate O.length (PV.fz true .nils 0 []))[i]? = some (.fz true .nils 0 []):=by rw[List.getElem?_replicate,if_pos aE]
 have d0:decide ((0:Int)<((0:Nat):Int))=false:=rfl;simp only[Z3,seval,-ae,aE,fM,d0,wrapS aE (by omega:O.length<=4611686018427387904)];exact⟨_,by omega,i+1,by omega,rfl,rfl⟩
theorem zLe(hR:IsPr vO vP vC O P C)(hx:gS O x)(aX:FI vx x)(hn:O.length<=6){w:Bool}{a:AV}(hk:K (.bool (decide (isZ x))) σ):zA Tryz.prog 239 [.agg [vO,vP,vC],.fz w a 0 [],vx] σ K:=by
 have h0:=hR.O.one;have h1:=hR.P.one;have h2:=hR.C.one;have aW:=hx.len;have Av:∀{σ:PHeap} {K:PV->PHeap->Prop},(∀v,FI v x->K v σ)->zA Tryz.prog 299 [.agg [vO,vP,vC],.fz w a 0 [],vx] σ K:=λ{σ K} hk=>by
  refine zA.gh ?_;refine zD mix Tryz.func299 ?_
  conv=>arg 2;cbv
  refine zF rfl ?_;simp only[Z3,seval,-ae,h0,h1,h2,aX.one];refine zIE hR hn λa1=>?_;simp only[Z3,seval,-ae,h0,h1,h2];refine zHC hR hx aX hn λv hv=>?_;simp only[Z3,seval,-ae];exact Gh.fin0 (zC σ _) (hv.bel _) (hk v hv)
 refine zA.gh ?_;refine zD mix Tryz.func239 ?_
 conv=>arg 2;cbv
 refine zF rfl ?_;simp only[Z3,seval,-ae,h0,h1,h2];refine Av λv hv=>?_;obtain⟨wx,ax,rfl⟩:=hv;simp only[Z3,seval,-ae];refine Qf rfl (by omega) ?_;simp only[Z3,seval,-ae];exact Gh.fin0 (zC σ _) trivial hk
theorem zIF(hR:IsPr vO vP vC O P C)(hO:O=rO (q:Int) n)(hn:n<=6)(hq:2<=q/\q<=7)(hb:q ^ n<=729)(hk:K (.int .i64 ((q ^ n:Nat):Int)) σ):zA Tryz.prog 237 [.agg [vO,vP,vC]] σ K:=by
 have h1:=hR.P.one;have h2:=hR.C.one;have oK:O.length=n:=by rw[hO];simp
 have rT:∀i (h:i<O.length),O[i]=(q:Int):=λi h=>by subst hO;simp
 obtain⟨⟨w0,a0,rfl⟩,yG,yH⟩:=hR;refine zA.gh ?_;refine zD mix Tryz.func237 ?_
 conv=>arg 2;cbv
 refine zF rfl ?_;simp only[Z3,seval,-ae,h1,h2];have e0:(σ.new [.fz w0 a0 O.length (pis O),vP,vC]).rd1 σ.next 0=some (.fz w0 a0 O.length (pis O)):=by simp only[Z3,seval,-ae]
 refine zG (λm vs h'=>∃i:Nat,i<=n/\m=n-i/\vs=[.ptr σ.next 0,.int .i64 ((q ^ i:Nat):Int),.int .i64 i]/\h'=σ.new [.fz w0 a0 O.length (pis O),vP,vC]) n ⟨0,by omega,by omega,rfl,rfl⟩ ?_
 rintro m vs h' ⟨i,hi,rfl,rfl,rfl⟩
 simp only[Z3,seval,-ae,e0];refine iteI (λah=>?_) λaG=>?_;rotate_left
 .have aK:i=n:=by omega
  subst aK;exact Gh.fin0 (zC σ _) trivial hk
 have aE:i<O.length:=by omega
 have aD:i<n:=by omega
 have mZ:q ^ (i+1)<=729:=Nat.le_trans (Nat.pow_le_pow_right (by omega) (by omega)) hb;have hm:((q ^ i:Nat):Int)*(q:Int)=((q ^ (i+1):Nat):Int):=by rw[Nat.pow_succ];push_cast;rfl
 have hw:IntKind.i64.wrap (((q ^ i:Nat):Int)*(q:Int))=((q ^ (i+1):Nat):Int):=by rw[hm,wrap64 (by omega) (by omega)]
 have fM:(pis O)[i]? = some (.int .i64 (q:Int)):=by rw[zU,List.getElem?_eq_getElem aE,rT];rfl
 simp only[Z3,seval,-ae,e0,aE,fM,hw,wrapS aD (by omega:n<=4611686018427387904)];exact⟨_,by omega,i+1,by omega,rfl,rfl⟩
theorem zNJ{k0:Nat}(hR:IsPr vO vP vC O P C)(hO:O=rO (q:Int) n)(hn:n<=6)(hq:2<=q/\q<=7)(eC:k0<=1000000)(hk:∀v,FI v (digs q n k0)->K v σ):zA Tryz.prog 238 [.agg [vO,vP,vC],.int .i64 k0] σ K:=by
 have h1:=hR.P.one;have h2:=hR.C.one;have oK:O.length=n:=by rw[hO];simp
 have rT:∀i (h:i<O.length),O[i]=(q:Int):=λi h=>by subst hO;simp
 clear hO;subst oK;obtain⟨⟨w0,a0,rfl⟩,yG,yH⟩:=hR;have one:∀{σ:PHeap} {K:PV->PHeap->Prop},(K (.sl σ.next 0 O.length (.known O.length)) (σ.new (pis (List.replicate O.length 0))))->zA Tryz.prog 298 [.agg [.fz w0 a0 O.length (pis O),vP,vC]] σ K:=λ{σ K} hk=>by
  refine zA.gh ?_;refine zD mix Tryz.func298 ?_
  conv=>arg 2;cbv
  refine zF rfl ?_;simp only[Z3,seval,-ae,h1,h2,mk8 (n:=O.length) (by omega),mkL (n:=O.length) (by omega),List.length_replicate,qA];exact Gh.finS (s:=σ.next+1) ((zC σ _).new _) (by simp only[Z3,seval,-ae,qA]) (by omega) (zL _ _) hk
 refine zA.gh ?_;refine zD mix Tryz.func238 ?_
 conv=>arg 2;cbv
 refine zF rfl ?_;simp only[Z3,seval,-ae,h1,h2];refine one ?_;have ew:IntKind.i64.wrap ((O.length:Int)-1)=(O.length:Int)-1:=wrap64 (by omega) (by omega);simp only[Z3,seval,-ae,ew];refine zG (λm vs h'=>∃(c kk:Nat) (out:V1),c<=O.length/\m=c/\vs=[.int .i64 kk,.ptr σ.next 0,.sl (σ.next+1) 0 O.length (.known O.length),.int .i64 ((c:Int)-1)]/\h'=(σ.new [.fz w0 a0 O.length (pis O),vP,vC]).new (pis out)/\out.length=O.length/\kk<=k0/\digs q c kk++out.drop c=digs q O.length k0) O.length ?_ ?_
 .refine⟨O.length,k0,List.replicate O.length 0,vM _,rfl,rfl,rfl,by simp,vM _,?_⟩;rw[List.drop_of_length_le (by simp),List.append_nil]
 rintro m vs h' ⟨c,kk,out,yB,rfl,rfl,rfl,fI,fL,hd⟩
 rcases Nat.eq_zero_or_pos m with rfl|aF
 .simp only[Z3,seval,-ae,show ¬((0:Int)<=((0:Nat):Int)-1) by omega];have he:out=digs q O.length k0:=by simpa [digs]using hd
  rw[<-he]at hk;clear he hd;rw[<-fI];exact Gh.finF (s:=σ.next+1) ((zC σ _).new _) (by simp only[Z3,seval,-ae]) (by omega) (zL _ _) (by simp[capOK]) λo1=>hk _ ⟨_,_,rfl⟩
 .obtain⟨c,rfl⟩:∃c,m=c+1:=⟨m-1,by omega⟩
  have e:((c+1:Nat):Int)-1=(c:Int):=by omega
  have ln:c<out.length:=by omega
  have iO:c<O.length:=by omega
  have o7:IntKind.i64.wrap ((c:Int)-1)=(c:Int)-1:=wrap64 (by omega) (by omega);rw[e];have wK:¬(q:Int)=0:=by omega
  have et:(kk:Int).tmod (q:Int)=((kk % q:Nat):Int):=rfl;have ed:(kk:Int).tdiv (q:Int)=((kk / q:Nat):Int):=rfl;have dZ:kk / q<=kk:=Nat.div_le_self _ _;have mb:∀q:Nat,q<=kk->IntKind.i64.wrap (q:Int)=(q:Int):=λq hq=>wrap64 (by omega) (by omega);have mb:=mb _ dZ;have ll:c+1<=out.length:=ln;have bY:=zX ln (x:=((kk % q:Nat):Int));have fM:(pis O)[c]? = some (.int .i64 (q:Int)):=by rw[zU,List.getElem?_eq_getElem iO,rT];rfl
  simp only[Z3,seval,-ae,wK,et,ed,mb,iO,fM,ll,zJ,bY,o7];refine⟨c,Nat.lt_succ_self c,c,kk / q,out.set c ((kk % q:Nat):Int),by omega,rfl,rfl,rfl,by rw[List.length_set];exact fI,Nat.le_trans dZ fL,?_⟩;rw[<-hd,digs,List.append_assoc];congr 1;rw[List.drop_eq_getElem_cons (by rw[List.length_set];exact ln),List.getElem_set_self,List.drop_set_of_lt (by omega)];rfl
theorem zNK(hn:O.length<=6)(hk:∀v,FII v (ql O)->K v σ):zA Tryz.prog 297 [.int .i64 O.length] σ K:=by
 have hl:(ql O).length=O.length:=by simp[ql]
 refine zA.pwf λw0=>zA.gh ?_;refine zD mix Tryz.func297 ?_
 conv=>arg 2;cbv
 refine zF rfl ?_;simp only[Z3,seval,-ae];refine ZG (λm vs h'=>∃(i:Nat) (vC:PV) (rows:List PV),i<=O.length/\m=O.length-i/\vs=[.int .i64 O.length,vC,.int .i64 i]/\Keep σ h'/\PSl σ.next 1 h' vC i rows/\All2 FI rows ((List.range i).map (Grp.unit O))) O.length ?_ ?_
 .exact .here ⟨0,_,[],by omega,by omega,rfl,zC σ _,PSl.new _ 1 rfl (vM _),All2.nil _⟩
 rintro m vs h' ⟨i,vC,rows,hi,rfl,rfl,aq,ha,aj⟩
 simp only[Z3,seval,-ae];refine iteI (λah=>?_) λaG=>?_;rotate_left
 .have aK:i=O.length:=by omega
  subst aK;exact ha.fin aq (aj.bI 0) λo cap=>hk _ ⟨true,_,rows,by rw[hl],aj⟩
 have aE:i<O.length:=by omega
 have bY:(pis (List.replicate O.length 0)).take i++[PV.int .i64 1]++(pis (List.replicate O.length 0)).drop (i+1)=pis (Grp.unit O i):=zX (by simpa using aE);have cq:(Grp.unit O i).length=O.length:=by simp
 simp only[Z3,seval,-ae,aE,List.length_replicate,qA,zJ,bY,mk8 (n:=O.length) (by omega),mkL (n:=O.length) (by omega),Nat.succ_le_of_lt aE];refine PAcc.pushS (σb:=σ) (bytes:=24) (aq.new _) (ha.acc.keep (zC _ _)) rfl (by omega) (by omega) λv' h2 k2 a2 o2 n2 l2=>?_;have dk:(h'.new (pis (Grp.unit O i))).next=h'.next+1:=rfl;rw[dk]at o2 n2 l2;have uL:h2.obj h'.next=some (pis (Grp.unit O i)):=by rw[o2 _ (by omega) (ha.acc.ne (vM _)),zP,if_pos rfl]
 simp only[Z3,seval,-ae,wrapS aE (by omega:O.length<=4611686018427387904)];refine⟨O.length-(i+1),by omega,.fzh h'.next (pis (Grp.unit O i)) uL (zL _ _) λo1=>?_⟩;obtain⟨f1,f2,f3⟩:=PSl.fzr w0 k2 a2 (s:=h'.next) (cs:=pis (Grp.unit O i)) (by have:=aq.next;omega) (n2 _ (by omega)) o1;refine .here ⟨i+1,v',rows++[.fz true (.sl o1 0 O.length (.known O.length)) O.length (pis (Grp.unit O i))],by omega,rfl,?_,f1,?_,?_⟩
 .simp only[sbs,Go.Ab.sb,f3]
 .have bh:capOK (.known O.length) O.length=true:=by simp[capOK]
  rwa[zB6 (aj.bI 0) bh]at f2
 .rw[zD6];exact aj.snoc ⟨true,_,by rw[cq]⟩
theorem zJq(hR:IsPr vO vP vC O P C)(hn:O.length<=6)(hk:∀v,FII v (ql O)->K v σ):zA Tryz.prog 236 [.agg [vO,vP,vC]] σ K:=by
 have h1:=hR.P.one;have h2:=hR.C.one;obtain⟨⟨w0,a0,rfl⟩,yG,yH⟩:=hR;refine zA.gh ?_;refine zD mix Tryz.func236 ?_
 conv=>arg 2;cbv
 refine zF rfl ?_;simp only[Z3,seval,-ae,h1,h2];refine zNK hn λv hv=>?_;simp only[Z3,seval,-ae];exact Gh.fin0 (zC σ _) (hv.bel _) (hk v hv)
theorem zIS(g:LG O P C)(hx:gS O x):GC O P C [] x↔isZ x:=by
 constructor
 .intro h;have h1:x=zv O:=h (λy=>y=zv O) ⟨λh=>h ▸ g.F.g.one,rfl,λh1 h2=>by rw[h1,h2];exact g.F.g.l1 g.F.g.one,λh=>by rw[h];exact g.F.g.inv_one⟩ λl hl=>by cases hl
  rw[h1];exactλy hy=>List.eq_of_mem_replicate hy
 .intro h;rw[show x=zv O from(zIK hx.len).1 h];exact(GC.sub (L:=[]) g.F (λx hx=>by cases hx)).one
theorem zID{w:Bool}{a:AV}(g:LG O P C)(hR:IsPr vO vP vC O P C)(hO:O=rO (q:Int) n)(hn:n<=6)(hq:2<=q/\q<=7)(hb:q ^ n<=729)
  (hk:∀v z,FII v z->EleG O P C (CenA O P C []) z->K v σ):zA Tryz.prog 148 [.agg [vO,vP,vC],.fz w a 0 []] σ K:=by
 have h0:=hR.O.one;have h1:=hR.P.one;have h2:=hR.C.one;have s:=g.s;have F:=g.F;have oK:O.length=n:=by rw[hO];simp
 have yM:=ZX q n;have oN:∀x,x∈allE q n↔gS O x:=λx=>by
  rw[hO,zNT];exact⟨zIs (by omega),zFo (by omega)⟩
 have fN:=Z6 s;have jI:(ql O).length=O.length:=by simp[ql]
 refine zA.gh ?_;refine zD mix Tryz.func148 ?_
 conv=>arg 2;cbv
 refine zF rfl ?_;simp only[Z3,seval,-ae,h0,h1,h2];have Cq:Keep σ (σ.new [vO,vP,vC]):=zC σ _;have eT:(σ.new [vO,vP,vC]).obj σ.next=some [vO,vP,vC]:=by simp only[Z3,seval,-ae]
 have gZ:(σ.new [vO,vP,vC]).next=σ.next+1:=rfl;generalize σ.new [vO,vP,vC]=H at *
 have rd:∀{h:PHeap},Keep H h->h.rd σ.next 0 3=some [vO,vP,vC]:=λk=>by rw[ze (by rw[k.obj _ (by omega)];exact eT)];rfl
 have r0:=rd (Keep.refl H);simp only[Z3,seval,-ae,r0];refine zJq hR (by omega) λvG hG=>?_;have wj:∀x,gS O x->(CenA O P C [] x↔∀g∈ql O,isZ (gcom O P C x g)):=λx hx=>⟨λh y hy=>(zIS g (F.g.com_in hx (fN y hy))).1 (h y hy),λh y hy=>(zIS g (F.g.com_in hx (fN y hy))).2 (h y hy)⟩
 generalize ql O=G at *
 obtain⟨wg,ag,rg,rfl,uM⟩:=hG;simp only[Z3,seval,-ae];refine zG (λm us h=>∃(i:Nat) (v:PV) (L:V2) (rows:List PV),i<=q ^ n/\m=q ^ n-i/\us=[.fz w a 0 [],.ptr σ.next 0,.fz wg ag G.length rg,v,.int .i64 i]/\Keep H h/\PSl H.next 1 h v L.length rows/\All2 FI rows L/\L.length<=i/\∀x,x∈L↔x∈(allE q n).take i/\CenA O P C [] x) (q ^ n) ?_ ?_
 .exact⟨0,.sl H.next 0 0 (.known 0),[],[],by omega,by omega,by first|rfl|(rw[gZ];rfl),zC _ _,PSl.new _ 1 rfl (vM _),All2.nil _,vM _,λx=>by simp⟩
 rintro m us h ⟨i,v,L,rows,hi,rfl,rfl,aq,ps,an,Dd,aM⟩
 have r1:=rd aq;simp only[Z3,seval,-ae,r1];refine zIF hR hO hn hq hb ?_;simp only[Z3,seval,-ae];refine iteI (λah=>?_) λaG=>?_;rotate_left
 .have aK:i=q ^ n:=by omega
  subst aK;rw[List.take_of_length_le (by omega)]at aM;have kK:∀x,x∈L↔gS O x/\CenA O P C [] x:=λx=>(aM x).trans (and_congr_left λ_=>oN x);simp only[Z3,seval,-ae,r1];obtain⟨t,cap,rfl,jv,q2,q3,q4,q5⟩:=ps;refine zA.frz q2 (an.bI 0) λo1=>?_;simp only[sbs,Go.Ab.sb,jv.ok,and_self,if_true,hR.O.sb,hR.P.sb,hR.C.sb];refine zEH g hR ⟨true,_,rows,rfl,an⟩ ⟨by omega,λx hx=>by have:=((kK x).1 hx).1.len;omega⟩ (λx hx=>((kK x).1 hx).1) λv' z eg cG=>?_;simp only[Z3,seval,-ae];exact Gh.fin0 (Cq.trans (aq.kill q4)) (eg.bel _) (hk v' z eg ⟨L,kK,cG⟩)
 have aE:i<q ^ n:=by omega
 have jG:i<(allE q n).length:=by omega
 have mN:=(oN _).1 (List.getElem_mem jG);have jd:(allE q n).take (i+1)=(allE q n).take i++[(allE q n)[i]]:=List.take_succ_eq_append_getElem jG;have sU:=zCm jG;simp only[Z3,seval,-ae,r1];refine zNJ hR hO hn hq (by omega) λvx aX=>?_;rw[<-sU]at aX;generalize (allE q n)[i]=x at *
 have mQ:=aX;obtain⟨wx,ax,rfl⟩:=aX;have wi:IntKind.i64.wrap ((i:Int)+1)=((i+1:Nat):Int):=wrapS aE (by omega:q ^ n<=4611686018427387904);simp only[Z3,seval,-ae];refine zG (λm us h2=>∃(k:Nat) (b:Bool),k<=G.length/\m=G.length-k/\us=[.fz w a 0 [],.ptr σ.next 0,.fz wg ag G.length rg,v,.int .i64 i,.fz wx ax x.length (pis x),.bool b,.int .i64 k]/\h=h2/\(b=true↔∀g∈G.take k,isZ (gcom O P C x g))) G.length ⟨0,true,by omega,by omega,rfl,rfl,by simp⟩ ?_
 rintro m us h2 ⟨k,b,fe,rfl,rfl,rfl,aj⟩
 have skip:¬CenA O P C [] x->∃n',n'<q ^ n-i/\∃(i':Nat) (v':PV) (L:V2) (rows:List PV),i'<=q ^ n/\n'=q ^ n-i'/\[PV.fz w a 0 [],.ptr σ.next 0,.fz wg ag G.length rg,v,.int .i64 ((i+1:Nat):Int)]=[.fz w a 0 [],.ptr σ.next 0,.fz wg ag G.length rg,v',.int .i64 i']/\Keep H h/\PSl H.next 1 h v' L.length rows/\All2 FI rows L/\L.length<=i'/\∀x,x∈L↔x∈(allE q n).take i'/\CenA O P C [] x:=λqk=>
  ⟨_,by omega,i+1,v,L,rows,by omega,rfl,rfl,aq,ps,an,by omega,λy=>by
   rw[jd,List.mem_append,List.mem_singleton,aM];exact⟨λh=>⟨.inl h.1,h.2⟩,λh=>⟨h.1.resolve_right (λe=>qk (by rw[<-e];exact h.2)),h.2⟩⟩⟩
 cases b with
 |false=>
  simp only[Z3,seval,-ae,wi];exact skip λh=>by
   have:=aj.2 λy hy=>(wj x mN).1 h y (List.mem_of_mem_take hy)
   cases this
 |true=>
 simp only[Z3,seval,-ae];by_cases di:k<G.length;rotate_left
 .have dJ:k=G.length:=by omega
  subst dJ;rw[List.take_length]at aj;have hc:=(wj x mN).2 (aj.1 rfl);simp only[Z3,seval,-ae,di,decide_false,Nat.lt_irrefl];refine PSl.push (bytes:=24) (σb:=H) aq ps (by omega) (by omega) λv' h3 k3 a3=>?_;simp only[Z3,seval,-ae,wi];refine⟨_,by omega,i+1,v',L++[x],_,by omega,rfl,rfl,k3,by rw[List.length_append];exact a3,an.snoc mQ,by rw[List.length_append];exact Nat.succ_le_succ Dd,λy=>?_⟩;rw[jd,List.mem_append,List.mem_append,List.mem_singleton,aM];refine⟨λh=>?_,λh=>?_⟩
  .rcases h with h|h
   .exact⟨.inl h.1,h.2⟩
   .exact⟨.inr h,by rw[h];exact hc⟩
  .rcases h.1 with e|e
   .exact .inl ⟨e,h.2⟩
   .exact .inr e
 obtain⟨w4,a4,hr⟩:=uM.rowI di;have gX:=fN _ (List.getElem_mem di);simp only[Z3,seval,-ae,di,decide_true,hr,r1];refine zFc s g.co hR mN gX mQ ⟨w4,a4,rfl⟩ λvc Ie=>?_;simp only[Z3,seval,-ae,r1];refine zLe hR (F.g.com_in mN gX) Ie (by omega) ?_;simp only[Z3,seval,-ae,r1,wrapS di (by omega:G.length<=4611686018427387904)];refine⟨_,by omega,k+1,decide (isZ (gcom O P C x G[k])),by omega,rfl,rfl,?_⟩;rw[decide_eq_true_iff,List.take_succ_eq_append_getElem di];constructor
 .intro h y hy;rcases List.mem_append.1 hy with e|e
  .exact aj.1 rfl y e
  .rw[List.mem_singleton.1 e];exact h
 .intro h;exact h _ (List.mem_append_right _ (List.mem_singleton.2 rfl))
theorem zPI(g:LG O P C)(hR:IsPr vO vP vC O P C)(sz:SzP O P C)(hO:O=rO (q:Int) n)(hn:n<=6)(hq:2<=q/\q<=7)(hb:q ^ n<=729)
  (hk:∀v z,FII v z->EleG O P C (CenA O P C []) z->K (.tup [v,.int .i64 0]) σ):zA Tryz.prog 54 [.agg [vO,vP,vC]] σ K:=by
 have h0:=hR.O.one;have h1:=hR.P.one;have h2:=hR.C.one;refine zA.gh ?_;refine zD mix Tryz.func54 ?_
 conv=>arg 2;cbv
 refine zF rfl ?_;simp only[Z3,seval,-ae,h0,h1,h2];have aq:Keep σ (σ.new [vO,vP,vC]):=zC σ _;have bJ:(σ.new [vO,vP,vC]).rd σ.next 0 3=some [vO,vP,vC]:=by simp only[Z3,seval,-ae]
 generalize σ.new [vO,vP,vC]=H at *
 simp only[Z3,seval,-ae,bJ];refine zJt hR sz λt ht=>?_;obtain rfl:t=true:=ht.2 ⟨g.pr,g.co⟩;clear ht;simp only[Z3,seval,-ae,bJ];refine zID g hR hO hn hq hb λv z hz he=>?_;simp only[Z3,seval,-ae];exact Gh.fin0 aq ⟨hz.bel _,trivial,trivial⟩ (hk v z hz he)
end Go.Proofs
