/- . -/
import Derived.Test.YtjcghjopopohiaaGreatDoorQP6
set_option linter.all false
set_option linter.defProp false
open Go.IntKind renaming wrap->Tu
open List renaming length->Tw
open Go.Proofs.Tryz renaming prog->Tp
open Bool renaming false_eq_true->JM,true->Im
open Int renaming mul_le_mul->Oq,tdiv_nonneg->Tg,tmod_lt_of_pos->Sn,tmod_nonneg->Th,toNat_one->OZ,toNat_zero->OD
open List renaming all_eq_true->Mi,drop->Kf,getElem?_cons_succ->IU,getElem?_replicate->RR,length_nil->Ov,mem_of_mem_drop->Jx,nodup_append->LD,replicate->Jf,replicate_succ'->Oj,replicate_zero->RP,take->O0
open Nat renaming lt_succ_of_lt->Lk,ne_of_lt->Jn
open Option renaming map_some->Kc,some->Ik
open True renaming intro->Is
open Int renaming reduceNatCast'->ae
set_option maxRecDepth 100000
namespace Go.Proofs
open Go.Ab Go.Lie Go.Grp
variable{cs r8 r9:List PV}{b i j k n nC nP r s0:Nat}{h h' hE σ:dj}{c v v8 v9 vC vD vL vO vP vS vU vX vw vx:PV}{K:PV->dj->Prop}{O a bs w x xs y:V1}{L M P u:V2}{C:V3}
def zPX{α:Type}{c:Prop}[Decidable c]{a:α}{K:α->Prop}(m:c)(A:K a):iU (if c then Ik a else none) K:=by rw[Iu m];exact⟨a,rfl,A⟩
def zP{α:Type}{c:Prop}[Decidable c]{a:α}{K:α->Prop}(A:K a)(m:c:=by first|omega|(simp only[cO,YF,Ov];omega)):iU (if c then Ik a else none) K:=zPX m A
def zGj(T:FI v x)(hn:(Tw x)<=6)(U:∀a∈x,0<=a/\a<=7)(S:∀u w,FI u w->(Tw w)<=42->K u σ):zA Tp 100 [v] σ K:=by
 obtain⟨w,a,rfl⟩:=T;refine To Tryz.func100 ?_;refine Tq ?_;refine zF (λm vs h=>∃(i:Nat) (v:PV) (u:V1),i<=Tw x/\m=Tw x-i/\vs=[.fz w a (Tw x) (eh x),v,.int .i64 i]/\Tw u<=7*i/\dq σ h/\ft σ.bY 1 h v (Tw u) (eh u)) (Tw x) ?_ ?_
 .exact⟨0,_,[],YQ _,rfl,rfl,sB _,zB _ _,ft.cb _ 1 rfl (sB _)⟩
 rintro m vs h ⟨i,v,u,hi,rfl,rfl,H,D,A⟩
 have B:=A.one;simp only[Z3,seval,-ae,B];refine Tr (λJ=>?_) λE=>?_
 .refine A.fin D (zO _ _) λo cap=>S _ u ⟨Im,_,rfl⟩ aH
 have I:(i:Int)<(Tw x:Int):=aH
 have N:(eh x)[i]? = Ik (.int .i64 x[i]):=by rw[zJ,gi E];rfl
 have xb:=U _ (ss E);refine zF (λm vs h=>∃(j:Nat) (v:PV) (u:V1),j<=7/\m=7-j/\vs=[.fz w a (Tw x) (eh x),v,.int .i64 i,.int .i64 j]/\Tw u<=7*i+j/\dq σ h/\ft σ.bY 1 h v (Tw u) (eh u)) 7 ?_ ?_
 .exact⟨0,v,u,YQ _,rfl,rfl,aH,D,A⟩
 clear A D B H
 rintro m vs h ⟨j,v,u,hj,rfl,rfl,H,D,A⟩
 have B:=A.one;simp only[Z3,seval,-ae,B,E,I,N];refine Tr (λJ=>?_) λjO=>?_
 .simp only[Z3,seval,-ae,B,WX E];exact⟨_,aH,i+1,v,u,aH,rfl,rfl,aH,D,A⟩
 have X:Tu .i64 ((i:Int)+1)=(i:Int)+1:=WE;have Y:Tu .i64 ((j:Int)+1)=((j+1:Nat):Int):=WQ
 simp only[Z3,seval,-ae,B,X];refine ft.push (σb:=σ) (bytes:=8) D A aH aH λW Z V G=>?_;have R:=G.one;simp only[Z3,seval,-ae,R,Y];have e:eh (u++[(i:Int)+1])=eh u++[.int .i64 ((i:Int)+1)]:=by simp[eh]
 exact⟨_,aH,j+1,W,u++[(i:Int)+1],aH,rfl,rfl,by rw[cO,Yk];omega,V,by rw[e,cO];exact G⟩
def zNt(hR:eQ vO vP vC O P C)(hp:zI O P C)(hk:∀q:List UInt8,K (.str q) σ):zA Tp 49 [.agg [vO,vP,vC]] σ K:=by
 have Z:=hp.shp;have bB:=Z.le;have o1:=hR.O.one;have p1:=hR.P.one;have c1:=hR.C.one;obtain⟨⟨wO,aO,rfl⟩,⟨wP,aP,rP,rfl,B8⟩,⟨wC,aC,rC,rfl,pM⟩⟩:=hR;have nT:=Z.pl;have dD:=Z.cl;refine zA.gh ?_;refine zt mix Tryz.func49 cf49 rfl ?_;dsimp only[if49,qI,eI,qD,eD,rH,kI0,lI0,fI0,xI0,bI0,BY,nI0,sI0,C1,ta,uY,E2,xD0,I0,R0,S0];simp only[Z3,seval,-ae,o1,p1,c1];generalize hH:σ.cb [PV.fz wO aO (Tw O) (eh O),PV.fz wP aP (Tw P) rP,PV.fz wC aC (Tw C) rC]=H;have kH:dq σ H:=by rw[<-hH];exact zB _ _
 have r0:H.gv σ.bY 0=Ik (.fz wO aO (Tw O) (eh O)):=by rw[<-hH];simp only[Z3,seval,-ae]
 have r1:H.gv σ.bY 1=Ik (.fz wP aP (Tw P) rP):=by rw[<-hH];simp only[Z3,seval,-ae]
 have r2:H.gv σ.bY 2=Ik (.fz wC aC (Tw C) rC):=by rw[<-hH];simp only[Z3,seval,-ae]
 clear hH;have fin:∀{q:List UInt8},Gh σ K (.str q) H:=Gh.fin0 kH trivial (hk _);have hO:∀i (I:i<Tw O),2<=O[i]/\O[i]<=7:=λi I=>by have:=Z.pr i I;rw[gj I]at this;exact this
 have ent:∀{k:Nat} {y:V1},TT O k y->∀a∈y,0<=a/\a<=7:=λ{k y} h a ha=>by
  obtain⟨j,hj,rfl⟩:=YE.1 ha;have b:=h.bd j (by have:=h.len;omega);grind
 have PR:∀i (I:i<Tw P),P[i].length=Tw O/\∀a∈P[i],0<=a/\a<=7:=λi I=>by
  have h:=Z.pw i aH;have e:jt P i=P[i]:=by grind
  rw[e]at h;exact⟨h.len,ent h⟩
 have CL:∀i (I:i<Tw C),C[i].length=Tw O-1-i:=λi I=>by
  have h:=Z.row i aH;grind
 have CR:∀i (I:i<Tw C) k (hk:k<C[i].length),C[i][k].length=Tw O/\∀a∈C[i][k],0<=a/\a<=7:=λi I k cB=>by
  have hl:=CL i I;have h:=Z.cj i (i+1+k) aH aH;have e:iD C i (i+1+k)=C[i][k]:=by
   grind
  rw[e]at h;exact⟨h.len,ent h⟩
 have dec:∀{g:dj} {K':PV->dj->Prop} {a:Int},2<=a/\a<=7->(∀d:List UInt8,(Tw d)<=6->K' (.str d) g)->zA Tp 48 [.int .i64 a] g K':=λ{g K' a} ha cB=>
  zIb 5 ⟨aH,aH,Int.lt_of_lt_of_le (show a<1000000 by omega) Tx⟩ Tx cB
 refine fi (λ_=>fin) λgQ=>?_;refine zF (λm vs h=>∃(i:Nat) (q:List UInt8),i<=Tw O/\m=Tw O-i/\vs=[.ptr σ.bY 0,.int .i64 (Tw O),.str q,.int .i64 i]/\Tw q<=9*i/\h=H) (Tw O) ?_ ?_
 .exact⟨0,[],YQ _,rfl,rfl,sB _,rfl⟩
 rintro m vs h ⟨i,q,I,rfl,rfl,hq,rfl⟩
 refine Tq ?_;refine fi (λB=>?_) λan=>?_
 .have J:(i:Int)<(Tw O:Int):=aH
  have U:(eh O)[i]? = Ik (.int .i64 O[i]):=by rw[zJ,gi B];rfl
  have ob:=hO i B;refine fi (λhp=>zP ?_) λhp=>?_
  all_goals
   simp only[Z3,seval,-ae,r0,B,J,U];refine dec ob λd hd=>?_;refine Tq ?_;refine zP ?_;simp only[Z3,seval,-ae,WX B];exact⟨_,aH,i+1,_,aH,rfl,rfl,by grind⟩
 refine zF (λm vs h'=>∃(i:Nat) (q:List UInt8),i<=Tw O/\m=Tw O-i/\vs=[.ptr σ.bY 0,.int .i64 (Tw O),.str q,.int .i64 i]/\Tw q<=60+60*i/\h'=h) (Tw O) ?_ ?_
 .exact⟨0,q,YQ _,rfl,rfl,aH,rfl⟩
 clear hq an I
 rintro m vs h ⟨i,q,I,rfl,rfl,hq,rfl⟩
 refine Tq ?_;refine fi (λB=>?_) λan=>?_
 .have cJ:i<Tw P:=aH
  have W:(i:Int)<(Tw P:Int):=aH
  have J:(i:Int)<(Tw O:Int):=aH
  have U:(eh O)[i]? = Ik (.int .i64 O[i]):=by rw[zJ,gi B];rfl
  have ob:=hO i B;obtain⟨w4,a4,A⟩:=B8.rowI cJ;obtain⟨pl,pe⟩:=PR i cJ;have X:=WX B;simp only[Z3,seval,-ae,r0,r1,cJ,W,A];refine zAc rfl aH ?_;refine Tq ?_;by_cases E:isZ P[i]
  .simp only[Z3,seval,-ae,E,X];exact⟨_,aH,i+1,_,aH,rfl,rfl,aH⟩
  simp only[Z3,seval,-ae,E,r0,r1,cJ,W,A,B,J,U];refine zP ?_;simp only[Z3,seval,-ae,E,r0,r1,cJ,W,A,B,J,U];refine zBY aH λd1 HJ=>?_;simp only[Z3,seval,-ae,r0,r1,cJ,W,A,B,J,U];refine zP ?_;simp only[Z3,seval,-ae,r0,r1,cJ,W,A,B,J,U,X];refine zP ?_;simp only[Z3,seval,-ae,r0,r1,cJ,W,A,B,J,U,X];refine dec ob λd2 AZ=>?_;simp only[Z3,seval,-ae,r0,r1,cJ,W,A,B,J,U,X];refine zP ?_;simp only[Z3,seval,-ae,r0,r1,cJ,W,A,B,J,U,X];refine zP ?_;simp only[Z3,seval,-ae,r0,r1,cJ,W,A,B,J,U,X];refine zGj ⟨w4,a4,rfl⟩ aH pe λu wd hu x9=>?_;obtain⟨w5,a5,rfl⟩:=hu;simp only[Z3,seval,-ae,r0,r1,cJ,W,A,B,J,U,X];refine zGn aH λd3 CO=>?_;simp only[Z3,seval,-ae,r0,r1,cJ,W,A,B,J,U,X];refine zP ?_;simp only[Z3,seval,-ae,r0,r1,cJ,W,A,B,J,U,X];exact⟨_,aH,i+1,_,aH,rfl,rfl,by simp only[cO,YF,Ov];omega⟩
 refine zF (λm vs h'=>∃(i:Nat) (q:List UInt8),i<=Tw O/\m=Tw O-i/\vs=[.ptr σ.bY 0,.int .i64 (Tw O),.str q,.int .i64 i]/\Tw q<=420+420*i/\h'=h) (Tw O) ?_ ?_
 .exact⟨0,q,YQ _,rfl,rfl,aH,rfl⟩
 clear hq an I
 rintro m vs h ⟨i,q,I,rfl,rfl,hq,rfl⟩
 refine Tq ?_;refine Tr (λan=>?_) λB=>?_
 .exact fin
 have J:(i:Int)<(Tw O:Int):=aH
 have D:i<Tw C:=aH
 have N:(i:Int)<(Tw C:Int):=aH
 have X:=WX B;obtain⟨w4,a4,tF,A,gI⟩:=pM.rowL D;have cl:=CL i D;simp only[Z3,seval,-ae,X];refine zF (λm vs h'=>∃(j:Nat) (q:List UInt8),i+1<=j/\j<=Tw O/\m=Tw O-j/\vs=[.ptr σ.bY 0,.int .i64 (Tw O),.str q,.int .i64 i,.int .i64 j]/\Tw q<=420+420*i+60*j/\h'=h) (Tw O-(i+1)) ?_ ?_
 .exact⟨i+1,q,sB _,aH,rfl,rfl,aH,rfl⟩
 clear hq
 rintro m vs h ⟨j,q,tu,hj,rfl,rfl,hq,rfl⟩
 refine Tq ?_;refine Tr (λan=>?_) λjO=>?_
 .simp only[Z3,seval,-ae,X];exact⟨_,aH,i+1,q,aH,rfl,rfl,aH⟩
 have G:j-i-1<C[i].length:=aH
 have R:((j-i-1:Nat):Int)<(C[i].length:Int):=aH
 have Y:=WX jO;have V:Tu .i64 ((j:Int)-(i:Int))=(j:Int)-(i:Int):=WE;have S:Tu .i64 ((j:Int)-(i:Int)-1)=((j-i-1:Nat):Int):=WQ
 obtain⟨w6,a6,T⟩:=gI.rowI G;obtain⟨pl,pe⟩:=CR i D _ G;simp only[Z3,seval,-ae,r2,D,N,A,V,S,G,R,T];refine Qq aH jO λwu hu=>?_;obtain⟨w7,a7,rfl⟩:=hu;simp only[Z3,seval,-ae,r2,D,N,A,V,S,G,R,T];refine qi rfl rfl aH ?_;by_cases E:C[i][j-i-1]=iS (Tw O) j
 .simp only[Z3,seval,-ae,E,Y];exact⟨_,aH,j+1,q,aH,aH,rfl,rfl,aH⟩
 simp only[Z3,seval,-ae,E,r2,D,N,A,V,S,G,R,T,Y];refine zP ?_;simp only[Z3,seval,-ae,E,r2,D,N,A,V,S,G,R,T,Y];refine zBY aH λd1 HJ=>?_;simp only[Z3,seval,-ae,E,r2,D,N,A,V,S,G,R,T,Y];refine zP ?_;simp only[Z3,seval,-ae,E,r2,D,N,A,V,S,G,R,T,Y];refine zP ?_;simp only[Z3,seval,-ae,E,r2,D,N,A,V,S,G,R,T,Y];refine zBY aH λd2 AZ=>?_;simp only[Z3,seval,-ae,E,r2,D,N,A,V,S,G,R,T,Y];refine zP ?_;simp only[Z3,seval,-ae,E,r2,D,N,A,V,S,G,R,T,Y];refine zP ?_;simp only[Z3,seval,-ae,E,r2,D,N,A,V,S,G,R,T,Y];refine zGj ⟨w6,a6,rfl⟩ aH pe λu wd hu x9=>?_;obtain⟨w5,a5,rfl⟩:=hu;simp only[Z3,seval,-ae,E,r2,D,N,A,V,S,G,R,T,Y];refine zGn aH λd3 CO=>?_;simp only[Z3,seval,-ae,E,r2,D,N,A,V,S,G,R,T,Y];refine zP ?_;simp only[Z3,seval,-ae,E,r2,D,N,A,V,S,G,R,T,Y];exact⟨_,aH,j+1,_,aH,aH,rfl,rfl,by simp only[cO,YF,Ov];omega⟩
section
variable{s t:List UInt8}
def zIX{cap:nK}(J:σ.cd s0=Ik (eh O))(W:(Tw O)<=6)(N:∀a∈O,pR a)(I:∀r:Int,K (.int .i64 r) σ):zA Tp 56 [.sl s0 0 (Tw O) cap] σ K:=by
 refine Tn Tryz.func56 ?_;refine Tq ?_;refine zF (λm vs h=>∃(i:Nat) (y:Int),i<=Tw O/\m=Tw O-i/\vs=[.sl s0 0 (Tw O) cap,.int .i64 y,.int .i64 i]/\1<=y/\y<=729000/\h=σ) (Tw O) ?_ ?_
 .exact⟨0,1,YQ _,rfl,rfl,Tx,Tx,rfl⟩
 rintro m vs h ⟨i,y,X,rfl,rfl,G,U,rfl⟩
 refine Tq ?_;refine Tr (λV=>?_) λA=>?_
 .exact I y
 have H:(i:Int)<(Tw O:Int):=aH
 have D:=(N _ (ss A)).b1;have rd:h.gv s0 i=Ik (.int .i64 O[i]):=by rw[zH J,zJ,gi A];rfl
 have E:=WX A;refine Tr (λB=>?_) λB=>?_
 .simp only[Z3,seval,-ae,E];exact⟨_,aH,i+1,y,aH,rfl,rfl,G,U⟩
 have R:1<=y*O[i]:=by have:=Oq G D.1 Tx aH;omega
 have S:y*O[i]<=729000:=by have:=Oq B D.2 aH (by decide:(0:Int)<=729);omega
 have T:Tu .i64 (y*O[i])=y*O[i]:=WE;simp only[Z3,seval,-ae,A,H,rd,E,T];exact⟨_,aH,i+1,_,aH,rfl,rfl,R,S⟩
def ft.fin_tf{t:Bool}(A:dq σ h)(B:ft σ.bY 1 h v (Tw x) (eh x))(m:∀u,FI u x->K (.tup [u,.bool t]) σ):Gh σ K (.tup [v,.bool t]) h:=by
 obtain⟨s,cap,rfl,D,E,I,G,H⟩:=B;have e:(TR.tup [TR.row s cap x,.leaf (.bool t)]).pv=.tup [.sl s 0 (Tw x) cap,.bool t]:=by simp only[TR.pv,TR.pvs,TR.row_pv]
 rw[<-e];refine Gh.treeF A (ql ⟨TR.row_ok D E G H,Is,Is⟩) λa=>?_
 have:=m ((TR.row s cap x).fz a) TR.row_FI
 simpa only[TR.fz,TR.fzs]using this
def zID(A:dq σ h)(m:∀u,FI u []->K (.tup [u,.bool false]) σ):Gh σ K (.tup [Tt,.bool false]) h:=by
 have e:(TR.tup [TR.nil,.leaf (.bool false)]).pv=.tup [Tt,.bool false]:=by simp only[TR.pv,TR.pvs]
 rw[<-e];refine Gh.treeF A ⟨Is,Is,Is⟩ λa=>?_
 have:=m (Tt) ⟨Im,.cU,rfl⟩
 simpa only[TR.fz,TR.fzs]using this
def zJ7(hs:(Tw s)<=500)(H:∀v O t,FI v O->(Tw O)<=6->(∀a∈O,pR a)->K (.tup [v,.bool t]) σ):zA Tp 131 [.str s] σ K:=by
 have nil:∀{h:dj},dq σ h->Gh σ K (.tup [Tt,.bool false]) h:=λ{h} B=>zID B λu D=>H u [] false D Tx λa A=>by cases A
 refine To Tryz.func131 ?_;refine Tq ?_;refine fi (λE=>?_) λE=>?_
 .refine Tq ?_;exact ft.fin_tf (x:=[]) (zB _ _) (ft.cb _ 1 rfl (sB _)) λu D=>H u [] Im D Tx λa A=>by cases A
 refine Tq ?_;refine zBa (s:=s) aH λa n cells dW mw dD W=>?_;refine Tq ?_;refine zF (λm vs h=>∃(i:Nat) (v:PV) (O:V1),i<=n/\m=n-i/\vs=[v,.fz Im a n cells,.int .i64 i]/\Tw O=i/\i<=6/\(∀a∈O,pR a)/\dq σ h/\ft σ.bY 1 h v (Tw O) (eh O)) n ?_ ?_
 .exact⟨0,_,[],YQ _,rfl,rfl,rfl,YQ _,λa A=>(by cases A),zB _ _,ft.cb _ 1 rfl (sB _)⟩
 rintro m vs h ⟨i,v,O,hi,rfl,rfl,uw,N2,T,B,G⟩
 have E:=G.one;simp only[Z3,seval,-ae,E];refine Tr (λan=>?_) λR=>?_
 .have uN:=G;obtain⟨sO,cap,rfl,q1,Z,q3,q4,q5⟩:=uN;refine zIX Z aH T λr=>?_;refine Tq ?_;exact ft.fin_tf B G λu D=>H u O _ D aH T
 have V:(i:Int)<(n:Int):=aH
 obtain⟨q,U,hq⟩:=W _ (ss (aH:i<Tw cells));have gc:cells[i]? = Ik (.str q):=by rw[na aH,U]
 simp only[Z3,seval,-ae,R,V,gc];refine zMF aH λy hy=>?_;have wi:=WX R;refine Tq ?_;refine Q7 ?_;by_cases I:pR y;rotate_left
 .simp only[Z3,seval,-ae,I];exact nil B
 by_cases S:6<=i
 .have J:(6:Int)<=(i:Int):=aH
  simp only[Z3,seval,-ae,I,S,J];exact nil B
 have J:¬(6:Int)<=(i:Int):=aH
 simp only[Z3,seval,-ae,I,S,J,E];refine ft.push (σb:=σ) (bytes:=8) B G aH aH λv2 h2 Y N=>?_;have X:=N.one;simp only[Z3,seval,-ae,X,wi];have e:eh (O++[y])=eh O++[.int .i64 y]:=by simp[eh]
 refine⟨_,aH,i+1,v2,O++[y],aH,rfl,rfl,by rw[cO,uw];rfl,aH,λa A=>?_,Y,by rw[e,cO];exact N⟩;grind
def zMC{n:Nat}(hn:n<=6)(hs:(Tw s)<=500)(J:∀v xs t,FI v xs->(∀x∈xs,-6<=x/\x<=(n:Int)/\x≠0)->(Tw xs)<=Tw s->K (.tup [v,.bool t]) σ):zA Tp 172 [.int .i64 n,.str s] σ K:=by
 have nil:∀{h:dj},dq σ h->Gh σ K (.tup [Tt,.bool false]) h:=λ{h} D=>zID D λu G=>J u [] false G (λa B=>by cases B) (YQ _);refine To Tryz.func172 ?_;refine Tq ?_;refine fi (λA=>?_) λA=>?_
 .refine Tq ?_;exact ft.fin_tf (x:=[]) (zB _ _) (ft.cb _ 1 rfl (sB _)) λu G=>J u [] Im G (λa B=>by cases B) (YQ _)
 refine Tq ?_;refine zF (λm vs h=>∃(i:Nat) (v:PV) (xs:V1),i<=Tw s/\m=Tw s-i/\vs=[.int .i64 n,.str s,v,.int .i64 i]/\Tw xs=i/\(∀x∈xs,-6<=x/\x<=(n:Int)/\x≠0)/\dq σ h/\ft σ.bY 1 h v (Tw xs) (eh xs)) (Tw s) ?_ ?_
 .exact⟨0,_,[],YQ _,rfl,rfl,rfl,λa B=>(by cases B),zB _ _,ft.cb _ 1 rfl (sB _)⟩
 rintro m vs h ⟨i,v,xs,hi,rfl,rfl,V,Y,D,H⟩
 have A:=H.one;simp only[Z3,seval,-ae,A];refine Tr (λan=>?_) λS=>?_
 .have hl:nN v=Ik (.int .i64 (Tw xs)):=by obtain⟨s',cap,rfl,_⟩:=H;rfl
  simp only[Z3,seval,-ae,A,hl];exact ft.fin_tf D H λu G=>J u xs _ G Y aH
 have gs:s[i]? = Ik s[i]:=na S;have c0:(s[i].toNat:Int)<256:=by have:=s[i].toNat_lt;omega
 have c1:(0:Int)<=(s[i].toNat:Int):=aH
 have W:=WX S;have Z:Tu .i64 (s[i].toNat:Int)=(s[i].toNat:Int):=WE;have q1:Tu .i64 ((s[i].toNat:Int)-97)=(s[i].toNat:Int)-97:=WE;have q2:Tu .i64 ((s[i].toNat:Int)-97+1)=(s[i].toNat:Int)-97+1:=WE;have q3:Tu .i64 ((s[i].toNat:Int)-65)=(s[i].toNat:Int)-65:=WE;have q4:Tu .i64 ((s[i].toNat:Int)-65+1)=(s[i].toNat:Int)-65+1:=WE;have q5:Tu .i64 (0-((s[i].toNat:Int)-65+1))=-((s[i].toNat:Int)-65+1):=WQ
 simp only[Z3,seval,-ae,gs,Z,q1,q2,q3,q4,A];refine QZ ?_;have put:∀{y:Int},(-6<=y/\y<=(n:Int)/\y≠0)->∀a∈xs++[y],-6<=a/\a<=(n:Int)/\a≠0:=λ{y} hy a B=>by
  grind
 have e:∀y:Int,eh (xs++[y])=eh xs++[.int .i64 y]:=λy=>by simp[eh]
 have el:∀y:Int,(xs++[y]).length=Tw xs+1:=λy=>by simp
 by_cases T:1<=(s[i].toNat:Int)-97+1/\(s[i].toNat:Int)-97+1<=(n:Int)
 .simp only[Z3,seval,-ae,T,A];refine ft.push (σb:=σ) (bytes:=8) D H aH aH λR X N E=>?_;have I:=E.one;simp only[Z3,seval,-ae,I,W];exact⟨_,aH,i+1,R,xs++[(s[i].toNat:Int)-97+1],aH,rfl,rfl,by rw[el,V],put aH,N,by rw[e,el];exact E⟩
 simp only[Z3,seval,-ae,T,A];refine QZ ?_;by_cases U:1<=(s[i].toNat:Int)-65+1/\(s[i].toNat:Int)-65+1<=(n:Int)
 .simp only[Z3,seval,-ae,U,A,q5];refine ft.push (σb:=σ) (bytes:=8) D H aH aH λR X N E=>?_;have I:=E.one;simp only[Z3,seval,-ae,I,W];exact⟨_,aH,i+1,R,xs++[-((s[i].toNat:Int)-65+1)],aH,rfl,rfl,by rw[el,V],put aH,N,by rw[e,el];exact E⟩
 simp only[Z3,seval,-ae,U,A];exact nil D
end
section
variable{L L':Nat->Nat}{Q:Nat->Prop}{len:Nat->Nat}{s t:List UInt8}
def zJ3{n:Nat}(hn:n<=6)(W:FI v x)(X:∀a∈x,-6<=a/\a<=(n:Int)/\a≠0)(hl:(Tw x)<=1000)(S:∀h,dq σ h->K (.tup [Tt,.bool false]) h)(N:∀A,(Tw A)=n->K (.tup [.sl σ.bY 0 n (.cm n),.bool Im]) (σ.cb (eh A))):zA Tp 173 [.int .i64 n,v] σ K:=by
 obtain⟨w,a,rfl⟩:=W;refine Tn Tryz.func173 ?_;simp only[Z3,seval,-ae,zi,E4 (n:=n) aH,Go.Ab.zx (n:=n) aH];refine zF (λm vs h=>∃(i:Nat) (A:V1),i<=Tw x/\m=Tw x-i/\vs=[.fz w a (Tw x) (eh x),.sl σ.bY 0 n (.cm n),.int .i64 i]/\Tw A=n/\(∀y∈A,0<=y/\y<=(i:Int))/\h=σ.cb (eh A)) (Tw x) ?_ ?_
 .exact⟨0,Jf n 0,YQ _,rfl,rfl,bj,λy I=>by simp_all,rfl⟩
 rintro m vs h ⟨i,A,hi,rfl,rfl,J,I,rfl⟩
 refine Tq ?_;refine Tr (λan=>?_) λB=>?_
 .exact N A J
 have H:(i:Int)<(Tw x:Int):=aH
 have D:(eh x)[i]? = Ik (.int .i64 x[i]):=by rw[zJ,gi B];rfl
 have xb:=X _ (ss B);have Y:=WX B;simp only[Z3,seval,-ae,B,H,D];refine fi (λdS=>?_) λaM=>?_
 .exact S _ (zB _ _)
 obtain⟨j,hj⟩:∃j:Nat,x[i]=(j:Int)+1:=⟨(x[i] - 1).toNat,aH⟩
 have U:j<n:=aH
 have R:(j:Int)<(n:Int):=aH
 have E:j<Tw A:=aH
 rw[hj]at D;have w1:Tu .i64 ((j:Int)+1-1)=(j:Int):=WQ
 have yb:=I _ (ss E);have w2:Tu .i64 (A[j] + 1)=A[j] + 1:=WE;have V:(eh A)[j]? = Ik (.int .i64 A[j]):=by rw[zJ,gi E];rfl
 have wr:(σ.cb (eh A)).wr σ.bY j [.int .i64 (A[j] + 1)]=Ik ((σ.cb (eh A)).set σ.bY (eh (A.set j (A[j] + 1)))):=zAm (by rw[zC,Iu rfl]) E;have T:(σ.cb (eh A)).set σ.bY (eh (A.set j (A[j] + 1)))=σ.cb (eh (A.set j (A[j] + 1))):=by
  unfold dj.set dj.cb;simp_all
 have rd:(σ.cb (eh A)).gv σ.bY j=Ik (.int .i64 A[j]):=by rw[zH (by rw[zC,Iu rfl])];exact V
 rw[T]at wr;generalize hG:σ.cb (eh A)=G at *
 simp only[Z3,seval,-ae,B,H,D,hj,w1,U,R,rd,w2,wr,Y];refine⟨_,aH,i+1,A.set j (A[j] + 1),aH,rfl,rfl,by rw[Yx];exact J,λy Z=>?_,rfl⟩;grind
def PW.fin2b{e:Bool}(a:PW L b h Q O nP nC len vO vP vC)(Z:dq σ h)(Y:σ.bY<=b)(k:∀H I G P C,eQ H I G O P C->GP Q P C nP nC len->K (.tup [.agg [H,I,G],.bool e]) σ):Gh σ K (.tup [.agg [vO,vP,vC],.bool e]) h:=by
 obtain⟨A,J,rfl,N⟩:=a.hO.tree;obtain⟨B,P,⟨b1,rfl,E⟩,R⟩:=a.hP.tree;obtain⟨D,C,⟨S,rfl,T⟩,U,V,W⟩:=a.hC.tree;have X:(TR.tup [TR.agg [A,B,D],.leaf (.bool e)]).pv=.tup [.agg [A.pv,B.pv,D.pv],.bool e]:=by simp only[TR.pv,TR.pvs]
 rw[<-X];refine Gh.treeF Z (QL (b:=b) Y ⟨⟨ql J,ql b1,ql S,Is⟩,Is,Is⟩) λm=>?_
 have:=k (A.fz m) (B.fz m) (D.fz m) P C ⟨N m,(E m).1,T m⟩ ⟨R,U,(E m).2,V,W⟩
 simpa only[TR.fz,TR.fzs]using this
set_option maxHeartbeats 1600000 in
def zHE(Z:eQ vO vP vC O P C)(hO:(Tw O)<=6)(hp:∀a∈O,pR a)(U:GP (λm=>m=Tw O) P C (Tw O) (Tw O) (λi=>(Tw O)-1-i))(hs:(Tw s)<=500)
  (hk:∀D wP wC P' C' t,eQ D wP wC O P' C'->GP (λm=>m=Tw O) P' C' (Tw O) (Tw O) (λi=>(Tw O)-1-i)->K (.tup [.agg [D,wP,wC],.bool t]) σ):zA Tp 132 [.agg [vO,vP,vC],.str s] σ K:=by
 have E:=Z.O.one;have G:=Z.P.one;have B:=Z.C.one;have bp:=Z;have bad:∀{h:dj},dq σ h->Gh σ K (.tup [.agg [vO,vP,vC],.bool false]) h:=λ{h} kk=>Gh.fin0 kk ⟨⟨Z.O.bel _,Z.P.bel _,Z.C.bel _,Is⟩,Is,Is⟩ (hk _ _ _ P C false Z U);obtain⟨⟨D,R,rfl⟩,jU,jV⟩:=Z;refine To Tryz.func132 ?_;simp only[Z3,seval,-ae,E,G,B];generalize hH:(σ.cb [PV.fz D R (Tw O) (eh O),vP,vC]).cb [Tt,Tt,Tt]=H;have eG:H.bY=σ.bY+2:=by rw[<-hH];rfl
 have kH:dq σ H:=by rw[<-hH];exact(zB _ _).cb _
 have uR:H.cd σ.bY=Ik [PV.fz D R (Tw O) (eh O),vP,vC]:=by rw[<-hH];simp only[Z3,seval,-ae]
 have xF:H.cd (σ.bY+1)=Ik [Tt,Tt,Tt]:=by rw[<-hH];simp only[Z3,seval,-ae]
 clear hH;have fin0:∀{g:dj},dq H g->g.rd σ.bY 0 3=Ik [PV.fz D R (Tw O) (eh O),vP,vC]/\g.wr (σ.bY+1) 0 [PV.fz D R (Tw O) (eh O),vP,vC]=Ik (g.set (σ.bY+1) [PV.fz D R (Tw O) (eh O),vP,vC])/\(g.set (σ.bY+1) [PV.fz D R (Tw O) (eh O),vP,vC]).rd (σ.bY+1) 0 3=Ik [PV.fz D R (Tw O) (eh O),vP,vC]/\Gh σ K (.tup [.agg [PV.fz D R (Tw O) (eh O),vP,vC],.bool false]) (g.set (σ.bY+1) [PV.fz D R (Tw O) (eh O),vP,vC]):=λ{g} S=>by
  refine⟨by rw[zN (by rw[S.cd _ aH];exact uR)];rfl,by rw[zL (by rw[S.cd _ aH];exact xF),Iu ⟨bj,by simp[E,G,B]⟩];rfl,by rw[zZ,Iu rfl];rfl,bad ((kH.trans S).set aH _)⟩
 obtain⟨e1,e2,e3,e4⟩:=fin0 (dq.refl H);refine zBa (s:=s) aH λa n cells dW mw dD dF=>?_;by_cases h2:n=2;rotate_left
 .have d2:¬((n:Nat):Int)=2:=aH
  simp only[Z3,seval,-ae,d2,E,G,B,e1,e2,e3];exact e4
 subst h2;obtain⟨A,sZ,Ch⟩:=dF _ (ss (aH:0<Tw cells));obtain⟨p1,ka,Cg⟩:=dF _ (ss (aH:1<Tw cells));have T:cells[0]? = Ik (.str A):=by rw[na aH,sZ]
 have c1:cells[1]? = Ik (.str p1):=by rw[na aH,ka]
 have d2:((2:Nat):Int)=2:=rfl;have Y:(0:Int)<((2:Nat):Int):=by decide
 have z12:(1:Int)<((2:Nat):Int):=by decide
 by_cases h4:(Tw A)=4;rotate_left
 .have d4:¬((Tw A:Nat):Int)=4:=aH
  simp only[Z3,seval,-ae,d2,Y,T,d4,E,G,B,e1,e2,e3];exact e4
 have d4:((Tw A:Nat):Int)=4:=aH
 by_cases Ai:A[0].toNat=32;rotate_left
 .have d5:¬((A[0].toNat:Nat):Int)=32:=aH
  simp only[Z3,seval,-ae,d2,Y,T,d4,d5,E,G,B,e1,e2,e3,OD,na (aH:0<Tw A)];exact e4
 have d5:((A[0].toNat:Nat):Int)=32:=aH
 have n2:(2:Int).toNat=2:=rfl;have n1:(1:Int).toNat=1:=rfl;have n3:(3:Int).toNat=3:=rfl;by_cases Dm:A[2].toNat=94;rotate_left
 .have d6:¬((A[2].toNat:Nat):Int)=94:=aH
  simp only[Z3,seval,-ae,d2,Y,T,d4,d5,d6,n2,E,G,B,e1,e2,e3,OD,OZ,na (aH:0<Tw A),na (aH:1<Tw A),na (aH:2<Tw A),na (aH:3<Tw A)];exact e4
 have d6:((A[2].toNat:Nat):Int)=94:=aH
 simp only[Z3,seval,-ae,d2,Y,z12,T,c1,d4,d5,d6,n2,E,G,B,OD,OZ,na (aH:0<Tw A),na (aH:1<Tw A),na (aH:2<Tw A),na (aH:3<Tw A)];refine zMC (n:=(Tw O)) hO (s:=p1) aH λvu u t1 hu tQ iu=>?_;have AH:=hu.one;cases t1
 .simp only[Z3,seval,-ae,E,G,B,e1,e2,e3,AH];exact e4
 have b1:(A[1].toNat:Int)<256:=by have:=A[1].toNat_lt;omega
 have b3:(A[3].toNat:Int)<256:=by have:=A[3].toNat_lt;omega
 have q1:Tu .i64 (A[1].toNat:Int)=(A[1].toNat:Int):=WE;have q3:Tu .i64 (A[3].toNat:Int)=(A[3].toNat:Int):=WE;have ox:Tu .i64 ((A[1].toNat:Int)-97)=(A[1].toNat:Int)-97:=WE;have nM:Tu .i64 ((A[3].toNat:Int)-97)=(A[3].toNat:Int)-97:=WE;simp only[Z3,seval,-ae,AH];refine zJ3 (n:=(Tw O)) hO hu tQ aH (λg S=>?_) λys iq=>?_
 .obtain⟨I,J,N,f4⟩:=fin0 S;simp only[Z3,seval,-ae,Y,T,n1,n3,q1,q3,ox,nM,E,G,B,I,J,N,OD,OZ,na (aH:0<Tw A),na (aH:1<Tw A),na (aH:2<Tw A),na (aH:3<Tw A)];exact f4
 have S:=zB H (eh ys);have Ih:(H.cb (eh ys)).bY=H.bY+1:=rfl;have Fu:(H.cb (eh ys)).cd H.bY=Ik (eh ys):=by rw[zC,Iu rfl]
 have xD:(H.cb (eh ys)).cd σ.bY=Ik [PV.fz D R (Tw O) (eh O),vP,vC]:=by rw[zC,Iv aH];exact uR
 have xE:(H.cb (eh ys)).cd (σ.bY+1)=Ik [Tt,Tt,Tt]:=by rw[zC,Iv aH];exact xF
 generalize H.cb (eh ys)=H1 at *
 obtain⟨I,J,N,f4⟩:=fin0 S;by_cases j0:(A[1].toNat:Int)-97<0
 .simp only[Z3,seval,-ae,Y,T,n1,n3,q1,q3,ox,nM,j0,E,G,B,I,J,N,OD,OZ,na (aH:0<Tw A),na (aH:1<Tw A),na (aH:2<Tw A),na (aH:3<Tw A)];exact f4
 by_cases j1:(Tw O:Int)<=(A[1].toNat:Int)-97
 .simp only[Z3,seval,-ae,Y,T,n1,n3,q1,q3,ox,nM,j0,j1,E,G,B,I,J,N,OD,OZ,na (aH:0<Tw A),na (aH:1<Tw A),na (aH:2<Tw A),na (aH:3<Tw A)];exact f4
 simp only[Z3,seval,-ae,Y,T,n1,n3,q1,q3,ox,nM,j0,j1,E,G,B,I,OD,OZ,na (aH:0<Tw A),na (aH:1<Tw A),na (aH:2<Tw A),na (aH:3<Tw A)];obtain⟨j,hj⟩:∃j:Nat,(A[1].toNat:Int)-97=j:=⟨((A[1].toNat:Int)-97).toNat,aH⟩
 rw[hj]at j0 j1 ⊢;have eW:j<Tw O:=aH
 have dT:(j:Int)<(Tw O:Int):=aH
 refine zEh (Q:=λm=>m=Tw O) bp aH (by rw[U.pl];omega) (by rw[U.cl];omega) (λq cH=>?_) (λr hr=>U.pq r hr) (λq cH r hr=>U.cq q cH r hr) (λm hm=>aH) λL h W X V k1 p1=>?_
 .obtain⟨i,hi,rfl⟩:=YE.1 cH
  have:=U.row i (by rw[<-U.cl];exact hi)
  grind
 have GK:=k1.bY;rw[U.pl,U.cl]at p1;have p2:=(p1.lenE U.row).mark (b':=H.bY) (L':=l6 L H.bY 1) aH λt ht=>by unfold l6;rw[Iv aH]
 have a:=TB.start p2 (r:=σ.bY+1) aH (by rw[k1.cd _ aH];exact xE) aH;have hv:gw (l6 (l6 L H.bY 1) h.bY 7) (h.cb [W,X,V]) H.bY (λm=>m=Tw O) (.sl H.bY 0 (Tw O) (.cm (Tw O))):=by
  refine⟨ys,iq,H.bY,.cm (Tw O),by rw[iq],.inr (by rw[iq]),by rw[zC,Iv aH,k1.cd _ aH];exact Fu,sB _,by show H.bY<h.bY+1;omega,?_⟩;unfold l6;rw[Iv aH,Iu rfl]
 have k2:dq H1 (h.cb [W,X,V]):=k1.cb _;simp only[Z3,seval,-ae,p2.hO.one,p2.hP.one,p2.hC.one];generalize h.bY=sl at *
 generalize h.cb [W,X,V]=g at *
 clear p1 p2 k1;have ob:=hp _ (ss eW);have MN:=ob.b1;have gx:(eh O)[j]? = Ik (.int .i64 O[j]):=by rw[zJ,gi eW];rfl
 have rx:g.gv σ.bY 0=Ik (.fz D R (Tw O) (eh O)):=by rw[zH (by rw[k2.cd _ aH];exact xD)];rfl
 have fin:∀{g:dj} {L':Nat->Nat} {t:Bool},dq H g->TB H.bY g (λm=>m=Tw O) O L' (Tw O) (Tw O) (λi=>(Tw O)-1-i) (σ.bY+1) sl W X V->
   g.wr (σ.bY+1) 0 [W,X,V]=Ik (g.set (σ.bY+1) [W,X,V])/\(g.set (σ.bY+1) [W,X,V]).rd (σ.bY+1) 0 3=Ik [W,X,V]/\Gh σ K (.tup [.agg [W,X,V],.bool t]) (g.set (σ.bY+1) [W,X,V]):=λ{g L' t} FQ a=>by
  obtain⟨e1,e2,e3⟩:=a.fin;exact⟨e1,e2,e3.fin2b ((kH.trans FQ).set aH _) aH λD wP wC P C r1 r2=>hk D wP wC P C t r1 r2⟩
 have l3:(3:Int)<=(Tw A:Int):=aH
 have BM:3<=Tw A:=aH
 have BL:(3:Int)<=((4:Nat):Int):=by decide
 simp only[Z3,seval,-ae,Y,T,n3,rx,eW,dT,gx,l3,BM,h4,BL,OD,OZ,na (aH:0<Tw A),na (aH:1<Tw A),na (aH:2<Tw A),na (aH:3<Tw A)];have t10:(10:Int) ^ (5+1)=1000000:=by decide
 refine zIb (n:=O[j]) 5 ⟨aH,aH,by rw[t10];omega⟩ Tx λd hd=>?_;simp only[Z3,seval,-ae,Y,T,n3,rx,eW,dT,gx,l3,BM,h4,BL,OD,OZ,na (aH:0<Tw A),na (aH:1<Tw A),na (aH:2<Tw A),na (aH:3<Tw A)];generalize (Kf 3 (O0 4 A) == d)=bb;cases bb;rotate_left
 .obtain⟨sP,ck,ds,rfl,w1,w2,w3,a2⟩:=a.putP eW hv;have k3:dq H (g.set sP ds):=(S.trans k2).set w1 _;obtain⟨I,J,N⟩:=fin (t:=Im) k3 a2;have r1:=a.r1;have r3:=a2.r3;generalize g.set sP ds=B at *
  simp only[Z3,seval,-ae,r1,eW,dT,w3,r3,I,J];exact N
 refine Tq ?_;by_cases i0:(A[3].toNat:Int)-97<0
 .obtain⟨I,J,N,f4⟩:=fin0 (S.trans k2);simp only[Z3,seval,-ae,i0,I,J,N,E,G,B];exact f4
 obtain⟨i,hi⟩:∃i:Nat,(A[3].toNat:Int)-97=i:=⟨((A[3].toNat:Int)-97).toNat,aH⟩
 rw[hi]at i0 ⊢;by_cases i1:(j:Int)<=(i:Int)
 .obtain⟨I,J,N,f4⟩:=fin0 (S.trans k2);simp only[Z3,seval,-ae,i0,i1,I,J,N,E,G,B];exact f4
 have cD:i<Tw O:=aH
 have nA:(i:Int)<(Tw O:Int):=aH
 have jh:j-i-1<Tw O-1-i:=aH
 have fj:((j-i-1:Nat):Int)<((Tw O-1-i:Nat):Int):=aH
 have wk:Tu .i64 ((j:Int)-(i:Int))=(j:Int)-(i:Int):=WE;have dY:Tu .i64 ((j:Int)-(i:Int)-1)=((j-i-1:Nat):Int):=WQ
 obtain⟨sC,eU,u',kJ,ds,rfl,rC,w1,w2,w3,w4,w5,a2⟩:=a.putC cD jh hv;have k3:dq H (g.set u' ds):=(S.trans k2).set w3 _;obtain⟨I,J,N⟩:=fin (t:=Im) k3 a2;have r2:=a.r2;have r3:=a2.r3;generalize g.set u' ds=B at *
 simp only[Z3,seval,-ae,i0,i1,r2,rC,cD,nA,jh,fj,wk,dY,w5,r3,I,J];exact N
end
section
variable{L:Nat->Nat}{s t:List UInt8}
def zHC(G:FI vX O)(H:(Tw O)<=1000)(I:∀B D A P C,eQ B D A O P C->GP (λm=>m=Tw O) P C (Tw O) (Tw O) (λj=>(Tw O)-1-j)->K (.agg [B,D,A]) σ):zA Tp 57 [vX] σ K:=
 zA.gh (zAV G H λL h vO vP vC N a=>a.fin N (sB _) λB D A P C E J=>I B D A P C E J)
def Fm.sz{N:Nat}(a:Fm N O P C)(D:N<=1000):ti O P C:=by
 have n:=a.n;have q:=a.q;refine⟨aH,⟨by rw[q.pl];omega,λr m=>by have:=q.pq r m;omega⟩,⟨by rw[q.cl];omega,λw B=>⟨?_,λr m=>by have:=q.cq w B r m;omega⟩⟩⟩;obtain⟨i,A,rfl⟩:=YE.1 B
 have:=q.row i (by rw[<-q.cl];exact A)
 rw[YK,na A]at this;have e:C[i].length=Tw O-1-i:=this;omega
def zCi(hs:(Tw s)<=500)(hk:∀e D E B O P C,eQ D E B O P C->Fm 6 O P C->K (.tup [.agg [D,E,B],.int .i64 e]) σ):zA Tp 78 [.str s] σ K:=by
 have Fz:=hk 6 _ _ _ [] [] [] ⟨⟨Im,.cU,rfl⟩,⟨Im,.cU,[],rfl,ez.nil _⟩,⟨Im,.cU,[],rfl,ez.nil _⟩⟩ (Fm.nil 6);have nil:∀{h:dj},dq σ h->Gh σ K (.tup [.agg [Tt,Tt,Tt],.int .i64 6]) h:=λ{h} N=>Gh.fin0 N ⟨⟨Is,Is,Is,Is⟩,Is,Is⟩ Fz;refine To Tryz.func78 ?_;refine Tq ?_;refine zBa (s:=s) aH λa n cells dW mw dD dF=>?_;obtain⟨p0,sZ,Ch⟩:=dF _ (ss (aH:0<Tw cells));have c0:cells[0]? = Ik (.str p0):=by rw[na aH,sZ]
 have z0:(0:Int)<(n:Int):=aH
 have ma:0<n:=aH
 simp only[Z3,seval,-ae,z0,ma,c0];refine zJ7 (s:=p0) aH λvX O t hX xh Dd=>?_;have A2:=hX.one;cases t
 .simp only[Z3,seval,-ae,A2];exact nil (zB _ _)
 simp only[Z3,seval,-ae,A2];refine zHC hX aH λD E B P C A J=>?_;have R:=A.O.one;have S:=A.P.one;have T:=A.C.one;simp only[Z3,seval,-ae,R,S,T];have wQ:∀{h:dj},dq σ h->σ.bY<h.bY->h.cd σ.bY=Ik [Tt,Tt,Tt]->
   h.wr σ.bY 0 [Tt,Tt,Tt]=Ik (h.set σ.bY [Tt,Tt,Tt])/\(h.set σ.bY [Tt,Tt,Tt]).rd σ.bY 0 3=Ik [Tt,Tt,Tt]/\Gh σ K (.tup [.agg [Tt,Tt,Tt],.int .i64 6]) (h.set σ.bY [Tt,Tt,Tt]):=λ{h} kh hl ho=>
  ⟨by rw[zL ho,Iu ⟨bj,rfl⟩];rfl,by rw[zZ,Iu rfl];rfl,nil (kh.set (sB _) _)⟩
 refine zF (λm vs h=>∃(i:Nat) (D E B:PV) (P:V2) (C:V3),1<=i/\i<=n/\m=n-i/\vs=[.str s,.ptr σ.bY 0,.fz Im a n cells,.ptr (σ.bY+1) 0,.int .i64 i]/\eQ D E B O P C/\GP (λm=>m=Tw O) P C (Tw O) (Tw O) (λj=>(Tw O)-1-j)/\
  dq σ h/\σ.bY+1<h.bY/\h.cd σ.bY=Ik [Tt,Tt,Tt]/\h.cd (σ.bY+1)=Ik [D,E,B]) (n-1) ?_ ?_
 .exact⟨1,D,E,B,P,C,sB _,dW,rfl,rfl,A,J,(zB _ _).cb _,by show _<σ.bY+2;omega,by simp only[Z3,seval,-ae],by simp only[Z3,seval,-ae]⟩
 clear A J R S T
 rintro m vs h ⟨i,D,E,B,P,C,CF,hi,rfl,rfl,A,J,N,hl,Y,cM⟩
 have R:=A.O.one;have S:=A.P.one;have T:=A.C.one;have r3:h.rd (σ.bY+1) 0 3=Ik [D,E,B]:=by rw[zN cM];rfl
 have fm:Fm 6 O P C:=⟨xh,λa ha=>(Dd a ha).b1,J⟩
 refine Tq ?_;refine fi (λaf=>?_) λan=>?_
 .have ah:(i:Int)<(n:Int):=aH
  obtain⟨p1,ka,Cg⟩:=dF _ (ss (aH:i<Tw cells));have ci:cells[i]? = Ik (.str p1):=by rw[na aH,ka]
  have wi:=WX af;simp only[Z3,seval,-ae,r3,af,ah,ci];refine zHE A xh Dd J (s:=p1) aH λH I G P' C' t U cH=>?_;have Z:=U.O.one;have g2:=U.P.one;have g3:=U.C.one;have w:h.wr (σ.bY+1) 0 [H,I,G]=Ik (h.set (σ.bY+1) [H,I,G]):=by rw[zL cM,Iu ⟨bj,by simp[Z,g2,g3]⟩];rfl
  have sS:dq σ (h.set (σ.bY+1) [H,I,G]):=N.set aH _;have cu:σ.bY+1<(h.set (σ.bY+1) [H,I,G]).bY:=hl;have iQ:(h.set (σ.bY+1) [H,I,G]).cd σ.bY=Ik [Tt,Tt,Tt]:=by rw[zG,Iv aH];exact Y
  have oJ:(h.set (σ.bY+1) [H,I,G]).cd (σ.bY+1)=Ik [H,I,G]:=by rw[zG,Iu rfl]
  generalize h.set (σ.bY+1) [H,I,G]=g at *
  cases t
  .obtain⟨V,W,X⟩:=wQ sS aH iQ;simp only[Z3,seval,-ae,Z,g2,g3,w,V,W];exact X
  simp only[Z3,seval,-ae,Z,g2,g3,w,wi];exact⟨_,aH,i+1,H,I,G,P',C',aH,aH,rfl,rfl,U,cH,sS,cu,iQ,oJ⟩
 simp only[Z3,seval,-ae,r3];refine qJ A (fm.sz Tx) λt ht=>?_;obtain⟨V,W,X⟩:=wQ N aH Y;cases t
 .simp only[Z3,seval,-ae,V,W];exact X
 simp only[Z3,seval,-ae,r3];refine zNt A (ht.1 rfl) λq=>?_;cases gK:q == s
 .have aj:¬q=s:=λe=>by rw[e]at gK;simp at gK
  simp only[Z3,seval,-ae,gK,V,W];exact X
 have w:h.wr σ.bY 0 [D,E,B]=Ik (h.set σ.bY [D,E,B]):=by rw[zL Y,Iu ⟨bj,by simp[R,S,T]⟩];rfl
 have r:(h.set σ.bY [D,E,B]).rd σ.bY 0 3=Ik [D,E,B]:=by rw[zZ,Iu rfl];rfl
 simp only[Z3,seval,-ae,gK,r3,w,r,R,S,T];exact Gh.fin0 (N.set (sB _) _) ⟨⟨A.O.bel _,A.P.bel _,A.C.bel _,Is⟩,Is,Is⟩ (hk 0 D E B O P C A fm)
end
section
variable{s:List UInt8}
def strOK:PV->Bool
 | .str q=>decide (Tw q<=500)
 |_=>false
def zPW{l:List PV}{r:Nat}{K:PV->Prop}(h:l.all strOK=Im)(A:r<Tw l)(B:∀q:List UInt8,(Tw q)<=500->K (.str q)):iU l[r]? K:=by
 have m:=Mi.1 h _ (ss A);rw[na A];refine⟨_,rfl,?_⟩;generalize l[r]=c at *
 cases c<;>simp only[strOK,JM,decide_eq_true_eq]at m
 exact B _ m
def zJ5{k:Int}(df:0<=k/\k<=1000)(hk:∀E I D O P C,eQ E I D O P C->Fm 18 O P C->K (.agg [E,I,D]) σ):zA Tp 113 [.int .i64 k] σ K:=by
 refine zA.gh ?_;have r0:0<=k.tmod 10/\k.tmod 10<10:=⟨Th _ df.1,Sn _ Tx⟩
 obtain⟨r,hr⟩:∃r:Nat,k.tmod 10=r:=⟨(k.tmod 10).toNat,aH⟩
 have Cc:r<10:=aH
 have Cb:(r:Int)<((10:Nat):Int):=aH
 have wi:Tu .i64 (r:Int)=(r:Int):=WE;refine Tn Tryz.func113 ?_;simp only[Z3,seval,-ae,hr,wi,Cc,Cb];refine zPW rfl Cc λq hq=>?_;refine Tq ?_;generalize R:(σ.cb [Tt,Tt,Tt]).cb _=H;have eG:H.bY=σ.bY+2:=by rw[<-R];rfl
 have kH:dq σ H:=by rw[<-R];exact(zB _ _).cb _
 have bK:H.cd σ.bY=Ik [Tt,Tt,Tt]:=by rw[<-R];simp only[Z3,seval,-ae]
 clear R;refine zCi (s:=q) hq λe E I D O P C N fm=>?_;have Y:=N.O.one;have Z:=N.P.one;have o3:=N.C.one;have X:¬σ.bY=H.bY:=aH
 have Bb:=fm.mono (N':=18) Tx;have wH:∀{A B m:PV},A.one=Im->B.one=Im->m.one=Im->H.wr σ.bY 0 [A,B,m]=Ik (H.set σ.bY [A,B,m]):=λ{A B m} h1 h2 h3=>by rw[zL bK,Iu ⟨bj,by simp[h1,h2,h3]⟩];rfl
 by_cases V:e=0
 .subst V;have w:=wH Y Z o3;have r:(H.set σ.bY [E,I,D]).rd σ.bY 0 3=Ik [E,I,D]:=by rw[zZ,Iu rfl];rfl
  have W:dq σ (H.set σ.bY [E,I,D]):=kH.set (sB _) _;have n2:¬σ.bY=(H.set σ.bY [E,I,D]).bY:=X;generalize H.set σ.bY [E,I,D]=g at *
  simp only[Z3,seval,-ae,Y,Z,o3,X,w,r,n2];exact Gh.fin0 (W.cb _) ⟨N.O.bel _,N.P.bel _,N.C.bel _,Is⟩ (hk E I D O P C N Bb)
 have d0:(e=0)=False:=by simp[V]
 simp only[Z3,seval,-ae,Y,Z,o3,X,V,d0];have kG:dq H ((H.cb [E,I,D]).cb [PV.int .i64 2]):=(zB _ _).cb _;have MM:((H.cb [E,I,D]).cb [PV.int .i64 2]).cd (H.bY+1)=Ik (eh [2]):=by rw[zC];exact Iu rfl
 have ML:((H.cb [E,I,D]).cb [PV.int .i64 2]).cd H.bY=Ik [E,I,D]:=by rw[zC,Iv (by show ¬H.bY=H.bY+1;omega),zC,Iu rfl]
 have OP:((H.cb [E,I,D]).cb [PV.int .i64 2]).bY=H.bY+2:=rfl;generalize (H.cb [E,I,D]).cb [PV.int .i64 2]=G at *
 refine zC8 (s:=H.bY+1) (O:=[2]) (cap:=.cm 1) MM aH Tx λA B m P' C' J cH=>?_;have S:=J.O.one;have T:=J.P.one;have U:=J.C.one;have w1:G.wr H.bY 0 [A,B,m]=Ik (G.set H.bY [A,B,m]):=by rw[zL ML,Iu ⟨bj,by simp[S,T,U]⟩];rfl
 have kS:dq H (G.set H.bY [A,B,m]):=kG.set (sB _) _;have r1:(G.set H.bY [A,B,m]).rd H.bY 0 3=Ik [A,B,m]:=by rw[zZ,Iu rfl];rfl
 have iQ:(G.set H.bY [A,B,m]).cd σ.bY=Ik [Tt,Tt,Tt]:=by rw[kS.cd _ aH];exact bK
 generalize G.set H.bY [A,B,m]=g at *
 have w2:g.wr σ.bY 0 [A,B,m]=Ik (g.set σ.bY [A,B,m]):=by rw[zL iQ,Iu ⟨bj,by simp[S,T,U]⟩];rfl
 have r2:(g.set σ.bY [A,B,m]).rd σ.bY 0 3=Ik [A,B,m]:=by rw[zZ,Iu rfl];rfl
 have W:dq σ (g.set σ.bY [A,B,m]):=(kH.trans kS).set (sB _) _;simp only[Z3,seval,-ae,S,T,U,w1,r1,w2,r2];exact Gh.fin0 W ⟨J.O.bel _,J.P.bel _,J.C.bel _,Is⟩ (hk A B m [2] P' C' J ⟨Tx,Tx,cH⟩)
end
section
open Go.Mx
abbrev wQ:List PV:=[Tt,Tt,Tt]
def zRH{N:Nat}(I:s0<σ.bY)(S:∀A B m O P C σ',eQ A B m O P C->Fm N O P C->Mv σ s0 σ'->So σ' s0 vS bs->K (.agg [A,B,m]) σ')
  {g:dj} (km:KM σ s0 g) (W:So g s0 vS bs) (V:g.cd σ.bY=Ik wQ) {A B m:PV} (D:eQ A B m O P C) (R:Fm N O P C):
  A.one=Im/\B.one=Im/\m.one=Im/\g.wr σ.bY 0 [A,B,m]=Ik (g.set σ.bY [A,B,m])/\(g.set σ.bY [A,B,m]).rd σ.bY 0 3=Ik [A,B,m]/\Gh σ K (.agg [A,B,m]) (g.set σ.bY [A,B,m]):=by
 have E:=D.O.one;have G:=D.P.one;have H:=D.C.one;refine⟨E,G,H,by rw[zL V,Iu ⟨by simp[wQ],by simp[E,G,H]⟩];rfl,by rw[zZ,Iu rfl];rfl,?_⟩;refine Gh.km (km.set (sB _) _) (W.set aH _) I λσ' U J T=>Gh.fin0 T ⟨D.O.bel _,D.P.bel _,D.C.bel _,Is⟩ (S _ _ _ O P C σ' D R U J)
def ve_of{p:Int}{v:V1}(m:0<p)(h:∀x∈v,0<=x/\x<p):Ve p (Tw v) v:=by
 refine⟨rfl,λj=>?_⟩;rcases YY j (Tw v) with hj|hj
 .rw[gj hj];exact h _ (ss hj)
 .unfold at_;rw[YK,YN hj];exact⟨UL _,m⟩
def ma_of{p:Int}{n:Nat}{M:V2}(B:0<p)(h:∀r∈M,(Tw r)=n/\∀x∈r,0<=x/\x<p):Ma p n M:=λr D=>by
 obtain⟨m,A⟩:=h r D;rw[<-m];exact ve_of B A
def ft.mv'{e n:Nat}{cs:List PV}(a:ft b e h v n cs)(hs:s0<b)(m:Mv h s0 h'):ft b e h' v n cs:=by
 obtain⟨s,cap,rfl,A,B,D,E,G⟩:=a;exact⟨s,cap,rfl,A,by rw[m.cd aH];exact B,D,E,by rw[m.bY];exact G⟩
def zAG(g:dj):V2->dj
 |[]=>g
 |x::r=>zAG (g.cb (eh x)) r
def zGe:∀(M:V2) (g:dj),(zAG g M).bY=g.bY+Tw M/\dq g (zAG g M)/\∀i (m:i<Tw M),(zAG g M).cd (g.bY+i)=Ik (eh M[i])
 |[],g=>⟨rfl,dq.refl g,λi m=>by cases m⟩
 |x::r,g=>by
  obtain⟨B,A,D⟩:=zGe r (g.cb (eh x));have e:(g.cb (eh x)).bY=g.bY+1:=rfl;refine⟨by rw[zAG,B,e,YF];omega,(zB g _).trans A,λi m=>?_⟩;cases i with
  |zero=>exact(A.cd _ (YB _)).trans (Iu rfl)
  |succ i=>have:=D i (by simpa using m);rwa[e,show g.bY+1+i=g.bY+(i+1) by omega]at this
def HL(b n:Nat):Nat->Nat->List PV
 |_,0=>[]
 |i,k+1=>.sl (b+i) 0 n (.cm n)::HL b n (i+1) k
def zGW(b n:Nat):∀k i j,j<k->(HL b n i k)[j]? = Ik (.sl (b+(i+j)) 0 n (.cm n))
 |k+1,i,0,_=>rfl
 |k+1,i,j+1,h=>by rw[HL,IU,zGW b n k (i+1) j aH,show i+1+j=i+(j+1) by omega]
def zGV(b n:Nat):∀k i,(HL b n i k).length=k
 |0,_=>rfl
 |k+1,i=>by rw[HL,YF,zGV b n k]
def QJ{g:dj}{p m:Int}{M:V2}(Y:2<=p/\p<=7)(X:1<=m/\m<=1000)(J:∀r∈M,(Tw r)=Tw M/\∀x∈r,0<=x/\x<p)(W:1<=Tw M/\Tw M<=8)(R:0<p)
  (V:∀G D E B O P C,dq g G->eQ D E B O P C->Fm 18 O P C->K (.agg [D,E,B]) G):zA Tp 112 [.int .i64 p,.sl (g.bY+Tw M) 0 (Tw M) (.cm (Tw M)),.int .i64 m] ((zAG g M).cb (HL g.bY (Tw M) 0 (Tw M))) K:=by
 obtain⟨H,S,T⟩:=zGe M g;refine zIa Y X ⟨g.bY+Tw M,.cm (Tw M),_,rfl,(zC _ _).trans (Iu H.symm),by rw[<-H];exact YB _,by rw[zGV],λi c x I Z=>?_⟩ (ma_of R J) W λD E B O P C U N=>V _ _ _ _ _ _ _ (S.cb _) U N;obtain⟨A,rfl⟩:=Yg.1 Z;rw[zGW _ _ _ _ _ A,YR]at I;rw[<-I,Y4];have h4:(zAG g M).bY<((zAG g M).cb (HL g.bY (Tw M) 0 (Tw M))).bY:=YB _;exact⟨g.bY+i,.cm (Tw M),by rw[(J _ (ss A)).1],(zC _ _).trans ((Iv aH).trans (T i A)),aH⟩
def zC9(so:So σ s0 vS bs)(hk:∀wO wP Z O P C σ',eQ wO wP Z O P C->Fm 18 O P C->Mv σ s0 σ'->So σ' s0 vS bs->K (.agg [wO,wP,Z]) σ'):zA Tp 54 [.ptr s0 0] σ K:=by
 have bD:=so.lt;refine To Tryz.func54 ?_;refine Tq ?_;generalize hH:σ.cb [Tt,Tt,Tt]=H;have eG:H.bY=σ.bY+1:=by rw[<-hH];rfl
 have dP:s0<H.bY:=aH
 have bK:H.cd σ.bY=Ik wQ:=by rw[<-hH];simp only[Z3,seval,-ae]
 have kK:KM σ s0 H:=by rw[<-hH];exact so.kmK (zB _ _)
 have jG:So H s0 vS bs:=by rw[<-hH];exact so.c7 (zB _ _)
 clear hH;have fin:∀{g:dj} {wO wP Z:PV} {O:V1} {P:V2} {C:V3},KM H s0 g->So g s0 vS bs->eQ wO wP Z O P C->Fm 18 O P C->
   wO.one=Im/\wP.one=Im/\Z.one=Im/\g.wr σ.bY 0 [wO,wP,Z]=Ik (g.set σ.bY [wO,wP,Z])/\(g.set σ.bY [wO,wP,Z]).rd σ.bY 0 3=Ik [wO,wP,Z]/\Gh σ K (.agg [wO,wP,Z]) (g.set σ.bY [wO,wP,Z]):=λ{g wO wP Z O P C} km dA A B=>
  zRH bD hk (kK.trans bD km) dA (by rw[km.cd aH aH];exact bK) A B
 have fin2:∀{g:dj} {wO wP Z:PV} {O:V1} {P:V2} {C:V3},KM σ s0 g->So g s0 vS bs->eQ wO wP Z O P C->Fm 18 O P C->Gh σ K (.agg [wO,wP,Z]) g:=λ{g wO wP Z O P C} km dA A B=>
  Gh.km km dA bD λσ' m' jH kp=>Gh.fin0 kp ⟨A.O.bel _,A.P.bel _,A.C.bel _,Is⟩ (hk _ _ _ O P C σ' A B m' jH)
 refine zQ (n:=9) jG Tx λx1 h eB m1 fC=>?_;have iR:KM H s0 h:=jG.km.mv dP m1;have dW:=m1.bY;clear m1;by_cases e0:x1=0
 .subst e0;refine Tq ?_;refine zQ (n:=5) (fC.c7 (zB _ _)) Tx λx2 h2 j7 Y T=>?_;have S:=(iR.cb []).mv dP Y;have Sc:=j7.lt Tx;have cQ:=j7.1;have xA:ft H.bY 1 h2 (.sl h.bY 0 0 (.cm 0)) 0 []:=ft.mv' (ft.own (n:=0) (.inr rfl) (by rw[zC,Iu rfl]) rfl aH (YB _)) dP Y;refine Tq ?_;refine zF (λm vs g=>∃(x:Nat) (v:PV) (O:V1),m=x/\vs=[.ptr s0 0,.ptr σ.bY 0,v,.int .i64 x]/\Tw O+x<=5/\(∀a∈O,1<=a/\a<=1000)/\KM H s0 g/\So g s0 vS bs/\ft H.bY 1 g v (Tw O) (eh O)) x2.toNat ?_ ?_
  .exact⟨x2.toNat,_,[],rfl,by rw[Yi cQ];rfl,by simp;omega,λa ha=>(by cases ha),S,T,xA⟩
  rintro x vs g ⟨x',v,O,rfl,rfl,hx,hO,km,dA,pa⟩
  have p1:=pa.one;simp only[Z3,seval,-ae,p1];refine fi (λaM=>?_) λan=>?_
  .refine QY (xs:=[2,2,3]) (t:=g.bY) (dA.c7 (zB _ _)) (by have:=km.bY;omega) (by rw[zC,Iu rfl];rfl) Tx λy g' hy m3 cX=>?_;have uM:=ft.mv' (pa.c7 (zB g [PV.int .i64 2,PV.int .i64 2,PV.int .i64 3])) dP m3;obtain⟨σ',m',kp⟩:=(km.cb _).mv dP m3;have yb:2<=y/\y<=3:=by
    grind
   simp only[Z3,seval,-ae,p1];have bZ:=m'.bY;refine ft.push (σb:=σ') (bytes:=8) kp (by rw[bZ];exact uM) aH aH λv2 D k2 a2=>?_;have p2:=a2.one;have wx:Tu .i64 ((x:Int)-1)=((x-1:Nat):Int):=WQ
   simp only[Z3,seval,-ae,p2,wx];refine⟨x-1,aH,x-1,v2,O++[y],rfl,rfl,by rw[cO,Yk];omega,λa ha=>?_,⟨σ',m',k2⟩,(zE9 kp cX (by rw[bZ];exact dP)).c7 k2,?_⟩
   .grind
   .have e:eh (O++[y])=eh O++[.int .i64 y]:=by simp[eh]
    rw[e,cO,<-bZ];exact a2
  obtain⟨st,ef,rfl,q1,q2,q3,q4,q5⟩:=pa;refine Tq ?_;refine zC8 q2 q5 aH λV W U P' C' cI cH=>?_;obtain⟨J,D,N,E,I,R⟩:=fin km dA cI ⟨aH,hO,cH⟩;simp only[Z3,seval,-ae,J,D,N,E,I];exact R
 by_cases e1:x1=1
 .subst e1;refine Tq ?_;refine QY (xs:=[1,4,6,8,9,12,5,7,27,25,36]) (t:=h.bY) (fC.c7 (zB _ _)) aH (by rw[zC,Iu rfl];rfl) Tx λy g hy Y T=>?_;have S:=(iR.cb _).mv dP Y;have yb:1<=y/\y<=36:=by
   simp only[Yq,Ya,or_false]at hy;omega
  have w1:Tu .i64 (y-1)=y-1:=WE;refine Tq ?_;refine zOc aH λe V W U O P C A B=>?_;have o1:=A.O.one;have o2:=A.P.one;have o3:=A.C.one;have Bb:=B.mono (N':=18) Tx;have CH:=S.bY;have n1:¬σ.bY=g.bY:=aH
  obtain⟨J,D,N,E,I,R⟩:=fin S T A Bb;have ng:(g.set σ.bY [V,W,U]).bY=g.bY:=rfl;simp only[Z3,seval,-ae,o1,o2,o3,n1,E,I,ng];exact fin2 (((kK.trans bD S).set (sB _) _).cb _) ((T.set aH _).c7 (zB _ _)) A Bb
 by_cases e2:x1=2
 .subst e2;refine Tq ?_;refine QY (xs:=[3,4,5,6,7,8,9,12]) (t:=h.bY) (fC.c7 (zB _ _)) aH (by rw[zC,Iu rfl];rfl) Tx λy g hy Y T=>?_;have S:=(iR.cb _).mv dP Y;have yb:3<=y/\y<=12:=by
   simp only[Yq,Ya,or_false]at hy;omega
  have w1:Tu .i64 (y-1)=y-1:=WE;simp only[Z3,seval,-ae,w1];refine ZO (n:=2) Tx aH aH Tx λV W U O P C A B=>?_;obtain⟨J,D,N,E,I,R⟩:=fin S T A B;simp only[Z3,seval,-ae,J,D,N,E,I];exact R
 by_cases e3:x1=3
 .subst e3;refine Tq ?_;refine QY (xs:=[4,6,8,12]) (t:=h.bY) (fC.c7 (zB _ _)) aH (by rw[zC,Iu rfl];rfl) Tx λy g hy Y T=>?_;have S:=(iR.cb _).mv dP Y;have yb:4<=y/\y<=12:=by
   grind
  have w1:Tu .i64 (y-1)=y-1:=WE;have d1:0<=y.tdiv 2:=Tg aH Tx;have d2:y.tdiv 2<=y:=Int.tdiv_le_self _ aH;have w2:Tu .i64 (y.tdiv 2)=y.tdiv 2:=WE;simp only[Z3,seval,-ae,w1,w2];refine ZO (n:=2) Tx aH aH aH λV W U O P C A B=>?_;obtain⟨J,D,N,E,I,R⟩:=fin S T A B;simp only[Z3,seval,-ae,J,D,N,E,I];exact R
 by_cases e4:x1=4
 .subst e4;refine Tq ?_;refine zQ (n:=6) fC Tx λx2 g j7 Y T=>?_;have S:=iR.mv dP Y;by_cases f0:x2=0
  .subst f0;refine Tq ?_;refine ZO (n:=3) (m:=7) (a:=2) (c:=0) Tx Tx Tx Tx λV W U O P C A B=>?_;obtain⟨J,D,N,E,I,R⟩:=fin S T A B;simp only[Z3,seval,-ae,J,D,N,E,I];exact R
  by_cases f1:x2=1
  .subst f1;refine Tq ?_;refine ZO (n:=4) (m:=5) (a:=2) (c:=0) Tx Tx Tx Tx λV W U O P C A B=>?_;obtain⟨J,D,N,E,I,R⟩:=fin S T A B;simp only[Z3,seval,-ae,J,D,N,E,I];exact R
  by_cases f2:x2=2
  .subst f2;refine Tq ?_;refine ZO (n:=2) (m:=8) (a:=3) (c:=0) Tx Tx Tx Tx λV W U O P C A B=>?_;obtain⟨J,D,N,E,I,R⟩:=fin S T A B;simp only[Z3,seval,-ae,J,D,N,E,I];exact R
  by_cases f3:x2=3
  .subst f3;refine Tq ?_;refine ZO (n:=2) (m:=8) (a:=5) (c:=0) Tx Tx Tx Tx λV W U O P C A B=>?_;obtain⟨J,D,N,E,I,R⟩:=fin S T A B;simp only[Z3,seval,-ae,J,D,N,E,I];exact R
  by_cases f4:x2=4
  .subst f4;refine Tq ?_;refine ZO (n:=4) (m:=4) (a:=3) (c:=0) Tx Tx Tx Tx λV W U O P C A B=>?_;obtain⟨J,D,N,E,I,R⟩:=fin S T A B;simp only[Z3,seval,-ae,J,D,N,E,I];exact R
  simp only[Z3,seval,-ae,f0,f1,f2,f3,f4];refine ZO (n:=3) (m:=9) (a:=4) (c:=0) Tx Tx Tx Tx λV W U O P C A B=>?_;obtain⟨J,D,N,E,I,R⟩:=fin S T A B;simp only[Z3,seval,-ae,J,D,N,E,I];exact R
 by_cases e5:x1=5
 .subst e5;refine Tq ?_;refine QY (xs:=[2,3,2,3,5]) (t:=h.bY) (fC.c7 (zB _ _)) aH (by rw[zC,Iu rfl];rfl) Tx λy g hy Y T=>?_;have S:=(iR.cb _).mv dP Y;have yb:2<=y/\y<=5:=by
   grind
  have w1:Tu .i64 (y-1)=y-1:=WE;refine Tq ?_;refine zEi T aH λV W U O P C g' A B m3 cX=>?_;obtain⟨J,D,N,E,I,R⟩:=fin (S.mv dP m3) cX A B;simp only[Z3,seval,-ae,J,D,N,E,I];exact R
 by_cases e6:x1=6
 .subst e6;refine Tq ?_;refine zQ (n:=6) fC Tx λx2 g j7 Y T=>?_;have S:=iR.mv dP Y;by_cases f0:x2=0
  .subst f0;refine Tq ?_;refine QJ (p:=3) (m:=2) (M:=[[2,0],[0,2]]) Tx Tx Tx Tx Tx λG V W U O P C X A B=>?_;obtain⟨J,D,N,E,I,R⟩:=fin (S.c7 X) (T.c7 X) A B;simp only[Z3,seval,-ae,J,D,N,E,I];exact R
  by_cases f1:x2=1
  .subst f1;refine Tq ?_;refine QJ (p:=3) (m:=4) (M:=[[0,1],[2,0]]) Tx Tx Tx Tx Tx λG V W U O P C X A B=>?_;obtain⟨J,D,N,E,I,R⟩:=fin (S.c7 X) (T.c7 X) A B;simp only[Z3,seval,-ae,J,D,N,E,I];exact R
  by_cases f2:x2=2
  .subst f2;refine Tq ?_;refine QJ (p:=2) (m:=7) (M:=[[0,1,0],[0,0,1],[1,1,0]]) Tx Tx Tx Tx Tx λG V W U O P C X A B=>?_;obtain⟨J,D,N,E,I,R⟩:=fin (S.c7 X) (T.c7 X) A B;simp only[Z3,seval,-ae,J,D,N,E,I];exact R
  by_cases f3:x2=3
  .subst f3;refine Tq ?_;refine QJ (p:=2) (m:=4) (M:=[[1,1,0],[0,1,1],[0,0,1]]) Tx Tx Tx Tx Tx λG V W U O P C X A B=>?_;obtain⟨J,D,N,E,I,R⟩:=fin (S.c7 X) (T.c7 X) A B;simp only[Z3,seval,-ae,J,D,N,E,I];exact R
  by_cases f4:x2=4
  .subst f4;refine Tq ?_;refine QJ (p:=2) (m:=2) (M:=[[0,1,0,0],[1,0,0,0],[0,0,0,1],[0,0,1,0]]) Tx Tx Tx Tx Tx λG V W U O P C X A B=>?_;obtain⟨J,D,N,E,I,R⟩:=fin (S.c7 X) (T.c7 X) A B;simp only[Z3,seval,-ae,J,D,N,E,I];exact R
  simp only[Z3,seval,-ae,f0,f1,f2,f3,f4];refine QJ (p:=5) (m:=3) (M:=[[0,1],[4,4]]) Tx Tx Tx Tx Tx λG V W U O P C X A B=>?_;obtain⟨J,D,N,E,I,R⟩:=fin (S.c7 X) (T.c7 X) A B;simp only[Z3,seval,-ae,J,D,N,E,I];exact R
 simp only[Z3,seval,-ae,e0,e1,e2,e3,e4,e5,e6];refine zQ (n:=10) fC Tx λx2 g j7 Y T=>?_;have S:=iR.mv dP Y;have xl:=j7.lt Tx;refine Tq ?_;refine zJ5 ⟨j7.1,aH⟩ λV W U O P C A B=>?_;obtain⟨J,D,N,E,I,R⟩:=fin S T A B;simp only[Z3,seval,-ae,J,D,N,E,I];exact R
end
def Two(b:Nat)(h:dj)(vO vP vC:PV):Prop:=∃(D A B m t:Nat) (E G H I J:nK),vO=.sl D 0 1 E/\vP=.sl A 0 1 G/\vC=.sl m 0 1 I/\(full 1 E 1/\full 1 G 1/\full 1 H 1/\full 1 I 1/\full 1 J 0)/\
 (b<=D/\D<h.bY/\b<=A/\A<h.bY/\b<=B/\B<h.bY/\b<=m/\m<h.bY/\b<=t/\t<h.bY)/\h.cd D=Ik (eh [2])/\h.cd A=Ik [.sl B 0 1 H]/\h.cd B=Ik (eh [0])/\h.cd m=Ik [.sl t 0 0 J]/\h.cd t=Ik []
def Two.set(a:Two b h vO vP vC){s:Nat}(hs:s<b)(E:List PV):Two b (h.set s E) vO vP vC:=by
 obtain⟨so,sP,sR,sC,t,R,S,T,U,V,W,X,Y,f,⟨b1,H,m,I,A,J,B,N,D,G⟩,Z,o2,o3,o4,o5⟩:=a;have k:∀{u:Nat},b<=u->(h.set s E).cd u=h.cd u:=λhu=>by rw[zG,Iv aH]
 exact⟨so,sP,sR,sC,t,R,S,T,U,V,W,X,Y,f,⟨b1,H,m,I,A,J,B,N,D,G⟩,by rw[k b1];exact Z,by rw[k m];exact o2,by rw[k A];exact o3,by rw[k B];exact o4,by rw[k D];exact o5⟩
def Two.fin(a:Two b h vO vP vC)(kk:dq σ h)(hb:σ.bY<=b)(hk:∀R S N,eQ R S N [2] [[0]] [[]]->K (.agg [R,S,N]) σ):Gh σ K (.agg [vO,vP,vC]) h:=by
 obtain⟨G,E,J,D,t,m,A,H,B,I,rfl,rfl,rfl,⟨Y,Z,f3,f4,f5⟩,⟨b1,U,b3,V,b5,W,b7,X,b9,T⟩,o1,o2,o3,o4,o5⟩:=a;have e:(TR.agg [TR.row G m [2],TR.lst E A [TR.row J H [0]],TR.lst D B [TR.lst t I []]]).pv=.agg [.sl G 0 1 m,.sl E 0 1 A,.sl D 0 1 B]:=by simp only[TR.pv,TR.pvs,TR.row_pv];rfl
 rw[<-e];have ok:(TR.agg [TR.row G m [2],TR.lst E A [TR.row J H [0]],TR.lst D B [TR.lst t I []]]).ok h σ.bY:=by
  refine⟨TR.row_ok Y o1 aH U,⟨⟨Z,?_,aH,V⟩,TR.row_ok f3 o3 aH W,Is⟩,⟨⟨f4,?_,aH,X⟩,⟨⟨f5,o5,aH,T⟩,Is⟩,Is⟩,Is⟩
  .rw[o2];simp only[TR.pvs,TR.row_pv];rfl
  .rw[o4];simp only[TR.pvs,TR.pv];rfl
 refine Gh.treeF kk (ql ok) λa=>?_
 have:=hk ((TR.row G m [2]).fz a) ((TR.lst E A [TR.row J H [0]]).fz a) ((TR.lst D B [TR.lst t I []]).fz a) ⟨TR.row_FI,⟨Im,_,_,rfl,(ez.nil _).cons TR.row_FI⟩,⟨Im,_,_,rfl,(ez.nil _).cons ⟨Im,_,_,rfl,ez.nil _⟩⟩⟩
 simpa only[TR.fz,TR.fzs]using this
def zIW{s:Nat}{cap:nK}(ho:σ.cd s=Ik (eh [2]))(hs:s<σ.bY)(hk:∀wO wP wC,eQ wO wP wC [2] [[0]] [[]]->K (.agg [wO,wP,wC]) σ):zA Tp 57 [.sl s 0 1 cap] σ K:=by
 refine To Tryz.func57 ?_;refine Tq ?_;refine zBx (xs:=[2]) (by rw[zC,Iv aH];exact ho) (by show s<σ.bY+1;omega) Tx λA iB=>?_;refine Tq ?_;refine zF (λm vs h=>(m=1/\vs=[.ptr σ.bY 0,.int .i64 1,.ptr (σ.bY+2) 0,.int .i64 0]/\dq σ h/\h.cd σ.bY=Ik wQ/\h.cd (σ.bY+1)=Ik (eh [2])/\h.cd (σ.bY+2)=Ik [.sl (σ.bY+1) 0 1 A,Tt,Tt]/\h.bY=σ.bY+3)\/
   (m=0/\vs=[.ptr σ.bY 0,.int .i64 1,.ptr (σ.bY+2) 0,.int .i64 1]/\dq σ h/\h.cd σ.bY=Ik wQ/\∃D E B:PV,h.cd (σ.bY+2)=Ik [D,E,B]/\Two (σ.bY+1) h D E B)) 1 ?_ ?_
 .exact .inl ⟨rfl,rfl,((zB _ _).cb _).cb _,by simp only[Z3,seval,-ae],by simp only[Z3,seval,-ae],by simp only[Z3,seval,-ae],rfl⟩
 rintro m vs h (⟨rfl,rfl,N,I,cM,H,hn⟩|⟨rfl,rfl,N,I,D,E,B,H,tw⟩)
 .have r1:h.gv (σ.bY+2) 1=Ik (Tt):=by rw[zH H];rfl
  have r2:h.gv (σ.bY+2) 2=Ik (Tt):=by rw[zH H];rfl
  have U:¬σ.bY+2=h.bY:=aH
  have V:¬σ.bY+2=h.bY+1:=aH
  have W:¬σ.bY+2=h.bY+2:=aH
  simp only[Z3,seval,-ae,r1,r2,U,V,W,E4 (n:=1) aH,Go.Ab.zx (n:=1) aH,ZM,zAZ,zBr,qO];have w1:h.wr (σ.bY+2) 1 [.sl (h.bY+2) 0 1 (.grown 1)]=Ik (h.set (σ.bY+2) [.sl (σ.bY+1) 0 1 A,.sl (h.bY+2) 0 1 (.grown 1),Tt]):=by rw[zL H,Iu ⟨bj,by simp;rfl⟩];rfl
  have Y:(h.set (σ.bY+2) [.sl (σ.bY+1) 0 1 A,.sl (h.bY+2) 0 1 (.grown 1),Tt]).cd (σ.bY+2)=Ik [.sl (σ.bY+1) 0 1 A,.sl (h.bY+2) 0 1 (.grown 1),Tt]:=by rw[zG,Iu rfl]
  have oJ:(h.set (σ.bY+2) [.sl (σ.bY+1) 0 1 A,.sl (h.bY+2) 0 1 (.grown 1),Tt]).cd (σ.bY+1)=Ik (eh [2]):=by rw[zG,Iv aH];exact cM
  have iQ:(h.set (σ.bY+2) [.sl (σ.bY+1) 0 1 A,.sl (h.bY+2) 0 1 (.grown 1),Tt]).cd σ.bY=Ik wQ:=by rw[zG,Iv aH];exact I
  have X:dq σ (h.set (σ.bY+2) [.sl (σ.bY+1) 0 1 A,.sl (h.bY+2) 0 1 (.grown 1),Tt]):=N.set aH _;have J:(h.set (σ.bY+2) [.sl (σ.bY+1) 0 1 A,.sl (h.bY+2) 0 1 (.grown 1),Tt]).bY=h.bY:=rfl;refine⟨Tx,?_⟩;simp only[Z3,seval,-ae,w1];generalize h.set (σ.bY+2) [.sl (σ.bY+1) 0 1 A,.sl (h.bY+2) 0 1 (.grown 1),Tt]=g at *
  rw[<-J];rw[<-J]at Y;refine zF (λm vs h'=>m=0/\vs=[.ptr σ.bY 0,.int .i64 1,.ptr (σ.bY+2) 0,.int .i64 0,.sl (g.bY+3) 0 0 (.cm 0),.int .i64 1]/\h'=(((g.cb [PV.int .i64 0]).cb [PV.sl g.bY 0 1 (nK.cm 1)]).cb [PV.sl g.bY 0 1 (nK.cm 1)]).cb []) 0 ?_ ?_
  .exact⟨rfl,rfl,rfl⟩
  rintro m vs h' ⟨rfl,rfl,rfl⟩
  have tG:g.gv (σ.bY+2) 2=Ik (Tt):=by rw[zH Y];rfl
  rw[<-J]at U V W hn;have n4:¬σ.bY+2=g.bY+3:=aH
  have n5:¬σ.bY+2=g.bY+4:=aH
  have n6:¬σ.bY+2=g.bY+5:=aH
  simp only[Z3,seval,-ae,tG,U,V,W,n4,n5,n6,ZM,zAZ,zBr,qO];have w2:g.wr (σ.bY+2) 2 [.sl (g.bY+5) 0 1 (.grown 1)]=Ik (g.set (σ.bY+2) [.sl (σ.bY+1) 0 1 A,.sl (g.bY+2) 0 1 (.grown 1),.sl (g.bY+5) 0 1 (.grown 1)]):=by rw[zL Y,Iu ⟨bj,by simp;rfl⟩];rfl
  have uT:(g.set (σ.bY+2) [.sl (σ.bY+1) 0 1 A,.sl (g.bY+2) 0 1 (.grown 1),.sl (g.bY+5) 0 1 (.grown 1)]).cd (σ.bY+2)=Ik [.sl (σ.bY+1) 0 1 A,.sl (g.bY+2) 0 1 (.grown 1),.sl (g.bY+5) 0 1 (.grown 1)]:=by rw[zG,Iu rfl]
  have Bv:(g.set (σ.bY+2) [.sl (σ.bY+1) 0 1 A,.sl (g.bY+2) 0 1 (.grown 1),.sl (g.bY+5) 0 1 (.grown 1)]).cd (σ.bY+1)=Ik (eh [2]):=by rw[zG,Iv aH];exact oJ
  have Bw:(g.set (σ.bY+2) [.sl (σ.bY+1) 0 1 A,.sl (g.bY+2) 0 1 (.grown 1),.sl (g.bY+5) 0 1 (.grown 1)]).cd σ.bY=Ik wQ:=by rw[zG,Iv aH];exact iQ
  have FP:dq σ (g.set (σ.bY+2) [.sl (σ.bY+1) 0 1 A,.sl (g.bY+2) 0 1 (.grown 1),.sl (g.bY+5) 0 1 (.grown 1)]):=X.set aH _;have GM:(g.set (σ.bY+2) [.sl (σ.bY+1) 0 1 A,.sl (g.bY+2) 0 1 (.grown 1),.sl (g.bY+5) 0 1 (.grown 1)]).bY=g.bY:=rfl;simp only[Z3,seval,-ae,w2];generalize g.set (σ.bY+2) [.sl (σ.bY+1) 0 1 A,.sl (g.bY+2) 0 1 (.grown 1),.sl (g.bY+5) 0 1 (.grown 1)]=G at *
  rw[<-GM]at uT hn ⊢;have R:∀k:Nat,¬σ.bY=G.bY+k:=λk=>by omega
  have S:∀k:Nat,¬σ.bY+1=G.bY+k:=λk=>by omega
  have T:∀k:Nat,¬σ.bY+2=G.bY+k:=λk=>by omega
  have Z:¬σ.bY=G.bY:=R 0;have m10:¬σ.bY+1=G.bY:=S 0;have m20:¬σ.bY+2=G.bY:=T 0;have eN:((((((G.cb [PV.int .i64 0]).cb [PV.sl G.bY 0 1 (nK.cm 1)]).cb [PV.sl G.bY 0 1 (nK.cm 1)]).cb []).cb [PV.sl (G.bY+3) 0 0 (nK.cm 0)]).cb [PV.sl (G.bY+3) 0 0 (nK.cm 0)]).bY=G.bY+6:=rfl;refine⟨0,Tx,.inr ⟨rfl,rfl,(((((FP.cb _).cb _).cb _).cb _).cb _).cb _,?_,_,_,_,?_,σ.bY+1,G.bY+2,G.bY,G.bY+5,G.bY+3,A,.grown 1,.cm 1,.grown 1,.cm 0,rfl,rfl,rfl,⟨iB,.inl rfl,.inr rfl,.inl rfl,.inr rfl⟩,⟨?_,?_,?_,?_,?_,?_,?_,?_,?_,?_⟩,?_,?_,?_,?_,?_⟩⟩
  all_goals first
   |omega
   |(simp only[Z3,seval,-ae,R,S,T,Z,m10,m20];done)
   |(simp only[Z3,seval,-ae,R,S,T,Z,m10,m20];first|exact iQ|exact Bw|exact Bv|exact uT|rfl)
 have r3:h.rd (σ.bY+2) 0 3=Ik [D,E,B]:=by rw[zN H];rfl
 obtain⟨f1,f2,f3⟩:D.one=Im/\E.one=Im/\B.one=Im:=by
  obtain⟨so,sP,sR,sC,t,c1,c2,c3,c4,c5,rfl,rfl,rfl,_⟩:=tw;exact⟨rfl,rfl,rfl⟩
 have w:h.wr σ.bY 0 [D,E,B]=Ik (h.set σ.bY [D,E,B]):=by rw[zL I,Iu ⟨by simp[wQ],by simp[f1,f2,f3]⟩];rfl
 have r4:(h.set σ.bY [D,E,B]).rd σ.bY 0 3=Ik [D,E,B]:=by rw[zZ,Iu rfl];rfl
 have LQ:=tw.set (s:=σ.bY) aH [D,E,B];have X:dq σ (h.set σ.bY [D,E,B]):=N.set (sB _) _;generalize h.set σ.bY [D,E,B]=g at *
 simp only[Z3,seval,-ae,r3,w,r4,f1,f2,f3];exact LQ.fin X aH hk
def zOi:zI [2] [[0]] [[]]:=by
 refine⟨Tx,rfl,rfl,Tx,Tx,λi m=>?_⟩;have e:i=0:=by simp only[YF,Ov]at m;omega
 subst e;refine⟨⟨⟨rfl,λj A=>?_⟩,Tx⟩,rfl,λk B=>by simp at B⟩;have e:j=0:=by simp at A;omega
 subst e;decide
def zBZ{l:Int}(so:So σ s0 vS bs)(hk:∀B D A O P C σ',eQ B D A O P C->zI O P C->Mv σ s0 σ'->So σ' s0 vS bs->K (.agg [B,D,A]) σ'):zA Tp 23 [.ptr s0 0,.int .i64 l] σ K:=by
 have bD:=so.lt;refine To Tryz.func23 ?_;refine Tq ?_;generalize S:σ.cb [Tt,Tt,Tt]=H;have eG:H.bY=σ.bY+1:=by rw[<-S];rfl
 have dP:s0<H.bY:=aH
 have bK:H.cd σ.bY=Ik wQ:=by rw[<-S];simp only[Z3,seval,-ae]
 have kK:KM σ s0 H:=by rw[<-S];exact so.kmK (zB _ _)
 have jG:So H s0 vS bs:=by rw[<-S];exact so.c7 (zB _ _)
 clear S;have fin2:∀{g:dj} {B D A:PV} {O:V1} {P:V2} {C:V3},KM σ s0 g->So g s0 vS bs->eQ B D A O P C->zI O P C->Gh σ K (.agg [B,D,A]) g:=λ{g B D A O P C} km dA E I=>
  Gh.km km dA bD λσ' m' jH kp=>Gh.fin0 kp ⟨E.O.bel _,E.P.bel _,E.C.bel _,Is⟩ (hk _ _ _ O P C σ' E I m' jH)
 have fin:∀{g:dj} {B D A:PV} {O:V1} {P:V2} {C:V3},KM H s0 g->So g s0 vS bs->eQ B D A O P C->zI O P C->
   g.wr σ.bY 0 [B,D,A]=Ik (g.set σ.bY [B,D,A])/\(g.set σ.bY [B,D,A]).rd σ.bY 0 3=Ik [B,D,A]/\Gh σ K (.agg [B,D,A]) (g.set σ.bY [B,D,A]):=λ{g B D A O P C} km dA E I=>by
  have o1:=E.O.one;have o2:=E.P.one;have o3:=E.C.one;have ob:g.cd σ.bY=Ik wQ:=by rw[km.cd aH aH];exact bK
  exact⟨by rw[zL ob,Iu ⟨by simp[wQ],by simp[o1,o2,o3]⟩];rfl,by rw[zZ,Iu rfl];rfl,fin2 ((kK.trans bD km).set (sB _) _) (dA.set aH _) E I⟩
 refine zF (λm vs g=>∃i:Nat,i<=12/\m=12-i/\vs=[.ptr s0 0,.int .i64 l,.ptr σ.bY 0,.int .i64 i]/\KM H s0 g/\So g s0 vS bs) 12 ?_ ?_
 .exact⟨0,Tx,rfl,rfl,jG.km,jG⟩
 rintro m vs g ⟨i,hi,rfl,rfl,km,fC⟩
 refine Tq ?_;refine Tr (λan=>?_) λaf=>?_
 .refine zIW (s:=g.bY) (by rw[zC,Iu rfl];rfl) (YB _) λuO uP uC E=>?_;obtain⟨f1,f2,f3⟩:=fin (km.cb [.int .i64 2]) (fC.c7 (zB _ _)) E zOi;have o1:=E.O.one;have o2:=E.P.one;have o3:=E.C.one;generalize g.cb [PV.int .i64 2]=g' at *
  simp only[Z3,seval,-ae,o1,o2,o3,f1,f2];exact f3
 have wi:Tu .i64 ((i:Int)+1)=((i+1:Nat):Int):=WQ
 refine zC9 fC λvO vP vC O5 P5 C5 J G I m1 ca=>?_;have V:=G.O.one;have W:=G.P.one;have X:=G.C.one;have iR:=(km.mv dP m1).cb [vO,vP,vC];have ET:=ca.c7 (zB J [vO,vP,vC]);have wV:=km.bY;have AQ:=m1.bY;simp only[Z3,seval,-ae,V,W,X];have ht:H.bY<=J.bY:=aH
 have cM:(J.cb [vO,vP,vC]).cd J.bY=Ik [vO,vP,vC]:=by rw[zC,Iu rfl]
 generalize J.cb [vO,vP,vC]=g2 at *
 generalize J.bY=t at *
 refine zQ (n:=3) ET Tx λx R hx m3 U=>?_;have T:=iR.mv dP m3;have Z:R.cd t=Ik [vO,vP,vC]:=by rw[m3.cd aH];exact cM
 have Y:R.rd t 0 3=Ik [vO,vP,vC]:=by rw[zN Z];rfl
 have KP:Fm 36 O5 P5 C5:=I.mono Tx;by_cases cQ:x=0
 case' pos=>
  subst cQ;simp only[Z3,seval,-ae,Y];refine zC9 U λyO yP yC O' P' C' N cI Bb m4 fK=>?_;have gE:=T.mv dP m4;have xH:N.cd t=Ik [vO,vP,vC]:=by rw[m4.cd aH];exact Z
  have r4:N.rd t 0 3=Ik [vO,vP,vC]:=by rw[zN xH];rfl
  simp only[Z3,seval,-ae,r4];refine zL8 G I cI Bb λvO vP vC O5 P5 C5 G KP=>?_;have V:=G.O.one;have W:=G.P.one;have X:=G.C.one;have w4:N.wr t 0 [vO,vP,vC]=Ik (N.set t [vO,vP,vC]):=by rw[zL xH,Iu ⟨bj,by simp[V,W,X]⟩];rfl
  have T:=gE.set ht [vO,vP,vC];have U:=fK.set (t:=t) aH [vO,vP,vC];have Z:(N.set t [vO,vP,vC]).cd t=Ik [vO,vP,vC]:=by rw[zG,Iu rfl]
  simp only[Z3,seval,-ae,r4,w4,V,W,X];generalize N.set t [vO,vP,vC]=R at *
  have Y:R.rd t 0 3=Ik [vO,vP,vC]:=by rw[zN Z];rfl
  simp only[Z3,seval,-ae,Y]
 case' neg=>
  simp only[Z3,seval,-ae,cQ,Y]
 all_goals
  refine qJ G (KP.sz Tx) λtt F8=>?_;cases tt
  .simp only[Z3,seval,-ae,wi];exact⟨_,aH,i+1,aH,rfl,rfl,T,U⟩
  have hp:=F8.1 rfl;have hO:=G.O;have Mr:R.gv t 0=Ik vO:=by rw[zH Z];rfl
  simp only[Z3,seval,-ae,Mr];refine zCb hO hp.1 hp.2.2.2.1 λr hr=>?_;by_cases hl:r<=l
  .obtain⟨f1,f2,f3⟩:=fin T U G hp;simp only[Z3,seval,-ae,hl,Y,V,W,X,f1,f2];exact f3
  .simp only[Z3,seval,-ae,hl,wi];exact⟨_,aH,i+1,aH,rfl,rfl,T,U⟩
def SmP.sz(a:SmP O P C):ti O P C:=
 ⟨by have:=a.o;omega,⟨by have:=a.p;omega,λr m=>by have:=a.pr r m;omega⟩,⟨by have:=a.c;omega,λq A=>⟨by have:=a.q q A;omega,λr m=>by have:=a.r q A r m;omega⟩⟩⟩
def zKV(I:zI O P C):SmP O P C:=by
 have m:=I.shp;have J:=m.le;obtain⟨D,G⟩:=zGZ m;refine⟨aH,λa H=>?_,by rw[m.pl];omega,λr B=>by rw[G r B];omega,by rw[m.cl];omega,λq A=>by have:=(D q A).1;omega,λq A r B=>by rw[(D q A).2 r B];omega⟩;obtain⟨j,E,rfl⟩:=YE.1 H
 have:=m.pr j E
 rw[gj E]at this;omega
def GP.smO(B:zI O M C){P':V2}{C':V3}(a:GP (λm=>m=Tw O) P' C' (Tw O) (Tw O) (λi=>(Tw O)-1-i)):SmP O P' C':=
 have G:=B.shp.le
 GP.sm (N:=(Tw O)) ⟨a.pl,a.cl,λr A=>UA (a.pq r A),a.row,λq D r A=>UA (a.cq q D r A)⟩ aH aH (zKV B).ob aH aH λi E=>by omega
def zRw{R:V1->V2->V3->Prop}(I:s0<σ.bY)(S:∀A B m O P C σ',eQ A B m O P C->R O P C->Mv σ s0 σ'->So σ' s0 vS bs->K (.agg [A,B,m]) σ')
  {g:dj} (km:KM σ s0 g) (W:So g s0 vS bs) (V:g.cd σ.bY=Ik wQ) {A B m:PV} (D:eQ A B m O P C) (N:R O P C):
  A.one=Im/\B.one=Im/\m.one=Im/\g.wr σ.bY 0 [A,B,m]=Ik (g.set σ.bY [A,B,m])/\(g.set σ.bY [A,B,m]).rd σ.bY 0 3=Ik [A,B,m]/\Gh σ K (.agg [A,B,m]) (g.set σ.bY [A,B,m]):=by
 have E:=D.O.one;have G:=D.P.one;have H:=D.C.one;refine⟨E,G,H,by rw[zL V,Iu ⟨by simp[wQ],by simp[E,G,H]⟩];rfl,by rw[zZ,Iu rfl];rfl,?_⟩;refine Gh.km (km.set (sB _) _) (W.set aH _) I λσ' U J T=>Gh.fin0 T ⟨D.O.bel _,D.P.bel _,D.C.bel _,Is⟩ (S _ _ _ O P C σ' D N U J)
def zL7{l:Int}(so:So σ s0 vS bs)(hk:∀A B m O P C σ',eQ A B m O P C->SmP O P C->Mv σ s0 σ'->So σ' s0 vS bs->K (.agg [A,B,m]) σ'):zA Tp 37 [.ptr s0 0,.int .i64 l] σ K:=by
 have bD:=so.lt;refine To Tryz.func37 ?_;refine Tq ?_;generalize Z:σ.cb [Tt,Tt,Tt]=H;have eG:H.bY=σ.bY+1:=by rw[<-Z];rfl
 have dP:s0<H.bY:=aH
 have bK:H.cd σ.bY=Ik wQ:=by rw[<-Z];simp only[Z3,seval,-ae]
 have kK:KM σ s0 H:=by rw[<-Z];exact so.kmK (zB _ _)
 have jG:So H s0 vS bs:=by rw[<-Z];exact so.c7 (zB _ _)
 clear Z;have fin:∀{g:dj} {A B m:PV} {O:V1} {P:V2} {C:V3},KM H s0 g->So g s0 vS bs->eQ A B m O P C->SmP O P C->
   A.one=Im/\B.one=Im/\m.one=Im/\g.wr σ.bY 0 [A,B,m]=Ik (g.set σ.bY [A,B,m])/\(g.set σ.bY [A,B,m]).rd σ.bY 0 3=Ik [A,B,m]/\Gh σ K (.agg [A,B,m]) (g.set σ.bY [A,B,m]):=λ{g A B m O P C} km dA E fm=>
  zRw bD hk (kK.trans bD km) dA (by rw[km.cd aH aH];exact bK) E fm
 refine zBZ jG λvO vP vC O P C Y E hp m1 fC=>?_;have o1:=E.O.one;have o2:=E.P.one;have o3:=E.C.one;have AQ:=m1.bY;have iR:=(jG.km.mv dP m1).cb [vO,vP,vC];have EX:=fC.c7 (zB Y [vO,vP,vC]);have cM:(Y.cb [vO,vP,vC]).cd Y.bY=Ik [vO,vP,vC]:=by rw[zC,Iu rfl]
 simp only[Z3,seval,-ae,o1,o2,o3];generalize Y.cb [vO,vP,vC]=g2 at *
 generalize Y.bY=t at *
 refine zQ (n:=24) EX Tx λx g3 hx m3 cX=>?_;have fE:=iR.mv dP m3;have tI:g3.cd t=Ik [vO,vP,vC]:=by rw[m3.cd aH];exact cM
 have r3:g3.rd t 0 3=Ik [vO,vP,vC]:=by rw[zN tI];rfl
 by_cases e0:x=0
 .subst e0;simp only[Z3,seval,-ae,r3];refine zL9 cX E hp λW X V O' P' C' D G sm m4 U=>?_;obtain⟨I,J,N,R,S,T⟩:=fin (fE.mv dP m4) U G sm;simp only[Z3,seval,-ae,I,J,N,R,S];exact T
 have Bk:∀{K':PV->dj->Prop},(∀W X V P' C' D,eQ W X V O P' C'->SmP O P' C'->KM H s0 D->So D s0 vS bs->K' (.agg [W,X,V]) D)->zA Tp 83 [.ptr s0 0,.agg [vO,vP,vC]] g3 K':=λcB=>
  zL6 cX E (zMm hp) λW X V P' C' D G hq m4 U=>cB W X V P' C' D G (GP.smO hp hq) (fE.mv dP m4) U
 by_cases e1:x=1
 .subst e1;simp only[Z3,seval,-ae,r3];refine Bk λW X V P' C' D G sm gE U=>?_;obtain⟨I,J,N,R,S,T⟩:=fin gE U G sm;simp only[Z3,seval,-ae,I,J,N,R,S];exact T
 by_cases e2:x=2
 .subst e2;simp only[Z3,seval,-ae,r3];refine Bk λW X V P' C' D G sm gE U=>?_;obtain⟨I,J,N,R,S,T⟩:=fin gE U G sm;simp only[Z3,seval,-ae,I,J,N,R,S];exact T
 obtain⟨I,J,N,R,S,T⟩:=fin fE cX E (zKV hp);simp only[Z3,seval,-ae,e0,e1,e2,r3,I,J,N,R,S];exact T
def ft.finKM(N:ft b 1 h v (Tw x) (eh x))(T:σ.bY<=b)(km:KM σ s0 h)(R:So h s0 vS bs)(A:s0<σ.bY)(I:∀u σ',FI u x->Mv σ s0 σ'->So σ' s0 vS bs->K u σ'):Gh σ K v h:=by
 refine Gh.km km R A λσ' m B J=>?_;have U:=m.bY;obtain⟨s,cap,rfl,D,E,G,S,H⟩:=N;exact ft.fin (σ:=σ') J ⟨s,cap,rfl,D,E,G,aH,H⟩ (zO _ _) λo cap=>I _ σ' ⟨Im,_,rfl⟩ m B
def ft.pushKM{H:dj}{y:Int}{D:PV×dj->Prop}(S:ft H.bY 1 h v (Tw x) (eh x))(U:(Tw x)<=100)(km:KM H s0 h)(T:So h s0 vS bs)(N:s0<H.bY)
  (R:∀A m,KM H s0 m->So m s0 vS bs->ft H.bY 1 m A (x++[y]).length (eh (x++[y]))->D (A,m)):iU (zW 1 8 (h.cb [.int .i64 y]) v (.sl h.bY 0 1 (.cm 1))) D:=by
 obtain⟨σ',I,G⟩:=km;have B:=I.bY;refine ft.push (σb:=σ') (bytes:=8) G (by rw[B];exact S) aH aH λA m E J=>R A m ⟨σ',I,E⟩ ((zE9 G T (by rw[B];exact N)).c7 E) ?_;have e:eh (x++[y])=eh x++[.int .i64 y]:=by simp[eh]
 rw[e,cO,<-B];exact J
section
variable{s:BS}{bs:List PV}
def QX(m:eQ vO vP vC O P C)(G:(Tw O)<=1000)(D:∀v,FI v (zv O)->K v σ):zA Tp 68 [.agg [vO,vP,vC]] σ K:=by
 have A:=m.P.one;have B:=m.C.one;obtain⟨⟨J,E,rfl⟩,H,I⟩:=m;refine To Tryz.func68 ?_;simp only[Z3,seval,-ae,A,B,E4 (n:=(Tw O)) aH,zx (n:=(Tw O)) aH,YT,zi];refine Gh.finF (s:=σ.bY+1) ((zB σ _).cb _) (cs:=eh (Jf (Tw O) 0)) (by simp only[Z3,seval,-ae,zi]) aH (zO _ _) (by simp[kv]) λo=>D _ ⟨Im,.sl o 0 (Tw O) (.cm (Tw O)),?_⟩;simp[zv]
def zDj(O:V1):∀i,ja O (zv O) i=0
 |0=>rfl
 |i+1=>by rw[ja,zDj O i,show at_ (zv O) i=0 from ZV _ _];omega
def Qz{h:dj}{s o t:Nat}{cs m:List PV}(D:h.cd t=Ik m)(A:t≠s)(B:ko 0 m):((h.kill s).sub s o cs).cd t=Ik m:=by
 simp only[dj.sub,dj.kill,Iv A,D,Kc];rw[qc (YQ _) B]
def zLm(g:LG O P C)(D:eQ vO vP vC O P C)(hL:hK vL L)(td:(Tw L)<=6)(R:∀l∈L,gS O l)(hx:gS O x)(bX:FI vx x)(hm:GC O P C L x)
  (hk:∀v k w,Fnd O P C L x k->(pY O P C L k).2[k]? = Ik w->FI v w->(Tw w)<=117649->K v σ):zA Tp 65 [.agg [vO,vP,vC],vL,vx] σ K:=by
 have A:=g.s;have F:=g.F;have bB:=A.le;have g0:=D.O.one;have g1:=D.P.one;have g2:=D.C.one;have du:=hx.len;obtain⟨hN,jX⟩:=ZN A;have s9:=ZJ A.pr (i:=(Tw O)) (sB _);have W:=pow7 (i:=(Tw O)) aH;have jb:=hL;obtain⟨wl,al,rl,rfl,dR⟩:=hL;obtain⟨wx,ax,rfl⟩:=bX;refine zA.pwf λw0=>zA.gh ?_;refine Tn Tryz.func65 ?_;simp only[Z3,seval,-ae,g0,g1,g2];refine zb A D ?_;rw[hN];have SQ:iV O<=117649:=aH
 have i0:0<iV O:=jX;simp only[Z3,seval,-ae,zx (n:=iV O) aH,show(iV O:Int)*((1:Nat):Int)<=140737488355328 by omega,i0,g0,g1,g2];have Nf:(0:Int)<(iV O:Int):=aH
 have iN:0+1<=iV O:=jX;simp only[Z3,seval,-ae,Nf,YT,iN,g0,g1,g2];refine QX D aH λv1 f1=>?_;generalize fI:(PV.bool Im::Kf 1 (Jf (iV O) (PV.bool false)))=Dz;have l0:(Tw Dz)=iV O:=by rw[<-fI];simp;omega
 simp only[Z3,seval,-ae,f1.one,f1.cells];have b0:ko 0 Dz:=by rw[<-fI];exact⟨Is,Zl.2 λc hc=>by
  have:=Jx hc
  rw[UZ this];trivial⟩
 have bq:ko 0 [vO,vP,vC]:=⟨D.O.bel 0,D.P.bel 0,D.C.bel 0,Is⟩;have gV:∀y,gS O y->Dz[(ja O y (Tw O)).toNat]? = Ik (.bool (decide (y∈[zv O]))):=λy hy=>by
  have b1:=ZK A.pr (λj hj=>hy.bd j hj) (sB (Tw O));have zS:gS O (zv O):=A.zv _;rw[<-fI];by_cases he:y=zv O
  .subst he;rw[zDj];simp
  .have aj:(ja O y (Tw O)).toNat≠0:=λh0=>he (zCK A hy zS (by rw[zDj];omega));obtain⟨q,hq⟩:∃q,(ja O y (Tw O)).toNat=q+1:=⟨_,(Nat.succ_pred_eq_of_ne_zero aj).symm⟩
   rw[hq,IU,Y0,RR,Iu aH];simp[he]
 refine qF (λm vs h'=>∃(k:Nat) (v8 v9:PV) (bs r8 r9:List PV),k<=iV O/\m=iV O-k/\vs=[.fz wl al (Tw L) rl,.fz wx ax (Tw x) (eh x),.ptr σ.bY 0,.sl (σ.bY+1) 0 (iV O) (.cm (iV O)),v8,v9,.int .i64 k]/\
  WS σ vO vP vC O (pY O P C L k) v8 v9 bs r8 r9 h'/\(∀i,i<k->i<(pY O P C L i).1.length)/\∀i,i<k->(pY O P C L i).1[i]?≠Ik x) (iV O) ?_ ?_
 .refine .fzh (σ.bY+3) [] (by simp only[Z3,seval,-ae]) trivial λo=>.here ⟨0,.sl (σ.bY+2) 0 1 (.cm 1),.sl (σ.bY+4) 0 1 (.cm 1),Dz,[v1],[.fz Im (.sl o 0 0 (.cm 0)) 0 []],aH,aH,?_,?_,λi hi=>aH,λi hi=>aH⟩
  .refine Tq ?_;simp[nD,sb]
  .refine⟨?_,?_,?_,?_,?_,gV,?_,?_,λt off l c dZ l' c' e=>?_,(ez.nil FI).snoc f1,(ez.nil FI).snoc ⟨Im,.sl o 0 0 (.cm 0),rfl⟩,?_⟩
   .exact dq.sub w0 (dq.kill (((((zB σ _).cb _).cb _).cb _).cb _) aH) aH
   .exact Qz (by simp only[Z3,seval,-ae]) aH bq
   .exact Qz (by simp only[Z3,seval,-ae]) aH b0
   .rw[l0,hN];rfl
   .exact b0
   .exact⟨σ.bY+2,.cm 1,rfl,.inr rfl,Qz (by simp only[Z3,seval,-ae]) aH ⟨f1.bel 0,Is⟩,rfl,sB _,by show σ.bY+2<σ.bY+5;omega⟩
   .refine⟨σ.bY+4,.cm 1,rfl,.inr rfl,?_,rfl,aH,by show σ.bY+4<σ.bY+5;omega⟩;have e4:(((((σ.cb [vO,vP,vC]).cb Dz).cb [v1]).cb []).cb [PV.sl (σ.bY+3) 0 0 (.cm 0)]).cd (σ.bY+4)=Ik [PV.sl (σ.bY+3) 0 0 (.cm 0)]:=by simp only[Z3,seval,-ae]
    simp only[dj.sub,dj.kill,Iv (show ¬σ.bY+4=σ.bY+3 by omega)];rw[e4];simp[nD,sb,kv]
   .grind
   .show σ.bY+2<=σ.bY+5;omega
 rintro m vs h' ⟨k,v8,v9,bs,r8,r9,Sv,rfl,rfl,v,af,JZ⟩
 have ok:=OkS.pY A F R af;have bd:=ok.bound A F R;rw[hN]at bd;have lk:=ok.len;simp only[Z3,seval,-ae,v.p8.acc.nN];refine Tr (λan=>?_) λhc=>?_
 .exact absurd hm (zNd A F g.cent R af JZ aH)
 have H:k<(pY O P C L k).1.length:=aH
 have U:k<(pY O P C L k).2.length:=aH
 obtain⟨S,c8,rfl,q1,q2,q3,q4,q5⟩:=v.p8;obtain⟨E,c9,rfl,p1,X,p3,p4,p5⟩:=v.p9;obtain⟨wa,aa,pJ⟩:=v.a8.rowI H;obtain⟨wb,ab,V⟩:=v.a9.rowI U;have e8:h'.gv S k=Ik (.fz wa aa (pY O P C L k).1[k].length (eh (pY O P C L k).1[k])):=by unfold dj.gv;rw[q2];exact pJ
 have e9:h'.gv E k=Ik (.fz wb ab (pY O P C L k).2[k].length (eh (pY O P C L k).2[k])):=by unfold dj.gv;rw[X];exact V
 have aS:gS O (pY O P C L k).1[k]:=(GC.sub F R).inS (ok.mem _ (ss H));have uG:=aS.len;have Rv:=ok.ws k U;have rK:(k:Int)<((pY O P C L k).1.length:Int):=aH
 have rJ:(k:Int)<((pY O P C L k).2.length:Int):=aH
 simp only[Z3,seval,-ae,H,U,rK,rJ,e8];refine qi rfl rfl aH ?_;by_cases cQ:(pY O P C L k).1[k]=x
 .simp only[Z3,seval,-ae,cQ,H,U,rK,rJ,e9];exact Gh.fin0 v.c7 (FI.bel ⟨wb,ab,rfl⟩ _) (hk _ k _ ⟨by rw[na H,cQ],JZ,af⟩ (na U) ⟨wb,ab,rfl⟩ aH)
 have GN:∀i,i<k+1->(pY O P C L i).1[i]?≠Ik x:=λi hi=>by
  grind
 have ah:∀i,i<k+1->i<(pY O P C L i).1.length:=λi hi=>by
  grind
 simp only[Z3,seval,-ae,cQ];obtain⟨s0,bD⟩:∃s0,pY O P C L k=s0:=⟨_,rfl⟩
 have bZ:pY O P C L (k+1)=nxt O P C L ((pY O P C L k).1[k]) ((pY O P C L k).2[k]) (Tw L) (pY O P C L k):=by
  rw[pY,YK,YK,na H,na U];rfl
 have aG:GC O P C L (pY O P C L k).1[k]:=ok.mem _ (ss H);have Pr:(pY O P C L k).1[k]? = Ik (pY O P C L k).1[k]:=na H;have Pq:(pY O P C L k).2[k]? = Ik (pY O P C L k).2[k]:=na U;generalize (pY O P C L k).1[k]=a at *
 generalize (pY O P C L k).2[k]=w at *
 clear e8 e9 pJ V;refine qF (λm vs B=>∃(j:Nat) (v8 v9:PV) (bs r8 r9:List PV),j<=Tw L/\m=Tw L-j/\vs=[.fz wl al (Tw L) rl,.fz wx ax (Tw x) (eh x),.ptr σ.bY 0,.sl (σ.bY+1) 0 (iV O) (.cm (iV O)),v8,v9,.int .i64 k,.int .i64 j]/\
  WS σ vO vP vC O (nxt O P C L a w j (pY O P C L k)) v8 v9 bs r8 r9 B) (Tw L) ?_ ?_
 .exact .here ⟨0,_,_,bs,r8,r9,aH,aH,rfl,v⟩
 clear v q1 q2 q3 q4 q5 p1 X p3 p4 p5
 rintro m vs B ⟨j,v8,v9,bs,r8,r9,hj,rfl,rfl,v⟩
 have Jp:=ok.nxt F R aG (aH:(Tw w)+1<=(pY O P C L k).1.length) hj;have pr:=zFO (O:=O) (P:=P) (C:=C) (L:=L) a w (pY O P C L k) j;have S2:=zDf pr.1 Pr;have SZ:=zDf pr.2 Pq;generalize JR:nxt O P C L a w j (pY O P C L k)=sj at *
 refine Tq ?_;refine Tr (λN6=>?_) λKo=>?_
 .have Hd:j=Tw L:=aH
  subst Hd;simp only[Z3,seval,-ae,lG H (aH:(pY O P C L k).1.length<=4611686018427387904)];exact⟨_,aH,.here ⟨k+1,v8,v9,bs,r8,r9,aH,rfl,rfl,by rw[bZ,JR];exact v,ah,GN⟩⟩
 have Z:j<Tw L:=aH
 have Re:=Jp.bound A F R;rw[hN]at Re;have R2:=Jp.len;obtain⟨wg,ag,sW⟩:=dR.rowI Z;have J8:k<Tw sj.1:=by
  grind
 have D9:k<Tw sj.2:=aH
 have PS:sj.1[k]=a:=by simp_all
 have PO:sj.2[k]=w:=by simp_all
 obtain⟨Ja,K8,pJ⟩:=v.a8.rowI J8;obtain⟨I9,K7,V⟩:=v.a9.rowI D9;rw[PS]at pJ;rw[PO]at V;have vv:=v;obtain⟨S,c8,rfl,q1,q2,q3,q4,q5⟩:=v.p8;obtain⟨E,c9,rfl,p1,X,p3,p4,p5⟩:=v.p9;have e0:B.rd σ.bY 0 3=Ik [vO,vP,vC]:=by rw[zN v.box];rfl
 have e8:B.gv S k=Ik (.fz Ja K8 (Tw a) (eh a)):=by unfold dj.gv;rw[q2];exact pJ
 have e9:B.gv E k=Ik (.fz I9 K7 (Tw w) (eh w)):=by unfold dj.gv;rw[X];exact V
 have rK:(k:Int)<(Tw sj.1:Int):=aH
 have rJ:(k:Int)<(Tw sj.2:Int):=aH
 have lS:=R _ (ss Z);simp only[Z3,seval,-ae,e0,J8,D9,rK,rJ,e8,Z,sW];refine zV A D aS lS ⟨Ja,K8,rfl⟩ ⟨wg,ag,rfl⟩ λvy J=>?_;have u5:=F.g.cl aS lS;have yb:=ZK A.pr (λj hj=>u5.bd j hj) (sB (Tw O));obtain⟨nn,jg⟩:∃nn:Nat,ja O (gm O P C a L[j]) (Tw O)=(nn:Int):=⟨_,(Yi yb.1).symm⟩
 have Jt:nn<iV O:=aH
 have BC:(nn:Int)<(iV O:Int):=aH
 have Ej:=v.bv _ u5;rw[jg]at Ej;have e7:B.gv (σ.bY+1) nn=Ik (.bool (decide (gm O P C a L[j]∈sj.1))):=by unfold dj.gv;rw[v.seen];exact Ej
 simp only[Z3,seval,-ae,e0,J.one];refine qU A D u5 J ?_;rw[jg];simp only[Z3,seval,-ae,Jt,BC,e7];have JY:nxt O P C L a w (j+1) (pY O P C L k)=vst sj (gm O P C a L[j]) (w++[(j:Int)+1]):=by
  rw[nxt,JR,YK,na Z];rfl
 have wj:=WX Z;refine fi (λcD=>?_) λCr=>?_
 .refine⟨(Tw L)-(j+1),aH,.here ⟨j+1,_,_,bs,r8,r9,aH,rfl,by rw[wj],?_⟩⟩;rw[JY];unfold vst;rw[Iu cD];exact vv
 simp only[Z3,seval,-ae,e0,J.one];refine qU A D u5 J ?_;rw[jg];have tA:nn<Tw bs:=by rw[v.bl];omega
 simp only[Z3,seval,-ae,Jt,BC,zRz v.seen tA (show PV.one (.bool Im)=Im from rfl),J.one,J.cells];have Nr:=ft.setO (t:=σ.bY+1) vv.p8 aH (bs.set nn (.bool Im));have RY:=v.nx;refine ft.pushB (σb:=σ) (b:=σ.bY+2) (v.c7.set (Yb _) _) aH v.nx Nr aH λRz G k5 a5 o5 n5 l5=>?_;have s5:∀t,t<B.bY->t≠S->t≠σ.bY+1->G.cd t=B.cd t:=λt h1 h2 h4=>by
  rw[o5 t h1 λoff l c e=>h2 (by simp only[PV.sl.injEq]at e;exact e.1.symm),zG,Iv h4]
 have t98:E≠S:=λe=>v.ne S 0 _ c8 0 _ c9 rfl (by rw[e]);have R5:B.bY<G.bY:=l5;have PU:G.gv E k=Ik (.fz I9 K7 (Tw w) (eh w)):=by unfold dj.gv;rw[s5 E p5 t98 aH,X];exact V
 simp only[Z3,seval,-ae,a5.one,D9,rJ,PU];refine zl rfl aH λcap cV=>?_;simp only[Z3,seval,-ae,wj];have pA:fB G.bY 1 (G.cb (eh w)) (.sl G.bY 0 (Tw w) cap) (Tw w) (eh w):=.inr ⟨G.bY,cap,rfl,cV,by rw[zC,Iu rfl],by rw[zK];omega,sB _,YB _⟩;refine fB.push (bytes:=8) (σb:=G) (h:=G.cb (eh w)) (zB _ _) pA aH aH λvR h6 N a6=>?_;obtain⟨T,cR,rfl,Ok,x2,x3,x4,x5⟩:=a6;have Jd:ft (σ.bY+2) 1 h6 (.sl E 0 (Tw sj.2) c9) (Tw sj.2) r9:=⟨E,c9,rfl,p1,by rw[N.cd E aH,s5 E p5 t98 aH];exact X,p3,p4,by have:=N.bY;omega⟩
 refine Tq ?_;refine ft.pushB (σb:=σ) (b:=σ.bY+2) (k5.trans N) aH (by have:=N.bY;omega) Jd aH λJd W k7 a7 o7 n7 l7=>?_;simp only[Z3,seval,-ae,wj];have On:ko 0 (eh w++[.int .i64 ((j+1:Nat):Int)]):=by
  have:=zO 0 (w++[((j+1:Nat):Int)])
  simpa [eh]using this
 have x7:W.cd T=Ik (eh w++[.int .i64 ((j+1:Nat):Int)]):=by
  rw[o7 T x5 λoff l c e=>by simp only[PV.sl.injEq]at e;omega];exact x2
 have R3:=N.bY;have s7:∀t,t<B.bY->t≠S->t≠E->t≠σ.bY+1->W.cd t=B.cd t:=λt h1 h2 h4 h8=>by
  rw[o7 t aH λoff l c e=>h4 (by simp only[PV.sl.injEq]at e;exact e.1.symm),N.cd t aH,s5 t h1 h2 h8]
 have uD:vst sj (gm O P C a L[j]) (w++[(j:Int)+1])=(sj.1++[gm O P C a L[j]],sj.2++[w++[(j:Int)+1]]):=by
  unfold vst;rw[Iv Cr]
 obtain⟨I,d8,rfl,y1,y2,y3,y4,y5⟩:=a5;obtain⟨Y,d9,rfl,z1,z2,z3,z4,z5⟩:=a7;have RC:B.bY<=I:=by
  rcases YY I B.bY with q|q
  .exact absurd rfl (n5 I q 0 _ d8)
  .exact q
 have RB:h6.bY<=Y:=by
  grind
 refine⟨(Tw L)-(j+1),aH,.fzh T _ x7 On λo1=>.here ⟨j+1,.sl I 0 (Tw sj.1+1) d8,.sl Y 0 (Tw sj.2+1) d9,bs.set nn (.bool Im),r8++[vy],r9++[.fz Im (.sl o1 0 (Tw w+1) cR) (Tw w+1) (eh w++[.int .i64 ((j+1:Nat):Int)])],aH,rfl,?_,?_⟩⟩
 .have n1:¬I=T:=aH
  have n2:¬Y=T:=aH
  have n3:¬σ.bY+1=T:=aH
  simp only[nD,sb,n1,n2,n3,false_and,if_false]
 rw[JY];have Rf:ko 0 (r8++[vy]):=(v.a8.snoc J).bI 0;have rM:ko 0 (bs.set nn (.bool Im)):=ko.setB v.be (v:=.bool Im) (by exact trivial) nn;have mk:=zNf (w:=w++[(j:Int)+1]) A u5 v.bl v.bv Cr;rw[jg]at mk;refine⟨?_,?_,?_,by rw[Yx];exact v.bl,rM,mk,?_,?_,λt off l c dZ l' c' e=>?_,?_,?_,?_⟩
 .exact dq.sub w0 (k7.kill aH) aH
 .exact Qz (by rw[s7 σ.bY aH aH aH aH];exact v.box) aH bq
 .refine Qz ?_ aH rM;rw[o7 _ aH (λoff l c e=>by simp only[PV.sl.injEq]at e;omega),N.cd _ aH,o5 _ (by show σ.bY+1<B.bY;omega) (λoff l c e=>by simp only[PV.sl.injEq]at e;omega),zG,Iu rfl]
 .rw[uD];show ft _ _ _ _ (sj.1++[gm O P C a L[j]]).length _;rw[cO,Yk];refine⟨I,d8,rfl,y1,?_,by simpa using y3,y4,by show I<W.bY;omega⟩;refine Qz ?_ aH Rf;rw[o7 I aH (λoff l c e=>by simp only[PV.sl.injEq]at e;omega),N.cd I y5];exact y2
 .rw[uD];show ft _ _ _ _ (sj.2++[w++[(j:Int)+1]]).length _;rw[cO,Yk];refine⟨Y,d9,rfl,z1,?_,by simpa using z3,z4,by show Y<W.bY;exact z5⟩;have n2:¬Y=T:=aH
  simp only[dj.sub,dj.kill,Iv n2,z2,Kc];rw[zBo (v.a9.bI 0) Ok.ok]
 .grind
 .rw[uD];exact v.a8.snoc J
 .rw[uD];refine v.a9.snoc ⟨Im,.sl o1 0 (Tw w+1) cR,?_⟩;simp[eh]
 .show σ.bY+2<=W.bY;omega
end
def CRes(O:V1)(P:V2)(C:V3)(k:Int)(G:List sg)(L:V2)(c:Int):Prop:=
 (¬zI O P C/\(k=0/\G=[]/\L=[])/\c=1)\/(zI O P C/\128<jW O (Tw O)/\(k=0/\G=[]/\L=[])/\c=3)\/(zI O P C/\jW O (Tw O)<=128/\¬Cons O P C/\(k=0/\G=[]/\L=[])/\c=4)\/
 (zI O P C/\jW O (Tw O)<=128/\Cons O P C/\(k=1/\G=[(O,P,C)]/\L=FY O P C)/\c=0)
def kz.append{A t m:Nat}{a b:List PV}(h:kz A t a)(g:kz t m b)(E:A<=t)(G:t<=m):kz A m (a++b):=by
 refine⟨qg.2 λc hc=>?_,?_,λo ho=>?_⟩
 .rcases YZ.1 hc with hc|hc
  .exact qg.1 h.wh c hc
  .exact qg.1 g.wh c hc
 .rw[zU,LD];refine⟨h.nd,g.nd,λx B y D e=>?_⟩
  have:=h.lt x B
  have:=g.lt y D
  omega
 .rw[zU,YZ]at ho;rcases ho with ho|ho
  .have:=h.lt o ho;omega
  .have:=g.lt o ho;omega
def zA2{w:Bool}{a:AV}:FG (.fz w a 0 []) []:=⟨w,a,[],rfl,ez.nil _⟩
def zFk{w:Bool}{a:AV}{A B m:PV}(h:eQ A B m O P C):FG (.fz w a 1 [A,B,m]) [(O,P,C)]:=⟨w,a,[(A,B,m)],rfl,(ez.nil FI3).snoc h⟩
def zPr{hE:dj}{g:Nat}{A B m vL:PV}{L:V2}(I:dq σ hE)(R:hE.cd g=Ik [A,B,m])(G:σ.bY<=g)(D:eQ A B m O P C)(E:hK vL L)
  (k:∀o,σ.top<=o->o∉z8 [A,B,m]->o∉mP vL->σ.top<=max hE.top (o+1)->K (.tup [.agg [.int .i64 1,.fz Im (.sl o 0 1 (.cm 1)) 1 [A,B,m],vL],.int .i64 0]) (σ.up (max hE.top (o+1)))):Gh σ K (.tup [.agg [.int .i64 1,.sl g 0 1 (.cm 1),vL],.int .i64 0]) hE:=by
 refine Gh.freeze (s:=g) (cs:=[A,B,m]) R G ⟨D.O.bel 0,D.P.bel 0,D.C.bel 0,Is⟩ λo S N H=>?_;have T:sb g o [A,B,m] vL=vL:=E.sb _ _ _;simp only[sb,nD,T,kv,and_self,if_true,decide_true,sB];have J:o∉mP vL:=by
  simp only[mP,z8,Yn,YL]at H;exact H
 exact Gh.fin0T (t:=max hE.top (o+1)) ((I.kill G).up (by simp only[dj.kill];omega)) (sB _) ⟨⟨Is,Is,E.bel _,Is⟩,Is,Is⟩ λ_=>k o S N J (by have:=I.top;omega)
def zDY(sz:ti O P C)(A:eQ vO vP vC O P C)
  (Z:∀k G L vG vL c t,CRes O P C k G L c->FG vG G->hK vL L->σ.top<=t->K (.tup [.agg [.int .i64 k,vG,vL],.int .i64 c]) (σ.up t)):zA Tp 25 [.agg [vO,vP,vC]] σ K:=by
 have B:=A.O.one;have D:=A.P.one;have E:=A.C.one;have T:dq σ ((σ.cb [vO,vP,vC]).cb [.int .i64 0,Tt,Tt]):=(zB _ _).cb _;have U:∀{c:Int} {g:dj},dq σ g->CRes O P C 0 [] [] c->Gh σ K (.tup [.agg [.int .i64 0,Tt,Tt],.int .i64 c]) g:=λ{c g} S h=>
  Gh.fin0T S S.top ⟨⟨Is,Is,Is,Is⟩,Is,Is⟩ λ_=>Z 0 [] [] _ _ c σ.top h zA2 ⟨Im,.cU,[],rfl,ez.nil _⟩ (sB _)
 have IF:∀{hE:dj} {g:Nat} {X Y W vL:PV},zI O P C->jW O (Tw O)<=128->Cons O P C->dq σ hE->hE.cd g=Ik [X,Y,W]->σ.bY<=g->eQ X Y W O P C->hK vL (FY O P C)->Gh σ K (.tup [.agg [.int .i64 1,.sl g 0 1 (.cm 1),vL],.int .i64 0]) hE:=λH J R S ho hg m I=>
  zPr S ho hg m I λo _ _ _ h3=>Z 1 [(O,P,C)] (FY O P C) _ _ 0 _ (.inr (.inr (.inr ⟨H,J,R,⟨rfl,rfl,rfl⟩,rfl⟩))) (zFk m) I h3
 refine zA.gh ?_;refine zt mix Tryz.func25 cf25 rfl ?_;dsimp only[if25,qI,eI,qD,eD,kI0,LI0,BY,nI0,C1,I0,vI0,wD0,R0,S0];simp only[Z3,seval,-ae,B,D,E];refine qJ A sz λt N=>?_;cases t with
 |false=>
  simp only[Z3,seval,-ae,B,D,E];exact U T (.inl ⟨λh=>(by cases N.2 h),⟨rfl,rfl,rfl⟩,rfl⟩)
 |true=>
 have H:=N.1 rfl;have s:=H.shp;have bB:=s.le;simp only[Z3,seval,-ae,B,D,E];refine zb s A ?_;by_cases V:128<jW O (Tw O)
 .simp only[Z3,seval,-ae,V];exact U T (.inr (.inl ⟨H,V,⟨rfl,rfl,rfl⟩,rfl⟩))
 have J:jW O (Tw O)<=128:=aH
 simp only[Z3,seval,-ae,V,B,D,E];refine zAx s A λt N=>?_;cases t with
 |false=>
  simp only[Z3,seval,-ae,B,D,E];exact U T (.inr (.inr (.inl ⟨H,J,λh=>(by cases N.2 h),⟨rfl,rfl,rfl⟩,rfl⟩)))
 |true=>
 have R:=N.1 rfl;have z3:gH (jE [.cU,.cU,.cU] 1)=[Tt,Tt,Tt]:=rfl;have nn:¬σ.bY=σ.bY+2:=aH
 simp only[Z3,seval,-ae,B,D,E,Qc,uk,uE,qY,qX]
 repeat' apply se
 all_goals (refine Z9 A sz λX Y W m=>?_)
 all_goals (simp only[Z3,seval,-ae,B,D,E,z3,m.O.one,m.P.one,m.C.one,Qc,uk,uE,qY,qX])
 all_goals (repeat' apply se)
 all_goals (refine zIT H R A J λvL I=>?_)
 all_goals (simp only[Z3,seval,-ae,z3,m.O.one,m.P.one,m.C.one,I.one,I.cells,Qc,uk,uE,qY,qX])
 all_goals (exact IF (g:=σ.bY+2) H J R (((zB σ _).cb _).cb _) (by simp only[Z3,seval,-ae]) aH m I)
def zD2(sz:ti O P C)(E:eQ vO vP vC O P C)
  (H:∀k G L m vL c,CRes O P C k G L c->FG m G->hK vL L->K (.tup [.agg [.int .i64 k,m,vL],.int .i64 c]) σ):zA Tp 25 [.agg [vO,vP,vC]] σ K:=
 zA.notop (p:=λv _=>∃k G L m vL c,v=.tup [.agg [.int .i64 k,m,vL],.int .i64 c]/\CRes O P C k G L c/\FG m G/\hK vL L)
  (λK' J=>zDY sz E λk G L m vL c t D A B I=>J _ t ⟨⟨Is,A.bel _,B.bel _,Is⟩,Is,Is⟩ ⟨k,G,L,m,vL,c,rfl,D,A,B⟩ I)
  λv t ⟨k,G,L,m,vL,c,e,D,A,B⟩=>by rw[e];exact H k G L m vL c D A B
def Gh.pwf{v:PV}(c:PWF σ->Gh σ K v h):Gh σ K v h:=λw=>c w w
def kz.comm{D A:Nat}{a b:List PV}(h:kz D A (a++b)):kz D A (b++a):=by
 have G:=qg.1 h.wh;have E:=h.nd;rw[zU]at E;refine⟨qg.2 λc m=>G c ?_,?_,λo B=>h.lt o ?_⟩
 .rw[YZ]at m ⊢;exact m.symm
 .rw[zU];exact List.perm_append_comm.nodup_iff.1 E
 .rw[zU,YZ]at B ⊢;exact B.symm
def kz.ins{A B hi' o l:Nat}{cap:nK}{a b:List PV}{xs:V1}(h:kz A B (a++b))(H:A<=o)(I:o<hi')(N:B<=hi')(R:o∉lH (a++b)):kz A hi' (a++.fz Im (.sl o 0 l cap) l (eh xs)::b):=by
 have e:∀{c:List PV},lH (c++eh xs)=lH c:=λ{c}=>by rw[zU,zP2,YL]
 have g:=kz.comm h;have G:kz A B ((b++a)++eh xs):=⟨qg.2 λc J=>(YZ.1 J).elim (qg.1 g.wh c) (qg.1 (zRS xs) c),by rw[e];exact g.nd,λo m=>g.lt o (by rw[e]at m;exact m)⟩
 have D:=kz.last (l:=l) (cap:=cap) G H I N (by
  rw[e];intro m;apply R;rw[zU,YZ]at m ⊢;exact m.symm)
 rw[YH]at D;have E:=kz.comm D;rw[YH]at E;exact E
def ft.catK{σb h:dj}{bytes n m:Nat}{w:Bool}{av:AV}{v:PV}{cs news:List PV}{K:PV×dj->Prop}(E:dq σb h)(a:ft σb.bY 1 h v n cs)(N:(Tw news)=m)
  (H:(n+m)*bytes<=140737488355328) (I:n+m<=4611686018427387904) (k:∀A h',dq σb h'->ft σb.bY 1 h' A (n+m) (cs++news)->(∀t,t<h.bY->(∀off l c,v≠.sl t off l c)->h'.cd t=h.cd t/\∀off l c,A≠.sl t off l c)->h.bY<=h'.bY->h'.top=h.top->K (A,h')):iU (zW 1 bytes h v (.fz w av m news)) K:=by
 by_cases B:m=0
 .subst B
  have:news=[]:=YM N
  subst this;rw[ZM,show BO (.fz w av 0 [])=Ik 0 from rfl];simp only[YG,if_true];have hs:EE v=Ik v:=by
   obtain⟨s,cap,rfl,J,X,Y,Z,q5⟩:=a;rcases J with rfl|rfl
   .rfl
   .rw[zEA,Iu (sB _)]
  rw[hs];exact qo rfl (k _ _ E (by rw[YL];exact a) (λt _ D=>⟨rfl,D⟩) (sB _) rfl)
 .refine zEb (fB.appS (m:=m) E (.inr a) rfl B (by rw[zBI,Iv B,Iu ⟨sB _,aH,aH⟩,YU aH]) aH H I λA h' R S T U V W=>?_);exact k A h' R S (λt G D=>⟨T t G D,U t G⟩) (Ye V) W
def zOG{hE:dj}{g:Nat}{A B m vL:PV}{L:V2}(I:dq σ hE)(R:hE.cd g=Ik [A,B,m])(G:σ.bY<=g)(D:eQ A B m O P C)(E:hK vL L)
  (k:∀o,σ.top<=o->o∉z8 [A,B,m]->o∉mP vL->σ.top<=max hE.top (o+1)->K (.tup [.agg [.int .i64 3,.fz Im (.sl o 0 1 (.cm 1)) 1 [A,B,m],vL],.int .i64 0]) (σ.up (max hE.top (o+1)))):Gh σ K (.tup [.agg [.int .i64 3,.sl g 0 1 (.cm 1),vL],.int .i64 0]) hE:=by
 refine Gh.freeze (s:=g) (cs:=[A,B,m]) R G ⟨D.O.bel 0,D.P.bel 0,D.C.bel 0,Is⟩ λo S N H=>?_;have T:sb g o [A,B,m] vL=vL:=E.sb _ _ _;simp only[sb,nD,T,kv,and_self,if_true,decide_true,sB];have J:o∉mP vL:=by
  simp only[mP,z8,Yn,YL]at H;exact H
 exact Gh.fin0T (t:=max hE.top (o+1)) ((I.kill G).up (by simp only[dj.kill];omega)) (sB _) ⟨⟨Is,Is,E.bel _,Is⟩,Is,Is⟩ λ_=>k o S N J (by have:=I.top;omega)
def zRF{I E G D fx:PV}{rows:List PV}{M:V2}{s1 g m:Nat}{z:Int}(kk:dq σ hE)(a:ft σ.bY 1 hE I m ([fx,.sl s1 0 1 (.cm 1)]++rows))(h1:hE.cd s1=Ik [.int .i64 z])(J:σ.bY<=s1)(Z:hE.cd g=Ik [E,G,D])(kD:σ.bY<=g)(Ge:g≠s1)
  (n1:∀off l c,I≠.sl s1 off l c) (n2:∀off l c,I≠.sl g off l c) (H:eQ E G D O P C) (N:FI fx x) (hr:ez FI rows M) (hm:m=Tw M+2)
  (k:∀S vL t,FG S [(O,P,C)]->hK vL ([x,[z]]++M)->σ.top<=t->(kz σ.top hE.top ([E,G,D]++(fx::rows))->kz σ.top t [S,vL])->K (.tup [.agg [.int .i64 3,S,vL],.int .i64 0]) (σ.up t)):
  Gh σ K (.tup [.agg [.int .i64 3,.sl g 0 1 (.cm 1),I],.int .i64 0]) hE:=by
 refine Gh.pwf λw=>?_;obtain⟨t,c,rfl,q1,q2,q3,R,q5⟩:=a;have ts:¬t=s1:=λe=>n1 0 m c (by rw[e]);have tg:¬t=g:=λe=>n2 0 m c (by rw[e]);have Y:¬g=t:=λe=>tg e.symm;have gs:¬g=s1:=Ge;have T:ko 0 [E,G,D]:=⟨H.O.bel 0,H.P.bel 0,H.C.bel 0,Is⟩;have U:=hr.bI 0;refine Gh.freezeH h1 J ⟨Is,Is⟩ λA i1 V _=>?_;simp only[sb,nD,gs,ts,false_and,if_false];have mN:dq σ (((hE.kill s1).sub s1 A [.int .i64 z]).up (max hE.top (A+1))):=(dq.sub w (kk.kill J) J).up (by simp only[dj.sub,dj.kill];omega);have wV:(((hE.kill s1).sub s1 A [.int .i64 z]).up (max hE.top (A+1))).cd g=Ik [E,G,D]:=by
  simp only[dj.up,dj.sub,dj.kill,Iv gs,Z,Kc];rw[qc (YQ _) T]
 have tS:(((hE.kill s1).sub s1 A [.int .i64 z]).up (max hE.top (A+1))).cd t=Ik ([fx,.fz Im (.sl A 0 1 (.cm 1)) 1 [.int .i64 z]]++rows):=by
  simp only[dj.up,dj.sub,dj.kill,Iv ts,q2,Kc];rw[zAX,qc (YQ _) U];simp only[nD,N.sb];rw[sb,Iu (by simp[kv])]
 have bc:ko 0 ([fx,.fz Im (.sl A 0 1 (.cm 1)) 1 [.int .i64 z]]++rows):=⟨N.bel 0,Is,U⟩;have LR:(((hE.kill s1).sub s1 A [.int .i64 z]).up (max hE.top (A+1))).top=max hE.top (A+1):=rfl;generalize ((hE.kill s1).sub s1 A [.int .i64 z]).up (max hE.top (A+1))=H1 at *
 refine Gh.freezeH tS R bc λB i2 W _=>?_;have cV:kv c m=Im:=q1.ok;simp only[sb,nD,Y,false_and,if_false,and_self,true_and,cV,if_true];have jA:=(dq.sub (s:=t) (o:=B) (cs:=[fx,.fz Im (.sl A 0 1 (.cm 1)) 1 [.int .i64 z]]++rows) w (mN.kill R) R).up (t:=max H1.top (B+1)) (by simp only[dj.sub,dj.kill];omega);have lj:(((H1.kill t).sub t B ([fx,.fz Im (.sl A 0 1 (.cm 1)) 1 [.int .i64 z]]++rows)).up (max H1.top (B+1))).cd g=Ik [E,G,D]:=by
  simp only[dj.up,dj.sub,dj.kill,Iv Y,wV,Kc];rw[qc (YQ _) T]
 have Jg:(((H1.kill t).sub t B ([fx,.fz Im (.sl A 0 1 (.cm 1)) 1 [.int .i64 z]]++rows)).up (max H1.top (B+1))).top=max H1.top (B+1):=rfl;generalize ((H1.kill t).sub t B ([fx,.fz Im (.sl A 0 1 (.cm 1)) 1 [.int .i64 z]]++rows)).up (max H1.top (B+1))=H2 at *
 have X:hK (.fz Im (.sl B 0 m c) m ([fx,.fz Im (.sl A 0 1 (.cm 1)) 1 [.int .i64 z]]++rows)) ([x,[z]]++M):=by
  refine⟨Im,.sl B 0 m c,[fx,.fz Im (.sl A 0 1 (.cm 1)) 1 [.int .i64 z]]++rows,by rw[hm];simp,?_⟩;exact ez.append (((ez.nil FI).snoc N).snoc ⟨Im,_,rfl⟩) hr
 refine zOG jA lj kD H X λo3 i3 f3 f4 BX=>k _ _ _ (zFk H) X BX λow=>?_;have a1:A∉lH ([E,G,D,fx]++rows):=by
  rw[show [E,G,D,fx]++rows=[E,G,D]++(fx::rows) from rfl,zU,YZ]
  rintro(hm|hm)
  .exact V g _ Z (zf hm)
  .refine V t _ q2 (zf ?_);simp only[lH,YZ,Yy,Yn]at hm ⊢;rcases hm with hm|hm
   .exact .inl hm
   .exact .inr (.inr hm)
 have Fy:kz σ.top (max hE.top (A+1)) ([E,G,D]++([fx,.fz Im (.sl A 0 1 (.cm 1)) 1 [.int .i64 z]]++rows)):=
  kz.ins (a:=[E,G,D,fx]) (b:=rows) (xs:=[z]) ow i1 aH aH a1
 have a2:B∉lH ([E,G,D]++([fx,.fz Im (.sl A 0 1 (.cm 1)) 1 [.int .i64 z]]++rows)):=by
  rw[zU,YZ]
  rintro(hm|hm)
  .exact W g _ wV (zf hm)
  .exact W t _ tS (zf hm)
 have By:=kz.last (l:=m) (cap:=c) Fy i2 (hi':=max H1.top (B+1)) aH aH a2;have Bz:=kz.comm By;have a3:o3∉lH ([.fz Im (.sl B 0 m c) m ([fx,.fz Im (.sl A 0 1 (.cm 1)) 1 [.int .i64 z]]++rows)]++[E,G,D]):=by
  rw[zU,YZ]
  rintro(hm|hm)
  .refine f4 (zAM ?_);simpa only[lH,YL]using hm
  .exact f3 (zf hm)
 have Bx:=kz.last (l:=1) (cap:=.cm 1) Bz i3 (hi':=max H2.top (o3+1)) aH aH a3;exact kz.comm (a:=[_]) (b:=[_]) Bx
def E6(O:V1)(P:V2)(C:V3)(L:V2)(x:V1):Prop:=
 ((zI O P C/\Cons O P C)/\∀y∈L,wJ O y)/\Tw L<=6/\wJ O x
def ORes(O:V1)(P:V2)(C:V3)(L:V2)(x:V1)(k:Int)(G:List sg)(Z:V2)(c:Int):Prop:=
 (¬E6 O P C L x/\(k=0/\G=[]/\Z=[])/\c=1)\/(E6 O P C L x/\GC O P C L x/\(k=0/\G=[]/\Z=[])/\c=4)\/
 (E6 O P C L x/\¬GC O P C L x/\(k=3/\G=[(O,P,C)]/\∃u,sA O (GC O P C L) u/\Z=[x,[(Tw L:Int)]]++(L++u))/\c=0)
def E6.lg(h:E6 O P C L x):LG O P C:=⟨h.1.1.1,h.1.1.2⟩
def E6.gs(h:E6 O P C L x):∀y∈L,gS O y:=λy m=>(h.1.2 y m).gS
def E6.sub(h:E6 O P C L x):gB O P C (GC O P C L):=GC.sub h.lg.F h.gs
def zJM(m:eQ vO vP vC O P C)(sz:ti O P C)(I:FI vx x)(S:(Tw x)<=1048576)(H:∀t:Bool,(t=Im↔(zI O P C/\Cons O P C)/\wJ O x)->K (.bool t) σ):zA Tp 116 [.agg [vO,vP,vC],vx] σ K:=by
 have J:=@Ts
 have D:=m.O.one;have E:=m.P.one;have G:=m.C.one;refine To Tryz.func116 ?_;simp only[Z3,seval,-ae,D,E,G,I.one];refine ZB m sz λt B=>?_;cases t with
 |false=>
  refine Tq ?_;exact Gh.fin0 (zB σ _) trivial (H _ (J λh=>by cases B.2 h.1))
 |true=>
  simp only[Z3,seval,-ae,D,E,G];have N:=(B.1 rfl).1;refine zC6 m sz.O N.isp I S λT R=>?_;refine Tq ?_;exact Gh.fin0 (zB σ _) trivial (H _ (R.trans ⟨λh=>⟨B.1 rfl,h⟩,λh=>h.2⟩))
def zAv(m:eQ vO vP vC O P C)(sz:ti O P C)(N:hK vL L)(S:CV L)(R:FI vx x)(W:(Tw x)<=1048576)(D:∀t:Bool,(t=Im↔E6 O P C L x)->K (.bool t) σ):zA Tp 62 [.agg [vO,vP,vC],vL,vx] σ K:=by
 have E:=@Ts
 have G:=m.O.one;have H:=m.P.one;have I:=m.C.one;have U:=N;obtain⟨wl,al,Y,rfl,X⟩:=N;refine To Tryz.func62 ?_;simp only[Z3,seval,-ae,G,H,I,R.one];refine zJM m sz R W λt B=>?_;cases t with
 |false=>
  refine Tq ?_;exact Gh.fin0 (zB σ _) trivial (D _ (E λh=>by cases B.2 ⟨h.1.1,h.2.2⟩))
 |true=>
  by_cases J:(Tw L)<=6
  .have jc:(Tw L:Int)<=6:=aH
   simp only[Z3,seval,-ae,jc,G,H,I];have T:=(B.1 rfl).1.1;refine zBw m sz.O T.isp U S λZ V=>?_;refine Tq ?_;exact Gh.fin0 (zB σ _) trivial (D _ (V.trans ⟨λh=>⟨⟨(B.1 rfl).1,h⟩,J,(B.1 rfl).2⟩,λh=>h.1.2⟩))
  .have jc:¬(Tw L:Int)<=6:=aH
   simp only[Z3,seval,-ae,jc];exact Gh.fin0 (zB σ _) trivial (D _ (E λh=>J h.2.1))
def zEP{h:dj}{s:Nat}{cs vs:List PV}(B:h.cd s=Ik cs)(A:(Tw vs)=Tw cs)(m:vs.all PV.one=Im):h.wr s 0 vs=Ik (h.set s vs):=by
 simp[dj.wr,B,A,m]
def zFy(sz:ti O P C)(D:eQ vO vP vC O P C)(hL:hK vL L)(X:CV L)(hx:FI vx x)(oo:(Tw x)<=1048576)
  (hk:∀k G Z U vZ c t,ORes O P C L x k G Z c->FG U G->hK vZ Z->σ.top<=t->K (.tup [.agg [.int .i64 k,U,vZ],.int .i64 c]) (σ.up t)):zA Tp 27 [.agg [vO,vP,vC],vL,vx] σ K:=by
 have E:=D.O.one;have I:=D.P.one;have J:=D.C.one;have W:dq σ ((σ.cb [vO,vP,vC]).cb [.int .i64 0,Tt,Tt]):=(zB _ _).cb _;have dK:∀{c:Int} {g:dj},dq σ g->ORes O P C L x 0 [] [] c->Gh σ K (.tup [.agg [.int .i64 0,Tt,Tt],.int .i64 c]) g:=λ{c g} kk h=>
  Gh.fin0T kk kk.top ⟨⟨Is,Is,Is,Is⟩,Is,Is⟩ λ_=>hk 0 [] [] _ _ c σ.top h zA2 ⟨Im,.cU,[],rfl,ez.nil _⟩ (sB _)
 have jb:=hL;obtain⟨wl,al,rl,rfl,dR⟩:=hL;have cQ:=hx;obtain⟨wx,ax,rfl⟩:=hx;refine To Tryz.func27 ?_;simp only[Z3,seval,-ae,E,I,J];refine zAv D sz jb X cQ oo λt A=>?_;cases t with
 |false=>
  simp only[Z3,seval,-ae,E,I,J];exact dK W (.inl ⟨λh=>(by cases A.2 h),⟨rfl,rfl,rfl⟩,rfl⟩)
 |true=>
 have B:=A.1 rfl;have lg:=B.lg;simp only[Z3,seval,-ae,E,I,J];refine Zt lg D jb X B.gs λvU u Y hu=>?_;have iu:=hu.len;have bB:=lg.s.le;simp only[Z3,seval,-ae,E,I,J,Y.one];refine zC4 lg D B.sub Y hu B.2.2.gS cQ λt A=>?_;cases t with
 |true=>
  simp only[Z3,seval,-ae,E,I,J];exact dK W (.inr (.inl ⟨B,A.1 rfl,⟨rfl,rfl,rfl⟩,rfl⟩))
 |false=>
 have v7:¬GC O P C L x:=λh=>by cases A.2 h
 refine Tq ?_;refine zAH rfl aH λV=>?_;have h6:=B.2.1;refine Tq ?_;refine Zh jb X λvg fg=>?_;obtain⟨wg,ag,rg,rfl,sW⟩:=fg;obtain⟨wu,au,ru,rfl,AJ⟩:=Y;generalize N:(((σ.cb [vO,vP,vC]).cb [PV.int .i64 0,Tt,Tt]).cb [PV.int .i64 ↑(Tw L)]).cb [PV.fz Im V (Tw x) (eh x),PV.sl (σ.bY+2) 0 1 (nK.cm 1)]=H at *
 have kH:dq σ H:=by rw[<-N];exact((W.cb _).cb _)
 have nH:H.bY=σ.bY+4:=by rw[<-N];rfl
 have e0:H.cd σ.bY=Ik [vO,vP,vC]:=by rw[<-N];simp only[Z3,seval,-ae]
 have e1:H.cd (σ.bY+1)=Ik [.int .i64 0,Tt,Tt]:=by rw[<-N];simp only[Z3,seval,-ae]
 have e2:H.cd (σ.bY+2)=Ik [.int .i64 (Tw L)]:=by rw[<-N];simp only[Z3,seval,-ae]
 have e3:H.cd (σ.bY+3)=Ik [.fz Im V (Tw x) (eh x),.sl (σ.bY+2) 0 1 (.cm 1)]:=by rw[<-N];simp only[Z3,seval,-ae]
 refine Tq ?_;refine ft.catK (bytes:=24) (σb:=σ) (n:=2) kH ⟨_,_,rfl,.inr rfl,e3,rfl,aH,aH⟩ (by rw[sW.1]) aH aH λv2 h2 k2 a2 s2 n2 t2=>?_;have nn:∀{t:Nat},t<3->∀off l c,PV.sl (σ.bY+3) 0 2 (nK.cm 2)≠.sl (σ.bY+t) off l c:=λA off l c e=>by
  simp only[PV.sl.injEq]at e;omega
 obtain⟨f0,m0⟩:=s2 σ.bY aH (nn (t:=0) aH);obtain⟨f1,m1⟩:=s2 (σ.bY+1) aH (nn (t:=1) aH);obtain⟨f2,m2⟩:=s2 (σ.bY+2) aH (nn (t:=2) aH);simp only[Z3,seval,-ae,a2.one];refine ft.catK (bytes:=24) (σb:=σ) k2 a2 (by rw[AJ.1]) aH aH λT m k3 R s3 n3 t3=>?_;obtain⟨q0,p0⟩:=s3 σ.bY aH m0;obtain⟨q1,p1⟩:=s3 (σ.bY+1) aH m1;obtain⟨q2,p2⟩:=s3 (σ.bY+2) aH m2;have r0:m.rd σ.bY 0 3=Ik [vO,vP,vC]:=by rw[zN (q0.trans (f0.trans e0))];rfl
 have z3:gH (jE [.cU,.cU,.cU] 1)=[Tt,Tt,Tt]:=rfl;simp only[Z3,seval,-ae,R.one,r0,E,I,J];refine Z9 D sz λwO wP wC S=>?_;have c3:T.cells=[T]:=by obtain⟨s,cap,rfl,_⟩:=R;rfl
 have AY:m.cd (σ.bY+1)=Ik [.int .i64 0,Tt,Tt]:=q1.trans (f1.trans e1);have sM:=k3.bY;have BD:¬σ.bY+1=m.bY:=aH
 have MT:σ.bY<=m.bY:=aH
 have Ds:m.wr (σ.bY+1) 0 [.int .i64 3,.sl m.bY 0 1 (.cm 1),T]=Ik (m.set (σ.bY+1) [.int .i64 3,.sl m.bY 0 1 (.cm 1),T]):=zEP AY rfl (by obtain⟨s,cap,rfl,_⟩:=R;rfl);simp only[Z3,seval,-ae,R.one,c3,BD,Ds,z3,S.O.one,S.P.one,S.C.one];obtain⟨s4,lY,rfl,c4,o4,l4,b4,b5⟩:=R;have BA:¬s4=σ.bY+1:=λe=>p1 0 _ _ (by rw[e]);have eS:∀t,t<m.bY->t≠σ.bY+1->((m.set (σ.bY+1) [PV.int .i64 3,PV.sl m.bY 0 1 (nK.cm 1),.sl s4 0 (2+Tw L+Tw u) lY]).cb [wO,wP,wC]).cd t=m.cd t:=λt h1 h2=>by
  rw[zC,Iv (show ¬t=(m.set _ _).bY from Jn h1),zG,Iv h2]
 refine zRF (x:=x) (fx:=.fz Im V (Tw x) (eh x)) (rows:=rg++ru) (M:=L++u) (s1:=σ.bY+2) (z:=(Tw L)) ((k3.set (Yb _) _).cb _) ⟨s4,lY,rfl,c4,?_,?_,b4,Lk b5⟩ ?_ aH ?_ aH aH p2 (λoff l c e=>?_) S ⟨_,_,rfl⟩ (ez.append sW AJ) (by rw[cO];omega) λU vL t fG fL A _=>hk 3 _ _ U vL 0 t (.inr (.inr ⟨B,v7,⟨rfl,rfl,u,hu,rfl⟩,rfl⟩)) fG fL A
 .rw[eS _ b5 BA,o4,YH]
 .rw[<-YH];exact l4
 .grind
 .rw[zC];exact Iu rfl
 .simp only[PV.sl.injEq]at e;omega
def zGQ(sz:ti O P C)(J:eQ vO vP vC O P C)(I:hK vL L)(H:CV L)(S:FI vx x)(U:(Tw x)<=1048576)
  (N:∀k G Z m A c,ORes O P C L x k G Z c->FG m G->hK A Z->K (.tup [.agg [.int .i64 k,m,A],.int .i64 c]) σ):zA Tp 27 [.agg [vO,vP,vC],vL,vx] σ K:=
 zA.notop (p:=λv _=>∃k G Z m A c,v=.tup [.agg [.int .i64 k,m,A],.int .i64 c]/\ORes O P C L x k G Z c/\FG m G/\hK A Z)
  (λK' T=>zFy sz J I H S U λk G Z m A c t E B D R=>T _ t ⟨⟨Is,B.bel _,D.bel _,Is⟩,Is,Is⟩ ⟨k,G,Z,m,A,c,rfl,E,B,D⟩ R)
  λv t ⟨k,G,Z,m,A,c,e,E,B,D⟩=>by rw[e];exact N k G Z m A c E B D
def ft.pushR{T:dj}{n:Nat}{y:PV}{rows:List PV}{D:PV×dj->Prop}(R:ft T.bY 1 h v n rows)(U:n<=100)(km:KM T s0 h)(S:So h s0 vS bs)(J:s0<T.bY)
  (N:∀A m,KM T s0 m->So m s0 vS bs->ft T.bY 1 m A (n+1) (rows++[y])->D (A,m)):iU (zW 1 24 (h.cb [y]) v (.sl h.bY 0 1 (.cm 1))) D:=by
 obtain⟨σ',H,G⟩:=km;have B:=H.bY;refine ft.push (σb:=σ') (bytes:=24) G (by rw[B];exact R) aH aH λA m E I=>N A m ⟨σ',H,E⟩ ((zE9 G S (by rw[B];exact J)).c7 E) ?_;rw[<-B];exact I
def MRes(O:V1)(P:V2)(C:V3)(L:V2)(x:V1)(k:Int)(G:List sg)(Z:V2)(c:Int):Prop:=
 (¬E6 O P C L x/\(k=0/\G=[]/\Z=[])/\c=1)\/(E6 O P C L x/\¬GC O P C L x/\(k=0/\G=[]/\Z=[])/\c=4)\/
 (E6 O P C L x/\∃m w,Fnd O P C L x m/\(pY O P C L m).2[m]? = Ik w/\((64<Tw w/\(k=0/\G=[]/\Z=[])/\c=3)\/(Tw w<=64/\(k=2/\G=[(O,P,C)]/\Z=[x,w]++L)/\c=0)))
def zOH{hE:dj}{g:Nat}{A B m vL:PV}{L:V2}(I:dq σ hE)(R:hE.cd g=Ik [A,B,m])(G:σ.bY<=g)(D:eQ A B m O P C)(E:hK vL L)
  (k:∀o,σ.top<=o->o∉z8 [A,B,m]->o∉mP vL->σ.top<=max hE.top (o+1)->K (.tup [.agg [.int .i64 2,.fz Im (.sl o 0 1 (.cm 1)) 1 [A,B,m],vL],.int .i64 0]) (σ.up (max hE.top (o+1)))):Gh σ K (.tup [.agg [.int .i64 2,.sl g 0 1 (.cm 1),vL],.int .i64 0]) hE:=by
 refine Gh.freeze (s:=g) (cs:=[A,B,m]) R G ⟨D.O.bel 0,D.P.bel 0,D.C.bel 0,Is⟩ λo S N H=>?_;have T:sb g o [A,B,m] vL=vL:=E.sb _ _ _;simp only[sb,nD,T,kv,and_self,if_true,decide_true,sB];have J:o∉mP vL:=by
  simp only[mP,z8,Yn,YL]at H;exact H
 exact Gh.fin0T (t:=max hE.top (o+1)) ((I.kill G).up (by simp only[dj.kill];omega)) (sB _) ⟨⟨Is,Is,E.bel _,Is⟩,Is,Is⟩ λ_=>k o S N J (by have:=I.top;omega)
def zRG{J D E B:PV}{rows:List PV}{M:V2}{g m:Nat}(kk:dq σ hE)(a:ft σ.bY 1 hE J m rows)(T:hE.cd g=Ik [D,E,B])(kD:σ.bY<=g)(n2:∀off l c,J≠.sl g off l c)(G:eQ D E B O P C)(U:ez FI rows M)(hm:m=Tw M)
  (k:∀I vL t,FG I [(O,P,C)]->hK vL M->σ.top<=t->(kz σ.top hE.top ([D,E,B]++rows)->kz σ.top t [I,vL])->K (.tup [.agg [.int .i64 2,I,vL],.int .i64 0]) (σ.up t)):
  Gh σ K (.tup [.agg [.int .i64 2,.sl g 0 1 (.cm 1),J],.int .i64 0]) hE:=by
 refine Gh.pwf λw=>?_;obtain⟨t,c,rfl,q1,W,q3,H,q5⟩:=a;have S:¬g=t:=λe=>n2 0 m c (by rw[e]);have bq:ko 0 [D,E,B]:=⟨G.O.bel 0,G.P.bel 0,G.C.bel 0,Is⟩;have br:=U.bI 0;refine Gh.freezeH W H br λA i2 N _=>?_;have cV:kv c m=Im:=q1.ok;simp only[sb,nD,S,false_and,if_false,and_self,true_and,cV,if_true];have jA:=(dq.sub (s:=t) (o:=A) (cs:=rows) w (kk.kill H) H).up (t:=max hE.top (A+1)) (by simp only[dj.sub,dj.kill];omega);have lj:(((hE.kill t).sub t A rows).up (max hE.top (A+1))).cd g=Ik [D,E,B]:=by
  simp only[dj.up,dj.sub,dj.kill,Iv S,T,Kc];rw[qc (YQ _) bq]
 have Jg:(((hE.kill t).sub t A rows).up (max hE.top (A+1))).top=max hE.top (A+1):=rfl;generalize ((hE.kill t).sub t A rows).up (max hE.top (A+1))=H2 at *
 have R:hK (.fz Im (.sl A 0 m c) m rows) M:=⟨Im,.sl A 0 m c,rows,by rw[hm],U⟩
 refine zOH jA lj kD G R λV i3 f3 f4 X=>k _ _ _ (zFk G) R X λow=>?_;have a2:A∉lH ([D,E,B]++rows):=by
  rw[zU,YZ]
  rintro(hm|hm)
  .exact N g _ T (zf hm)
  .exact N t _ W (zf hm)
 have Z:=kz.last (l:=m) (cap:=c) ow i2 (hi':=max hE.top (A+1)) aH aH a2;have Bz:=kz.comm Z;have a3:V∉lH ([.fz Im (.sl A 0 m c) m rows]++[D,E,B]):=by
  rw[zU,YZ]
  rintro(hm|hm)
  .refine f4 (zAM ?_);simpa only[lH,YL]using hm
  .exact f3 (zf hm)
 have Y:=kz.last (l:=1) (cap:=.cm 1) Bz i3 (hi':=max H2.top (V+1)) aH aH a3;exact kz.comm (a:=[_]) (b:=[_]) Y
def zGR(sz:ti O P C)(I:eQ vO vP vC O P C)(hL:hK vL L)(eu:CV L)(hx:FI vx x)(oo:(Tw x)<=1048576)
  (hk:∀k G Z W vZ c t,MRes O P C L x k G Z c->FG W G->hK vZ Z->σ.top<=t->K (.tup [.agg [.int .i64 k,W,vZ],.int .i64 c]) (σ.up t)):zA Tp 26 [.agg [vO,vP,vC],vL,vx] σ K:=by
 have A:=I.O.one;have B:=I.P.one;have D:=I.C.one;have S:dq σ ((σ.cb [vO,vP,vC]).cb [.int .i64 0,Tt,Tt]):=(zB _ _).cb _;have dK:∀{c:Int} {g:dj},dq σ g->MRes O P C L x 0 [] [] c->Gh σ K (.tup [.agg [.int .i64 0,Tt,Tt],.int .i64 c]) g:=λ{c g} kk h=>
  Gh.fin0T kk kk.top ⟨⟨Is,Is,Is,Is⟩,Is,Is⟩ λ_=>hk 0 [] [] _ _ c σ.top h zA2 ⟨Im,.cU,[],rfl,ez.nil _⟩ (sB _)
 have U:=hL;obtain⟨wl,al,rl,rfl,dR⟩:=hL;have cQ:=hx;obtain⟨wx,ax,rfl⟩:=hx;refine To Tryz.func26 ?_;simp only[Z3,seval,-ae,A,B,D];refine zAv I sz U eu cQ oo λt J=>?_;cases t with
 |false=>
  simp only[Z3,seval,-ae,A,B,D];exact dK S (.inl ⟨λh=>(by cases J.2 h),⟨rfl,rfl,rfl⟩,rfl⟩)
 |true=>
 have m:=J.1 rfl;have lg:=m.lg;have bB:=lg.s.le;simp only[Z3,seval,-ae,A,B,D];refine Zt lg I U eu m.gs λvU u fU hu=>?_;simp only[Z3,seval,-ae,A,B,D,fU.one];refine zC4 lg I m.sub fU hu m.2.2.gS cQ λt J=>?_;cases t with
 |false=>
  simp only[Z3,seval,-ae,A,B,D];exact dK S (.inr (.inl ⟨m,λh=>(by cases J.2 h),⟨rfl,rfl,rfl⟩,rfl⟩))
 |true=>
 have hg:=J.1 rfl;simp only[Z3,seval,-ae,A,B,D];refine zLm lg I U m.2.1 m.gs m.2.2.gS cQ hg λvw mm w hf hw fw mi=>?_;obtain⟨ww,Y,rfl⟩:=fw;by_cases KI:64<Tw w
 .have lU:(64:Int)<(Tw w:Int):=aH
  simp only[Z3,seval,-ae,lU,A,B,D];exact dK S (.inr (.inr ⟨m,mm,w,hf,hw,.inl ⟨KI,⟨rfl,rfl,rfl⟩,rfl⟩⟩))
 have lU:¬(64:Int)<(Tw w:Int):=aH
 simp only[Z3,seval,-ae,lU];refine zAH rfl aH λX=>?_;have h6:=m.2.1;refine Tq ?_;refine Zh U eu λvg fg=>?_;obtain⟨wg,ag,rg,rfl,sW⟩:=fg;generalize R:((σ.cb [vO,vP,vC]).cb [PV.int .i64 0,Tt,Tt]).cb [PV.fz Im X (Tw x) (eh x),PV.fz ww Y (Tw w) (eh w)]=H at *
 have kH:dq σ H:=by rw[<-R];exact S.cb _
 have nH:H.bY=σ.bY+3:=by rw[<-R];rfl
 have e0:H.cd σ.bY=Ik [vO,vP,vC]:=by rw[<-R];simp only[Z3,seval,-ae]
 have e1:H.cd (σ.bY+1)=Ik [.int .i64 0,Tt,Tt]:=by rw[<-R];simp only[Z3,seval,-ae]
 have e3:H.cd (σ.bY+2)=Ik [.fz Im X (Tw x) (eh x),.fz ww Y (Tw w) (eh w)]:=by rw[<-R];simp only[Z3,seval,-ae]
 refine Tq ?_;refine ft.catK (bytes:=24) (σb:=σ) (n:=2) kH ⟨_,_,rfl,.inr rfl,e3,rfl,aH,aH⟩ (by rw[sW.1]) aH aH λV E k3 N s3 n3 t3=>?_;have nn:∀{t:Nat},t<2->∀off l c,PV.sl (σ.bY+2) 0 2 (nK.cm 2)≠.sl (σ.bY+t) off l c:=λJ off l c e=>by
  simp only[PV.sl.injEq]at e;omega
 obtain⟨q0,p0⟩:=s3 σ.bY aH (nn (t:=0) aH);obtain⟨q1,p1⟩:=s3 (σ.bY+1) aH (nn (t:=1) aH);have r0:E.rd σ.bY 0 3=Ik [vO,vP,vC]:=by rw[zN (q0.trans e0)];rfl
 have z3:gH (jE [.cU,.cU,.cU] 1)=[Tt,Tt,Tt]:=rfl;simp only[Z3,seval,-ae,N.one,r0,A,B,D];refine Z9 I sz λwO wP wC T=>?_;have c3:V.cells=[V]:=by obtain⟨s,cap,rfl,_⟩:=N;rfl
 have AY:E.cd (σ.bY+1)=Ik [.int .i64 0,Tt,Tt]:=q1.trans e1;have sM:=k3.bY;have BD:¬σ.bY+1=E.bY:=aH
 have Ds:E.wr (σ.bY+1) 0 [.int .i64 2,.sl E.bY 0 1 (.cm 1),V]=Ik (E.set (σ.bY+1) [.int .i64 2,.sl E.bY 0 1 (.cm 1),V]):=zEP AY rfl (by obtain⟨s,cap,rfl,_⟩:=N;rfl);simp only[Z3,seval,-ae,N.one,c3,BD,Ds,z3,T.O.one,T.P.one,T.C.one];obtain⟨s4,lY,rfl,c4,o4,l4,b4,b5⟩:=N;have BA:¬s4=σ.bY+1:=λe=>p1 0 _ _ (by rw[e]);refine zRG (M:=[x,w]++L) ((k3.set (Yb _) _).cb _) ⟨s4,lY,rfl,c4,?_,l4,b4,Lk b5⟩ ?_ aH (λoff l c e=>?_) T (ez.append (((ez.nil FI).snoc ⟨Im,X,rfl⟩).snoc ⟨ww,Y,rfl⟩) sW) (by simp;omega) λW vL t fG fL J _=>hk 2 _ _ W vL 0 t (.inr (.inr ⟨m,mm,w,hf,hw,.inr ⟨aH,⟨rfl,rfl,rfl⟩,rfl⟩⟩)) fG fL J
 .rw[zC,Iv (show ¬s4=(E.set _ _).bY from Jn b5),zG,Iv BA,o4]
 .rw[zC];exact Iu rfl
 .simp only[PV.sl.injEq]at e;omega
def zHK(sz:ti O P C)(J:eQ vO vP vC O P C)(I:hK vL L)(H:CV L)(S:FI vx x)(U:(Tw x)<=1048576)
  (N:∀k G Z m A c,MRes O P C L x k G Z c->FG m G->hK A Z->K (.tup [.agg [.int .i64 k,m,A],.int .i64 c]) σ):zA Tp 26 [.agg [vO,vP,vC],vL,vx] σ K:=
 zA.notop (p:=λv _=>∃k G Z m A c,v=.tup [.agg [.int .i64 k,m,A],.int .i64 c]/\MRes O P C L x k G Z c/\FG m G/\hK A Z)
  (λK' T=>zGR sz J I H S U λk G Z m A c t E B D R=>T _ t ⟨⟨Is,B.bel _,D.bel _,Is⟩,Is,Is⟩ ⟨k,G,Z,m,A,c,rfl,E,B,D⟩ R)
  λv t ⟨k,G,Z,m,A,c,e,E,B,D⟩=>by rw[e];exact N k G Z m A c E B D
def PWF.newF{cs:List PV}(w:PWF σ)(B:ko 0 cs):PWF (σ.cb cs):=by
 have D:(σ.cb cs).bY=σ.bY+1:=rfl;refine⟨λs hs=>?_,λs A m=>?_⟩
 .rw[zC,Iv aH];exact w.wf s aH
 .rw[zC]at m;split at m
  .cases m;exact ko.up (YQ _) B
  .exact ko.up (Yb _) (w.bel s A m)
def Hj(O:V1)(P:V2)(C:V3)(r:V1):Prop:=(∃i,i<Tw O/\r=GA O P i)\/∃i k,i+(1+k)<Tw O/\r=Ho C i k
def zAn:(Ad w).length=Tw w:=by simp[Ad]
def Hj.facts(s:kC O P C){r:V1}(h:Hj O P C r):Lts (Tw O) r/\Tw r<=60:=by
 have nl:∀{i:Nat} {c:V1},TT O i c->(Mx.nw c).length<=42:=λA=>by
  have:=zGc s A
  rw[zCJ A.len,Yj];exact this
 rcases h with ⟨i,m,rfl⟩|⟨i,k,m,rfl⟩
 .refine⟨zOq s m,?_⟩;have B:=nl (s.pw i m);have D:=s.pr i m;unfold GA;rw[cO,YT,zAn]
  have:nx O i<=7:=by show(at_ O i).toNat<=7;omega
  omega
 .refine⟨zP5 s m,?_⟩;have B:=nl (s.cj i (i+(1+k)) aH m);unfold Ho;rw[cO,zAn];simp only[YF,Ov];omega
def Av(O:V1)(P:V2)(C:V3)(R:V2)(a i k:Nat):Prop:=(∀r∈R,Hj O P C r)/\(∀j,j<a->GA O P j∈R)/\∀j q,(j<i\/(j=i/\q<k))->j+(1+q)<Tw O->Ho C j q∈R
def Av.all{R:V2}(h:Av O P C R (Tw O) (Tw O) 0):∀r,Hj O P C r->r∈R:=by
 rintro r (⟨i,m,rfl⟩|⟨i,k,m,rfl⟩)
 .exact h.2.1 i m
 .exact h.2.2 i k (.inl aH) m
def Av.bY{R:V2}{a i:Nat}(h:Av O P C R a i (Tw O-1-i)):Av O P C R a (i+1) 0:=
 ⟨h.1,h.2.1,λj q A m=>h.2.2 j q aH m⟩
noncomputable def evL(O:V1)(P:V2)(C:V3)(L:V2)(k:Int):V1:=if 0<k then L.getD (k-1).toNat []else mE (gS O) (gm O P C) (zv O) (L.getD (-k-1).toNat [])
noncomputable def evS(O:V1)(P:V2)(C:V3)(L:V2)(w:V1):V1:=w.foldl (λa k=>gm O P C a (evL O P C L k)) (zv O)
def zPu{k:Int}:evS O P C L (w++[k])=gm O P C (evS O P C L w) (evL O P C L k):=by unfold evS;rw[Ug];rfl
def zSF(F:Full O P C (Tw O))(A:∀l∈L,gS O l){k:Int}(B:k≠0/\-(Tw L:Int)<=k/\k<=(Tw L:Int)):gS O (evL O P C L k):=by
 have get:∀j:Nat,j<Tw L->gS O (L.getD j []):=λj m=>by
  rw[YK,na m];exact A _ (ss m)
 unfold evL;split
 .exact get _ aH
 .exact(F.g.inv_in (get _ aH)).1
def zOJ(s:kC O P C)(F:Full O P C (Tw O))(D:∀l∈L,gS O l):∀{w:V1},(∀k∈w,k≠0/\-(Tw L:Int)<=k/\k<=(Tw L:Int))->gS O (evS O P C L w):=by
 intro w;have key:∀(w:V1) (a:V1),gS O a->(∀k∈w,k≠0/\-(Tw L:Int)<=k/\k<=(Tw L:Int))->gS O (w.foldl (λa k=>gm O P C a (evL O P C L k)) a):=by
  intro w
  induction w with
  |nil=>exactλa m _=>m
  |cons k w ih=>exactλa m A=>ih _ (F.g.cl m (zSF F D (A k (Yp ..)))) λE B=>A E (Yc _ B)
 exact key w _ (s.zv _)
def zNr{D:V2}(s:kC O P C)(hc:Cons O P C)(B:eQ vO vP vC O P C)(hw:FI vw w)(hl:∀k∈w,k≠0/\-(Tw D:Int)<=k/\k<=(Tw D:Int))(mi:(Tw w)<=1000)(hD:hK vD D)(Et:(Tw D)<=100)(N:∀y∈D,gS O y)(hk:∀v,FI v (evS O P C D w)->K v σ):
  zA Tp 175 [.agg [vO,vP,vC],vw,vD] σ K:=by
 have g0:=B.O.one;have g1:=B.P.one;have g2:=B.C.one;have F:=Cons.full s hc;have td:=s.le;obtain⟨ww,aw,rfl⟩:=hw;obtain⟨wD,aD,rD,rfl,JU⟩:=hD;refine To Tryz.func175 ?_;simp only[Z3,seval,-ae,g0,g1,g2];generalize X:σ.cb [vO,vP,vC]=H;have kH:dq σ H:=by rw[<-X];exact zB _ _
 have r3:H.rd σ.bY 0 3=Ik [vO,vP,vC]:=by rw[<-X];simp only[Z3,seval,-ae]
 clear X;simp only[Z3,seval,-ae,r3];refine QX B aH λv0 gV=>?_;have h0:=gV.one;simp only[Z3,seval,-ae,h0];refine zF (λq vs h=>∃(i:Nat) (v:PV),i<=Tw w/\q=Tw w-i/\vs=[.fz ww aw (Tw w) (eh w),.fz wD aD (Tw D) rD,.ptr σ.bY 0,v,.int .i64 i]/\FI v (evS O P C D (w.take i))/\h=H) (Tw w) ?_ ?_
 .exact⟨0,v0,YQ _,rfl,rfl,gV,rfl⟩
 rintro q vs h ⟨i,v,hi,rfl,rfl,G,rfl⟩
 have J:=G.one;have hy:gS O (evS O P C D (w.take i)):=zOJ s F N λk U=>hl k (Y7 U);simp only[Z3,seval,-ae,J];refine Tr (λan=>?_) λA=>?_
 .rw[YU aH]at G;exact Gh.fin0 kH (G.bel _) (hk v G)
 have T:(i:Int)<(Tw w:Int):=aH
 have I:(eh w)[i]? = Ik (.int .i64 w[i]):=by rw[zJ,gi A];rfl
 have wi:=WX A;have lw:=hl _ (ss A);have Jj:∀{k:Int},w[i]=k->∀{z:V1},evL O P C D k=z->gm O P C (evS O P C D (w.take i)) z=evS O P C D (w.take (i+1)):=λ{k} U {z} hz=>by
  rw[YV A,zPu,U,hz]
 simp only[Z3,seval,-ae,J,A,T,I];refine fi (λaM=>?_) λdS=>?_
 .obtain⟨j,hj⟩:∃j:Nat,w[i]=(j:Int)+1:=⟨(w[i] - 1).toNat,aH⟩
  have m:j<Tw D:=aH
  have yM:(j:Int)<(Tw D:Int):=aH
  obtain⟨Z,S,R⟩:=JU.rowI m;have wj:Tu .i64 ((j:Int)+1-1)=(j:Int):=WQ
  have W:evL O P C D ((j:Int)+1)=D[j]:=by
   unfold evL;rw[Iu aH,show((j:Int)+1-1).toNat=j by omega,YK,na m];rfl
  have V:=Jj hj W;rw[hj]at I;simp only[Z3,seval,-ae,J,A,T,I,hj,wj,m,yM,R,r3];refine zV s B hy (N _ (ss m)) G ⟨Z,S,rfl⟩ λv2 E=>?_;have h2:=E.one;rw[V]at E;simp only[Z3,seval,-ae,h2,wi];exact⟨_,aH,i+1,v2,aH,rfl,rfl,E⟩
 .obtain⟨j,hj⟩:∃j:Nat,w[i]=-((j:Int)+1):=⟨(-w[i] - 1).toNat,aH⟩
  have m:j<Tw D:=aH
  have yM:(j:Int)<(Tw D:Int):=aH
  obtain⟨Z,S,R⟩:=JU.rowI m;have wn:Tu .i64 (0 - -((j:Int)+1))=(j:Int)+1:=WQ
  have wj:Tu .i64 ((j:Int)+1-1)=(j:Int):=WQ
  have W:evL O P C D (-((j:Int)+1))=mE (gS O) (gm O P C) (zv O) D[j]:=by
   unfold evL;rw[Iv aH,show(-(-((j:Int)+1))-1).toNat=j by omega,YK,na m];rfl
  have V:=Jj hj W;rw[hj]at I;simp only[Z3,seval,-ae,J,A,T,I,hj,wn,wj,m,yM,R,r3];refine zBM s hc B (N _ (ss m)) ⟨Z,S,rfl⟩ λv2 E=>?_;have ju:gS O (mE (gS O) (gm O P C) (zv O) D[j]):=(F.g.inv_in (N _ (ss m))).1;simp only[Z3,seval,-ae,E.one,J,r3];refine zV s B hy ju G E λv3 Y=>?_;have h3:=Y.one;rw[V]at Y;simp only[Z3,seval,-ae,h3,wi];exact⟨_,aH,i+1,v3,aH,rfl,rfl,Y⟩
def zFa(X:FI v x)(hn:(Tw x)<=6)(N:∀a∈x,0<=a/\a<=7)(W:∀u,FI u (Mx.nw x)->K u σ):zA Tp 100 [v] σ K:=by
 obtain⟨w,a,rfl⟩:=X;have Y:∀i,i<=Tw x->(Mx.gT x i).length<=7*i:=λi=>by
  induction i with
  |zero=>intro _;exact sB _
  |succ i ih=>
   intro J
   have:=ih aH
   have b:=N _ (ss (show i<(Tw x) by omega));rw[Mx.gT,cO,YT];have e:nx x i=(x[i]'(by omega)).toNat:=by unfold nx;rw[gj aH]
   rw[e];omega
 refine To Tryz.func100 ?_;refine Tq ?_;refine zF (λm vs h=>∃(i:Nat) (v:PV),i<=Tw x/\m=Tw x-i/\vs=[.fz w a (Tw x) (eh x),v,.int .i64 i]/\dq σ h/\ft σ.bY 1 h v (Mx.gT x i).length (eh (Mx.gT x i))) (Tw x) ?_ ?_
 .exact⟨0,_,YQ _,rfl,rfl,zB _ _,ft.cb _ 1 rfl (sB _)⟩
 rintro m vs h ⟨i,v,J,rfl,rfl,D,A⟩
 have B:=A.one;have iu:=Y i J;simp only[Z3,seval,-ae,B];refine Tr (λS=>?_) λE=>?_
 .obtain rfl:i=Tw x:=aH
  exact A.fin D (zO _ _) λo cap=>W _ ⟨Im,_,rfl⟩
 have R:(i:Int)<(Tw x:Int):=aH
 have U:(eh x)[i]? = Ik (.int .i64 x[i]):=by rw[zJ,gi E];rfl
 have xb:=N _ (ss E);refine zF (λm vs h=>∃(j:Nat) (v:PV),(j:Int)<=x[i]/\m=7-j/\vs=[.fz w a (Tw x) (eh x),v,.int .i64 i,.int .i64 j]/\dq σ h/\ft σ.bY 1 h v (Mx.gT x i++Jf j ((i:Int)+1)).length (eh (Mx.gT x i++Jf j ((i:Int)+1)))) 7 ?_ ?_
 .exact⟨0,v,aH,rfl,rfl,D,by rw[RP,YL];exact A⟩
 clear A D B
 rintro m vs h ⟨j,v,hj,rfl,rfl,D,A⟩
 have B:=A.one;have jq:(Mx.gT x i++Jf j ((i:Int)+1)).length=(Mx.gT x i).length+j:=by rw[cO,YT]
 simp only[Z3,seval,-ae,B,E,R,U];refine Tr (λS=>?_) λjO=>?_
 .have e:Mx.gT x i++Jf j ((i:Int)+1)=Mx.gT x (i+1):=by
   rw[Mx.gT]
   have:nx x i=j:=by unfold nx;rw[gj E];omega
   rw[this]
  rw[e]at A;simp only[Z3,seval,-ae,B,WX E];exact⟨_,aH,i+1,v,aH,rfl,rfl,D,A⟩
 have wi:Tu .i64 ((i:Int)+1)=(i:Int)+1:=WE;have wj:Tu .i64 ((j:Int)+1)=((j+1:Nat):Int):=WQ
 simp only[Z3,seval,-ae,B,wi];refine ft.push (σb:=σ) (bytes:=8) D A aH aH λG I Z H=>?_;have V:=H.one;simp only[Z3,seval,-ae,V,wj];have e:Mx.gT x i++Jf (j+1) ((i:Int)+1)=(Mx.gT x i++Jf j ((i:Int)+1))++[(i:Int)+1]:=by rw[Oj,YH]
 have T:∀z:V1,eh (z++[(i:Int)+1])=eh z++[.int .i64 ((i:Int)+1)]:=λz=>by simp[eh]
 have fin:∀{z:V1},ft σ.bY 1 I G (Tw z+1) (eh z++[.int .i64 ((i:Int)+1)])->ft σ.bY 1 I G (z++[(i:Int)+1]).length (eh (z++[(i:Int)+1])):=λh=>by rw[T,cO];exact h
 exact⟨_,aH,j+1,G,aH,rfl,rfl,Z,by rw[e];exact fin H⟩
def zDA(X:FI v w)(hn:(Tw w)<=1000)(V:∀l∈w,-1000<=l/\l<=1000)(W:∀u,FI u (Ad w)->K u σ):zA Tp 199 [v] σ K:=by
 obtain⟨ww,a,rfl⟩:=X;have Z:(Ad w).length=Tw w:=zAn;have S:∀j,(H:j<Tw w)->(Ad w).take (j+1)=(Ad w).take j++[-w[(Tw w)-1-j]]:=λj H=>by
  rw[YV aH];congr 2;unfold Ad;rw[List.getElem_reverse,UC];congr 2;simp
 refine To Tryz.func199 ?_;have w0:Tu .i64 ((Tw w:Int)-1)=(Tw w:Int)-1:=WE;simp only[Z3,seval,-ae,w0];refine zF (λm vs h=>∃(j:Nat) (v:PV),j<=Tw w/\m=Tw w-j/\vs=[.fz ww a (Tw w) (eh w),v,.int .i64 ((Tw w:Int)-1-j)]/\dq σ h/\ft σ.bY 1 h v j (eh ((Ad w).take j))) (Tw w) ?_ ?_
 .exact⟨0,_,YQ _,rfl,by rw[show((Tw w:Int)-1-((0:Nat):Int))=(Tw w:Int)-1 by omega];rfl,zB _ _,ft.cb _ 1 rfl (sB _)⟩
 rintro m vs h ⟨j,v,H,rfl,rfl,I,A⟩
 have G:=A.one;rcases YY j (Tw w) with J|an
 .have g0:(0:Int)<=(Tw w:Int)-1-j:=aH
  have R:(Tw w:Int)-1-j=((Tw w-1-j:Nat):Int):=aH
  have B:(Tw w)-1-j<Tw w:=aH
  have hi':((Tw w-1-j:Nat):Int)<(Tw w:Int):=aH
  have T:(eh w)[(Tw w)-1-j]? = Ik (.int .i64 w[(Tw w)-1-j]):=by rw[zJ,gi B];rfl
  have bx:=V _ (ss B);have wn:Tu .i64 (0-w[(Tw w)-1-j])=-w[(Tw w)-1-j]:=WQ
  have w1:Tu .i64 (((Tw w-1-j:Nat):Int)-1)=(Tw w:Int)-1-((j+1:Nat):Int):=WQ
  have D:(0:Int)<=((Tw w-1-j:Nat):Int):=aH
  rw[R];simp only[Z3,seval,-ae,G,B,hi',D,T,wn];refine ft.push (σb:=σ) (bytes:=8) I A aH aH λv2 h2 Y E=>?_;have U:=E.one;simp only[Z3,seval,-ae,U,w1];have N:∀z:V1,∀q:Int,eh (z++[q])=eh z++[.int .i64 q]:=λz q=>by simp[eh]
  exact⟨_,aH,j+1,v2,aH,rfl,rfl,Y,by rw[S j J,N];exact E⟩
 .obtain rfl:j=Tw w:=aH
  have D:¬(0:Int)<=(Tw w:Int)-1-(Tw w:Int):=aH
  simp only[Z3,seval,-ae,G,D];rw[YU aH]at A;exact A.fin I (zO _ _) λo cap=>W _ ⟨Im,_,by rw[Z]⟩
end Go.Proofs
