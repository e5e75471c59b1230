/- . -/
import Derived.Test.YtnfnaniemocleaaGreatQP10
set_option linter.all false
set_option linter.defProp false
open Go.IntKind renaming wrap->Lp
open List renaming length->Lu
open Go.Proofs.Tryz renaming prog->Li
open Bool renaming false_eq_true->EB,true->DF
open Int renaming mul_le_mul->HI,tmod_lt_of_pos->HO,toNat_one->H9,toNat_zero->HS
open List renaming all_cons->Ej,all_eq_true->D2,all_nil->Em,getElem?_cons_succ->D3,getElem?_of_mem->Ic,length->F6,length_nil->Eg,mem_or_eq_of_mem_set->Hs,nodup_append->FQ,nodup_nil->FK,range->DO,range_succ->Ia,replicate->Ep,replicate_succ->Es,replicate_succ'->HR,set_cons_succ->Ib,set_cons_zero->Eu
open Option renaming getD_some->F9,some->Dc
open True renaming intro->DJ
open Int renaming reduceNatCast'->ae
set_option maxRecDepth 100000
namespace Go.Proofs
open Go.Ab Go.Lie
variable{aj capP:jZ}{p:Int}{i j k n nC nP r s0 sB sP:Nat}{h h' σ:cg}{c v vC vO vP vS vX:PV}{K:PV->cg->Prop}{O bs x xs:V1}{M P W:V2}{B C:V3}
section
open Go.Grp
variable{b:Nat}
def zQk{α:Type}{c:Prop}[Decidable c]{a:α}{K:α->Prop}(l:c)(u:K a):fw (if c then Dc a else none) K:=by rw[DK l];exact⟨a,rfl,u⟩
def ZC{α:Type}{c:Prop}[Decidable c]{a:α}{K:α->Prop}(u:K a)(l:c:=by first|omega|(simp only[YB,Yu,Eg];omega)):fw (if c then Dc a else none) K:=zQk l u
def zIK(V:FI v x)(hn:(Lu x)<=6)(X:∀a∈x,0<=a/\a<=7)(U:∀u w,FI u w->(Lu w)<=42->K u σ):zA Li 282 [v] σ K:=by
 obtain⟨w,a,rfl⟩:=V;refine Lh Tryz.func282 ?_;refine Lk ?_;refine zF (λm vs h=>∃(i:Nat) (v:PV) (u:V1),i<=Lu x/\m=Lu x-i/\vs=[.fz w a (Lu x) (cS x),v,.int .i64 i]/\Lu u<=7*i/\cT σ h/\eA σ.aM 1 h v (Lu u) (cS u)) (Lu x) ?_ ?_
 .exact⟨0,_,[],YV _,rfl,rfl,na _,zC _ _,eA.bf _ 1 rfl (na _)⟩
 rintro m vs h ⟨i,v,u,hi,rfl,rfl,I,D,l⟩
 have A:=l.one;simp only[Z3,seval,-ae,A];refine Ll (λJ=>?_) λG=>?_
 .refine l.fin D (zL _ _) λo cap=>U _ u ⟨DF,_,rfl⟩ af
 have N:(i:Int)<(Lu x:Int):=af
 have S:(cS x)[i]? = Dc (.int .i64 x[i]):=by rw[zN,gi G];rfl
 have xb:=X _ (YZ G);refine zF (λm vs h=>∃(j:Nat) (v:PV) (u:V1),j<=7/\m=7-j/\vs=[.fz w a (Lu x) (cS x),v,.int .i64 i,.int .i64 j]/\Lu u<=7*i+j/\cT σ h/\eA σ.aM 1 h v (Lu u) (cS u)) 7 ?_ ?_
 .exact⟨0,v,u,YV _,rfl,rfl,af,D,l⟩
 clear l D A I
 rintro m vs h ⟨j,v,u,hj,rfl,rfl,I,D,l⟩
 have A:=l.one;simp only[Z3,seval,-ae,A,G,N,S];refine Ll (λJ=>?_) λuL=>?_
 .simp only[Z3,seval,-ae,A,WX G];exact⟨_,af,i+1,v,u,af,rfl,rfl,af,D,l⟩
 have wi:Lp .i64 ((i:Int)+1)=(i:Int)+1:=WE;have wj:Lp .i64 ((j:Int)+1)=((j+1:Nat):Int):=WQ
 simp only[Z3,seval,-ae,A,wi];refine eA.push (σb:=σ) (bytes:=8) D l af af λZ h2 Y H=>?_;have T:=H.one;simp only[Z3,seval,-ae,T,wj];have e:cS (u++[(i:Int)+1])=cS u++[.int .i64 ((i:Int)+1)]:=by simp[cS]
 exact⟨_,af,j+1,Z,u++[(i:Int)+1],af,rfl,rfl,by rw[YB,Yb];omega,Y,by rw[e,YB];exact H⟩
def zPL(hR:dU vO vP vC O P C)(hp:qG O P C)(hk:∀q:List UInt8,K (.str q) σ):zA Li 275 [.agg [vO,vP,vC]] σ K:=by
 have sh:=hp.shp;have aX:=sh.le;have o1:=hR.O.one;have p1:=hR.P.one;have c1:=hR.C.one;obtain⟨⟨wO,aO,rfl⟩,⟨wP,aP,rP,rfl,LJ⟩,⟨wC,aC,rC,rfl,ET⟩⟩:=hR;have je:=sh.pl;have bJ:=sh.cl;refine zA.gh ?_;refine qH mix Tryz.func275 ?_;simp only[Z3,seval,-ae,o1,p1,c1];generalize hH:σ.bf [PV.fz wO aO (Lu O) (cS O),PV.fz wP aP (Lu P) rP,PV.fz wC aC (Lu C) rC]=H;have kH:cT σ H:=by rw[<-hH];exact zC _ _
 have r0:H.dR σ.aM 0=Dc (.fz wO aO (Lu O) (cS O)):=by rw[<-hH];simp only[Z3,seval,-ae]
 have r1:H.dR σ.aM 1=Dc (.fz wP aP (Lu P) rP):=by rw[<-hH];simp only[Z3,seval,-ae]
 have r2:H.dR σ.aM 2=Dc (.fz wC aC (Lu C) rC):=by rw[<-hH];simp only[Z3,seval,-ae]
 clear hH;have fin:∀{q:List UInt8},Gh σ K (.str q) H:=Gh.fin0 kH trivial (hk _);have hO:∀i (D:i<Lu O),2<=O[i]/\O[i]<=7:=λi D=>by have:=sh.pr i D;rw[dp D]at this;exact this
 have ent:∀{k:Nat} {y:V1},TT O k y->∀a∈y,0<=a/\a<=7:=λ{k y} h a ha=>by
  obtain⟨j,hj,rfl⟩:=YR.1 ha;have b:=h.bd j (by have:=h.len;omega);rw[dp hj]at b;have o:=sh.pr j (by have:=h.len;omega);omega
 have PR:∀i (D:i<Lu P),P[i].length=Lu O/\∀a∈P[i],0<=a/\a<=7:=λi D=>by
  have h:=sh.pw i af;have e:eM P i=P[i]:=by unfold eM;rw[YW,YQ D];rfl
  rw[e]at h;exact⟨h.len,ent h⟩
 have CL:∀i (D:i<Lu C),C[i].length=Lu O-1-i:=λi D=>by
  have h:=sh.row i af;rw[YW,YQ D]at h;exact h
 have CR:∀i (D:i<Lu C) k (hk:k<C[i].length),C[i][k].length=Lu O/\∀a∈C[i][k],0<=a/\a<=7:=λi D k bF=>by
  have hl:=CL i D;have h:=sh.cj i (i+1+k) af af;have e:du C i (i+1+k)=C[i][k]:=by
   unfold du;rw[show i+1+k-i-1=k by omega,YW,YW,YQ D];simp only[F9];rw[YQ bF];rfl
  rw[e]at h;exact⟨h.len,ent h⟩
 have dec:∀{g:cg} {K':PV->cg->Prop} {a:Int},2<=a/\a<=7->(∀d:List UInt8,(Lu d)<=6->K' (.str d) g)->zA Li 279 [.int .i64 a] g K':=λ{g K' a} ha bF=>
  zJv 5 ⟨af,af,Int.lt_of_lt_of_le (show a<1000000 by omega) LB⟩ LB bF
 refine de (λ_=>fin) λdC=>?_;refine zF (λm vs h=>∃(i:Nat) (q:List UInt8),i<=Lu O/\m=Lu O-i/\vs=[.ptr σ.aM 0,.int .i64 (Lu O),.str q,.int .i64 i]/\Lu q<=9*i/\h=H) (Lu O) ?_ ?_
 .exact⟨0,[],YV _,rfl,rfl,na _,rfl⟩
 rintro m vs h ⟨i,q,D,rfl,rfl,hq,rfl⟩
 refine Lk ?_;refine de (λA=>?_) λaG=>?_
 .have N:(i:Int)<(Lu O:Int):=af
  have U:(cS O)[i]? = Dc (.int .i64 O[i]):=by rw[zN,gi A];rfl
  have ob:=hO i A;refine de (λhp=>ZC ?_) λhp=>?_
  all_goals
   simp only[Z3,seval,-ae,r0,A,N,U];refine dec ob λd hd=>?_;refine Lk ?_;refine ZC ?_;simp only[Z3,seval,-ae,WX A];exact⟨_,af,i+1,_,af,rfl,rfl,by simp only[YB,Yb];omega⟩
 refine zF (λm vs h'=>∃(i:Nat) (q:List UInt8),i<=Lu O/\m=Lu O-i/\vs=[.ptr σ.aM 0,.int .i64 (Lu O),.str q,.int .i64 i]/\Lu q<=60+60*i/\h'=h) (Lu O) ?_ ?_
 .exact⟨0,q,YV _,rfl,rfl,af,rfl⟩
 clear hq aG D
 rintro m vs h ⟨i,q,D,rfl,rfl,hq,rfl⟩
 refine Lk ?_;refine de (λA=>?_) λaG=>?_
 .have eL:i<Lu P:=af
  have Z:(i:Int)<(Lu P:Int):=af
  have N:(i:Int)<(Lu O:Int):=af
  have U:(cS O)[i]? = Dc (.int .i64 O[i]):=by rw[zN,gi A];rfl
  have ob:=hO i A;obtain⟨w4,a4,l⟩:=LJ.rowI eL;obtain⟨pl,pe⟩:=PR i eL;have wi:=WX A;simp only[Z3,seval,-ae,r0,r1,eL,Z,l];refine Zb rfl af ?_;refine Lk ?_;by_cases I:mw P[i]
  .simp only[Z3,seval,-ae,I,wi];exact⟨_,af,i+1,_,af,rfl,rfl,af⟩
  simp only[Z3,seval,-ae,I,r0,r1,eL,Z,l,A,N,U];refine ZC ?_;simp only[Z3,seval,-ae,I,r0,r1,eL,Z,l,A,N,U];refine zCu af λd1 AH=>?_;simp only[Z3,seval,-ae,r0,r1,eL,Z,l,A,N,U];refine ZC ?_;simp only[Z3,seval,-ae,r0,r1,eL,Z,l,A,N,U,wi];refine ZC ?_;simp only[Z3,seval,-ae,r0,r1,eL,Z,l,A,N,U,wi];refine dec ob λd2 xp=>?_;simp only[Z3,seval,-ae,r0,r1,eL,Z,l,A,N,U,wi];refine ZC ?_;simp only[Z3,seval,-ae,r0,r1,eL,Z,l,A,N,U,wi];refine ZC ?_;simp only[Z3,seval,-ae,r0,r1,eL,Z,l,A,N,U,wi];refine zIK ⟨w4,a4,rfl⟩ af pe λu wd hu Cq=>?_;obtain⟨w5,a5,rfl⟩:=hu;simp only[Z3,seval,-ae,r0,r1,eL,Z,l,A,N,U,wi];refine zIL af λd3 MS=>?_;simp only[Z3,seval,-ae,r0,r1,eL,Z,l,A,N,U,wi];refine ZC ?_;simp only[Z3,seval,-ae,r0,r1,eL,Z,l,A,N,U,wi];exact⟨_,af,i+1,_,af,rfl,rfl,by simp only[YB,Yu,Eg];omega⟩
 refine zF (λm vs h'=>∃(i:Nat) (q:List UInt8),i<=Lu O/\m=Lu O-i/\vs=[.ptr σ.aM 0,.int .i64 (Lu O),.str q,.int .i64 i]/\Lu q<=420+420*i/\h'=h) (Lu O) ?_ ?_
 .exact⟨0,q,YV _,rfl,rfl,af,rfl⟩
 clear hq aG D
 rintro m vs h ⟨i,q,D,rfl,rfl,hq,rfl⟩
 refine Lk ?_;refine Ll (λaG=>?_) λA=>?_
 .exact fin
 have N:(i:Int)<(Lu O:Int):=af
 have G:i<Lu C:=af
 have S:(i:Int)<(Lu C:Int):=af
 have wi:=WX A;obtain⟨w4,a4,B9,l,dz⟩:=ET.rowL G;have cl:=CL i G;simp only[Z3,seval,-ae,wi];refine zF (λm vs h'=>∃(j:Nat) (q:List UInt8),i+1<=j/\j<=Lu O/\m=Lu O-j/\vs=[.ptr σ.aM 0,.int .i64 (Lu O),.str q,.int .i64 i,.int .i64 j]/\Lu q<=420+420*i+60*j/\h'=h) (Lu O-(i+1)) ?_ ?_
 .exact⟨i+1,q,na _,af,rfl,rfl,af,rfl⟩
 clear hq
 rintro m vs h ⟨j,q,fR,hj,rfl,rfl,hq,rfl⟩
 refine Lk ?_;refine Ll (λaG=>?_) λuL=>?_
 .simp only[Z3,seval,-ae,wi];exact⟨_,af,i+1,q,af,rfl,rfl,af⟩
 have J:j-i-1<C[i].length:=af
 have T:((j-i-1:Nat):Int)<(C[i].length:Int):=af
 have wj:=WX uL;have Y:Lp .i64 ((j:Int)-(i:Int))=(j:Int)-(i:Int):=WE;have V:Lp .i64 ((j:Int)-(i:Int)-1)=((j-i-1:Nat):Int):=WQ
 obtain⟨w6,a6,X⟩:=dz.rowI J;obtain⟨pl,pe⟩:=CR i G _ J;simp only[Z3,seval,-ae,r2,G,S,l,Y,V,J,T,X];refine QQ af uL λwu hu=>?_;obtain⟨w7,a7,rfl⟩:=hu;simp only[Z3,seval,-ae,r2,G,S,l,Y,V,J,T,X];refine Q9 rfl rfl af ?_;by_cases I:C[i][j-i-1]=cD (Lu O) j
 .simp only[Z3,seval,-ae,I,wj];exact⟨_,af,j+1,q,af,af,rfl,rfl,af⟩
 simp only[Z3,seval,-ae,I,r2,G,S,l,Y,V,J,T,X,wj];refine ZC ?_;simp only[Z3,seval,-ae,I,r2,G,S,l,Y,V,J,T,X,wj];refine zCu af λd1 AH=>?_;simp only[Z3,seval,-ae,I,r2,G,S,l,Y,V,J,T,X,wj];refine ZC ?_;simp only[Z3,seval,-ae,I,r2,G,S,l,Y,V,J,T,X,wj];refine ZC ?_;simp only[Z3,seval,-ae,I,r2,G,S,l,Y,V,J,T,X,wj];refine zCu af λd2 xp=>?_;simp only[Z3,seval,-ae,I,r2,G,S,l,Y,V,J,T,X,wj];refine ZC ?_;simp only[Z3,seval,-ae,I,r2,G,S,l,Y,V,J,T,X,wj];refine ZC ?_;simp only[Z3,seval,-ae,I,r2,G,S,l,Y,V,J,T,X,wj];refine zIK ⟨w6,a6,rfl⟩ af pe λu wd hu Cq=>?_;obtain⟨w5,a5,rfl⟩:=hu;simp only[Z3,seval,-ae,I,r2,G,S,l,Y,V,J,T,X,wj];refine zIL af λd3 MS=>?_;simp only[Z3,seval,-ae,I,r2,G,S,l,Y,V,J,T,X,wj];refine ZC ?_;simp only[Z3,seval,-ae,I,r2,G,S,l,Y,V,J,T,X,wj];exact⟨_,af,j+1,_,af,af,rfl,rfl,by simp only[YB,Yu,Eg];omega⟩
end
section
open Go.Grp
variable{s t:List UInt8}
def zJs{cap:jZ}(J:σ.bt s0=Dc (cS O))(Y:(Lu O)<=6)(N:∀a∈O,jF a)(I:∀r:Int,K (.int .i64 r) σ):zA Li 213 [.sl s0 0 (Lu O) cap] σ K:=by
 refine Lg Tryz.func213 ?_;refine Lk ?_;refine zF (λm vs h=>∃(i:Nat) (y:Int),i<=Lu O/\m=Lu O-i/\vs=[.sl s0 0 (Lu O) cap,.int .i64 y,.int .i64 i]/\1<=y/\y<=729000/\h=σ) (Lu O) ?_ ?_
 .exact⟨0,1,YV _,rfl,rfl,LB,LB,rfl⟩
 rintro m vs h ⟨i,y,Z,rfl,rfl,G,V,rfl⟩
 refine Lk ?_;refine Ll (λX=>?_) λl=>?_
 .exact I y
 have H:(i:Int)<(Lu O:Int):=af
 have A:=(N _ (YZ l)).b1;have rd:h.dR s0 i=Dc (.int .i64 O[i]):=by rw[zH J,zN,gi l];rfl
 have D:=WX l;refine Ll (λu=>?_) λu=>?_
 .simp only[Z3,seval,-ae,D];exact⟨_,af,i+1,y,af,rfl,rfl,G,V⟩
 have S:1<=y*O[i]:=by have:=HI G A.1 LB af;omega
 have T:y*O[i]<=729000:=by have:=HI u A.2 af (by decide:(0:Int)<=729);omega
 have U:Lp .i64 (y*O[i])=y*O[i]:=WE;simp only[Z3,seval,-ae,l,H,rd,D,U];exact⟨_,af,i+1,_,af,rfl,rfl,S,T⟩
def eA.fin_tf{t:Bool}(A:cT σ h)(D:eA σ.aM 1 h v (Lu x) (cS x))(l:∀u,FI u x->K (.tup [u,.bool t]) σ):Gh σ K (.tup [v,.bool t]) h:=by
 obtain⟨s,cap,rfl,G,H,N,I,J⟩:=D;have e:(TR.tup [TR.row s cap x,.leaf (.bool t)]).pv=.tup [.sl s 0 (Lu x) cap,.bool t]:=by simp only[TR.pv,TR.pvs,TR.row_pv]
 rw[<-e];refine Gh.treeF A (mg ⟨TR.row_ok G H I J,DJ,DJ⟩) λa=>?_
 have:=l ((TR.row s cap x).fz a) TR.row_FI
 simpa only[TR.fz,TR.fzs]using this
def zO2(A:cT σ h)(l:∀u,FI u []->K (.tup [u,.bool false]) σ):Gh σ K (.tup [Ln,.bool false]) h:=by
 have e:(TR.tup [TR.nil,.leaf (.bool false)]).pv=.tup [Ln,.bool false]:=by simp only[TR.pv,TR.pvs]
 rw[<-e];refine Gh.treeF A ⟨DJ,DJ,DJ⟩ λa=>?_
 have:=l (Ln) ⟨DF,.b8,rfl⟩
 simpa only[TR.fz,TR.fzs]using this
def zLZ(hs:(Lu s)<=500)(N:∀v O t,FI v O->(Lu O)<=6->(∀a∈O,jF a)->K (.tup [v,.bool t]) σ):zA Li 273 [.str s] σ K:=by
 have nil:∀{h:cg},cT σ h->Gh σ K (.tup [Ln,.bool false]) h:=λ{h} l=>zO2 l λu A=>N u [] false A LB λa ha=>by cases ha
 refine Lh Tryz.func273 ?_;refine Lk ?_;refine de (λD=>?_) λD=>?_
 .refine Lk ?_;exact eA.fin_tf (x:=[]) (zC _ _) (eA.bf _ 1 rfl (na _)) λu A=>N u [] DF A LB λa ha=>by cases ha
 refine Lk ?_;refine zCv (s:=s) af λa n cells dg uF bJ Z=>?_;refine Lk ?_;refine zF (λm vs h=>∃(i:Nat) (v:PV) (O:V1),i<=n/\m=n-i/\vs=[v,.fz DF a n cells,.int .i64 i]/\Lu O=i/\i<=6/\(∀a∈O,jF a)/\cT σ h/\eA σ.aM 1 h v (Lu O) (cS O)) n ?_ ?_
 .exact⟨0,_,[],YV _,rfl,rfl,rfl,YV _,λa ha=>(by cases ha),zC _ _,eA.bf _ 1 rfl (na _)⟩
 rintro m vs h ⟨i,v,O,hi,rfl,rfl,V,Rn,J,l,H⟩
 have D:=H.one;simp only[Z3,seval,-ae,D];refine Ll (λaG=>?_) λT=>?_
 .have Ch:=H;obtain⟨sO,cap,rfl,q1,q2,q3,q4,q5⟩:=Ch;refine zJs q2 af J λr=>?_;refine Lk ?_;exact eA.fin_tf l H λu A=>N u O _ A af J
 have Y:(i:Int)<(n:Int):=af
 obtain⟨q,X,hq⟩:=Z _ (YZ (af:i<Lu cells));have gc:cells[i]? = Dc (.str q):=by rw[YQ af,X]
 simp only[Z3,seval,-ae,T,Y,gc];refine zNZ af λy hy=>?_;have wi:=WX T;refine Lk ?_;refine zBH ?_;by_cases G:jF y;rotate_left
 .simp only[Z3,seval,-ae,G];exact nil l
 by_cases U:6<=i
 .have I:(6:Int)<=(i:Int):=af
  simp only[Z3,seval,-ae,G,U,I];exact nil l
 have I:¬(6:Int)<=(i:Int):=af
 simp only[Z3,seval,-ae,G,U,I,D];refine eA.push (σb:=σ) (bytes:=8) l H af af λv2 h2 k2 S=>?_;have h3:=S.one;simp only[Z3,seval,-ae,h3,wi];have e:cS (O++[y])=cS O++[.int .i64 y]:=by simp[cS]
 refine⟨_,af,i+1,v2,O++[y],af,rfl,rfl,by rw[YB,V];rfl,af,λa ha=>?_,k2,by rw[e,YB];exact S⟩;rcases YY.1 ha with ha|ha
 .exact J a ha
 .rw[YT.1 ha];exact G
def zNY{n:Nat}(hn:n<=6)(hs:(Lu s)<=500)(J:∀v xs t,FI v xs->(∀x∈xs,-6<=x/\x<=(n:Int)/\x≠0)->(Lu xs)<=Lu s->K (.tup [v,.bool t]) σ):zA Li 277 [.int .i64 n,.str s] σ K:=by
 have nil:∀{h:cg},cT σ h->Gh σ K (.tup [Ln,.bool false]) h:=λ{h} A=>zO2 A λu G=>J u [] false G (λa ha=>by cases ha) (YV _);refine Lh Tryz.func277 ?_;refine Lk ?_;refine de (λl=>?_) λl=>?_
 .refine Lk ?_;exact eA.fin_tf (x:=[]) (zC _ _) (eA.bf _ 1 rfl (na _)) λu G=>J u [] DF G (λa ha=>by cases ha) (YV _)
 refine Lk ?_;refine zF (λm vs h=>∃(i:Nat) (v:PV) (xs:V1),i<=Lu s/\m=Lu s-i/\vs=[.int .i64 n,.str s,v,.int .i64 i]/\Lu xs=i/\(∀x∈xs,-6<=x/\x<=(n:Int)/\x≠0)/\cT σ h/\eA σ.aM 1 h v (Lu xs) (cS xs)) (Lu s) ?_ ?_
 .exact⟨0,_,[],YV _,rfl,rfl,rfl,λa ha=>(by cases ha),zC _ _,eA.bf _ 1 rfl (na _)⟩
 rintro m vs h ⟨i,v,xs,hi,rfl,rfl,U,Y,A,H⟩
 have l:=H.one;simp only[Z3,seval,-ae,l];refine Ll (λaG=>?_) λT=>?_
 .have hl:mo v=Dc (.int .i64 (Lu xs)):=by obtain⟨s',cap,rfl,_⟩:=H;rfl
  simp only[Z3,seval,-ae,l,hl];exact eA.fin_tf A H λu G=>J u xs _ G Y af
 have gs:s[i]? = Dc s[i]:=YQ T;have c0:(s[i].toNat:Int)<256:=by have:=s[i].toNat_lt;omega
 have c1:(0:Int)<=(s[i].toNat:Int):=af
 have Z:=WX T;have q0:Lp .i64 (s[i].toNat:Int)=(s[i].toNat:Int):=WE;have q1:Lp .i64 ((s[i].toNat:Int)-97)=(s[i].toNat:Int)-97:=WE;have q2:Lp .i64 ((s[i].toNat:Int)-97+1)=(s[i].toNat:Int)-97+1:=WE;have q3:Lp .i64 ((s[i].toNat:Int)-65)=(s[i].toNat:Int)-65:=WE;have q4:Lp .i64 ((s[i].toNat:Int)-65+1)=(s[i].toNat:Int)-65+1:=WE;have q5:Lp .i64 (0-((s[i].toNat:Int)-65+1))=-((s[i].toNat:Int)-65+1):=WQ
 simp only[Z3,seval,-ae,gs,q0,q1,q2,q3,q4,l];refine zCI ?_;have put:∀{y:Int},(-6<=y/\y<=(n:Int)/\y≠0)->∀a∈xs++[y],-6<=a/\a<=(n:Int)/\a≠0:=λ{y} hy a ha=>by
  rcases YY.1 ha with ha|ha
  .exact Y a ha
  .rw[YT.1 ha];exact hy
 have e:∀y:Int,cS (xs++[y])=cS xs++[.int .i64 y]:=λy=>by simp[cS]
 have el:∀y:Int,(xs++[y]).length=Lu xs+1:=λy=>by simp
 by_cases V:1<=(s[i].toNat:Int)-97+1/\(s[i].toNat:Int)-97+1<=(n:Int)
 .simp only[Z3,seval,-ae,V,l];refine eA.push (σb:=σ) (bytes:=8) A H af af λS h2 N D=>?_;have I:=D.one;simp only[Z3,seval,-ae,I,Z];exact⟨_,af,i+1,S,xs++[(s[i].toNat:Int)-97+1],af,rfl,rfl,by rw[el,U],put af,N,by rw[e,el];exact D⟩
 simp only[Z3,seval,-ae,V,l];refine zCI ?_;by_cases X:1<=(s[i].toNat:Int)-65+1/\(s[i].toNat:Int)-65+1<=(n:Int)
 .simp only[Z3,seval,-ae,X,l,q5];refine eA.push (σb:=σ) (bytes:=8) A H af af λS h2 N D=>?_;have I:=D.one;simp only[Z3,seval,-ae,I,Z];exact⟨_,af,i+1,S,xs++[-((s[i].toNat:Int)-65+1)],af,rfl,rfl,by rw[el,U],put af,N,by rw[e,el];exact D⟩
 simp only[Z3,seval,-ae,X,l];exact nil A
end
section
open Go.Grp
variable{b:Nat}{L L':Nat->Nat}{Q:Nat->Prop}{len:Nat->Nat}{s t:List UInt8}
def zLX{n:Nat}(hn:n<=6)(X:FI v x)(Y:∀a∈x,-6<=a/\a<=(n:Int)/\a≠0)(hl:(Lu x)<=1000)(T:∀h,cT σ h->K (.tup [Ln,.bool false]) h)(N:∀ys,(Lu ys)=n->K (.tup [.sl σ.aM 0 n (.b6 n),.bool DF]) (σ.bf (cS ys))):zA Li 278 [.int .i64 n,v] σ K:=by
 obtain⟨w,a,rfl⟩:=X;refine Lg Tryz.func278 ?_;simp only[Z3,seval,-ae,zh,uK (n:=n) af,Go.Ab.tn (n:=n) af];refine zF (λm vs h=>∃(i:Nat) (ys:V1),i<=Lu x/\m=Lu x-i/\vs=[.fz w a (Lu x) (cS x),.sl σ.aM 0 n (.b6 n),.int .i64 i]/\Lu ys=n/\(∀y∈ys,0<=y/\y<=(i:Int))/\h=σ.bf (cS ys)) (Lu x) ?_ ?_
 .exact⟨0,Ep n 0,YV _,rfl,rfl,aK,λy u=>by rw[(List.mem_replicate.1 u).2];exact⟨UA _,UA _⟩,rfl⟩
 rintro m vs h ⟨i,ys,hi,rfl,rfl,J,u,rfl⟩
 refine Lk ?_;refine Ll (λaG=>?_) λl=>?_
 .exact N ys J
 have I:(i:Int)<(Lu x:Int):=af
 have D:(cS x)[i]? = Dc (.int .i64 x[i]):=by rw[zN,gi l];rfl
 have xb:=Y _ (YZ l);have wi:=WX l;simp only[Z3,seval,-ae,l,I,D];refine de (λdj=>?_) λaL=>?_
 .exact T _ (zC _ _)
 obtain⟨j,hj⟩:∃j:Nat,x[i]=(j:Int)+1:=⟨(x[i] - 1).toNat,af⟩
 have Z:j<n:=af
 have U:(j:Int)<(n:Int):=af
 have A:j<Lu ys:=af
 rw[hj]at D;have w1:Lp .i64 ((j:Int)+1-1)=(j:Int):=WQ
 have yb:=u _ (YZ A);have w2:Lp .i64 (ys[j] + 1)=ys[j] + 1:=WE;have V:(cS ys)[j]? = Dc (.int .i64 ys[j]):=by rw[zN,gi A];rfl
 have wr:(σ.bf (cS ys)).wr σ.aM j [.int .i64 (ys[j] + 1)]=Dc ((σ.bf (cS ys)).set σ.aM (cS (ys.set j (ys[j] + 1)))):=zGP (by rw[zI,DK rfl]) A;have S:(σ.bf (cS ys)).set σ.aM (cS (ys.set j (ys[j] + 1)))=σ.bf (cS (ys.set j (ys[j] + 1))):=by
  unfold cg.set cg.bf;congr 1;funext q;by_cases e:q=σ.aM<;>simp[e]
 have rd:(σ.bf (cS ys)).dR σ.aM j=Dc (.int .i64 ys[j]):=by rw[zH (by rw[zI,DK rfl])];exact V
 rw[S]at wr;generalize hG:σ.bf (cS ys)=G at *
 simp only[Z3,seval,-ae,l,I,D,hj,w1,Z,U,rd,w2,wr,wi];refine⟨_,af,i+1,ys.set j (ys[j] + 1),af,rfl,rfl,by rw[YA];exact J,λy H=>?_,rfl⟩;rcases Hs H with H|rfl
 .have:=u y H;omega
 .omega
def PW.fin2b{e:Bool}(a:PW L b h Q O nP nC len vO vP vC)(hk:cT σ h)(hb:σ.aM<=b)(k:∀I J H P C,dU I J H O P C->Cw Q P C nP nC len->K (.tup [.agg [I,J,H],.bool e]) σ):Gh σ K (.tup [.agg [vO,vP,vC],.bool e]) h:=by
 obtain⟨u,N,rfl,S⟩:=a.hO.tree;obtain⟨A,P,⟨b1,rfl,G⟩,T⟩:=a.hP.tree;obtain⟨D,C,⟨U,rfl,V⟩,X,Y,Z⟩:=a.hC.tree;have et:(TR.tup [TR.agg [u,A,D],.leaf (.bool e)]).pv=.tup [.agg [u.pv,A.pv,D.pv],.bool e]:=by simp only[TR.pv,TR.pvs]
 rw[<-et];refine Gh.treeF hk (zC3 (b:=b) hb ⟨⟨mg N,mg b1,mg U,DJ⟩,DJ,DJ⟩) λl=>?_
 have:=k (u.fz l) (A.fz l) (D.fz l) P C ⟨S l,(G l).1,V l⟩ ⟨T,X,(G l).2,Y,Z⟩
 simpa only[TR.fz,TR.fzs]using this
set_option maxHeartbeats 1600000 in
def zIn(hR:dU vO vP vC O P C)(hO:(Lu O)<=6)(hp:∀a∈O,jF a)(X:Cw (λm=>m=Lu O) P C (Lu O) (Lu O) (λi=>(Lu O)-1-i))(hs:(Lu s)<=500)
  (hk:∀D wP wC P' C' t,dU D wP wC O P' C'->Cw (λm=>m=Lu O) P' C' (Lu O) (Lu O) (λi=>(Lu O)-1-i)->K (.tup [.agg [D,wP,wC],.bool t]) σ):zA Li 274 [.agg [vO,vP,vC],.str s] σ K:=by
 have G:=hR.O.one;have I:=hR.P.one;have A:=hR.C.one;have aJ:=hR;have bad:∀{h:cg},cT σ h->Gh σ K (.tup [.agg [vO,vP,vC],.bool false]) h:=λ{h} kk=>Gh.fin0 kk ⟨⟨hR.O.bel _,hR.P.bel _,hR.C.bel _,DJ⟩,DJ,DJ⟩ (hk _ _ _ P C false hR X);obtain⟨⟨D,T,rfl⟩,IB,ID⟩:=hR;refine Lh Tryz.func274 ?_;simp only[Z3,seval,-ae,G,I,A];generalize hH:(σ.bf [PV.fz D T (Lu O) (cS O),vP,vC]).bf [Ln,Ln,Ln]=H;have fq:H.aM=σ.aM+2:=by rw[<-hH];rfl
 have kH:cT σ H:=by rw[<-hH];exact(zC _ _).bf _
 have yf:H.bt σ.aM=Dc [PV.fz D T (Lu O) (cS O),vP,vC]:=by rw[<-hH];simp only[Z3,seval,-ae]
 have Ci:H.bt (σ.aM+1)=Dc [Ln,Ln,Ln]:=by rw[<-hH];simp only[Z3,seval,-ae]
 clear hH;have fin0:∀{g:cg},cT H g->g.rd σ.aM 0 3=Dc [PV.fz D T (Lu O) (cS O),vP,vC]/\g.wr (σ.aM+1) 0 [PV.fz D T (Lu O) (cS O),vP,vC]=Dc (g.set (σ.aM+1) [PV.fz D T (Lu O) (cS O),vP,vC])/\(g.set (σ.aM+1) [PV.fz D T (Lu O) (cS O),vP,vC]).rd (σ.aM+1) 0 3=Dc [PV.fz D T (Lu O) (cS O),vP,vC]/\Gh σ K (.tup [.agg [PV.fz D T (Lu O) (cS O),vP,vC],.bool false]) (g.set (σ.aM+1) [PV.fz D T (Lu O) (cS O),vP,vC]):=λ{g} U=>by
  refine⟨by rw[zV (by rw[U.bt _ af];exact yf)];rfl,by rw[zR (by rw[U.bt _ af];exact Ci),DK ⟨aK,by simp[G,I,A]⟩];rfl,by rw[zi,DK rfl];rfl,bad ((kH.trans U).set af _)⟩
 obtain⟨e1,e2,e3,e4⟩:=fin0 (cT.refl H);refine zCv (s:=s) af λa n cells dg uF bJ bZ=>?_;by_cases h2:n=2;rotate_left
 .have d2:¬((n:Nat):Int)=2:=af
  simp only[Z3,seval,-ae,d2,G,I,A,e1,e2,e3];exact e4
 subst h2;obtain⟨l,ga,E7⟩:=bZ _ (YZ (af:0<Lu cells));obtain⟨p1,iL,E6⟩:=bZ _ (YZ (af:1<Lu cells));have V:cells[0]? = Dc (.str l):=by rw[YQ af,ga]
 have c1:cells[1]? = Dc (.str p1):=by rw[YQ af,iL]
 have d2:((2:Nat):Int)=2:=rfl;have z2:(0:Int)<((2:Nat):Int):=by decide
 have JD:(1:Int)<((2:Nat):Int):=by decide
 by_cases h4:(Lu l)=4;rotate_left
 .have d4:¬((Lu l:Nat):Int)=4:=af
  simp only[Z3,seval,-ae,d2,z2,V,d4,G,I,A,e1,e2,e3];exact e4
 have d4:((Lu l:Nat):Int)=4:=af
 by_cases RR:l[0].toNat=32;rotate_left
 .have d5:¬((l[0].toNat:Nat):Int)=32:=af
  simp only[Z3,seval,-ae,d2,z2,V,d4,d5,G,I,A,e1,e2,e3,HS,YQ (af:0<Lu l)];exact e4
 have d5:((l[0].toNat:Nat):Int)=32:=af
 have n2:(2:Int).toNat=2:=rfl;have n1:(1:Int).toNat=1:=rfl;have n3:(3:Int).toNat=3:=rfl;by_cases RM:l[2].toNat=94;rotate_left
 .have d6:¬((l[2].toNat:Nat):Int)=94:=af
  simp only[Z3,seval,-ae,d2,z2,V,d4,d5,d6,n2,G,I,A,e1,e2,e3,HS,H9,YQ (af:0<Lu l),YQ (af:1<Lu l),YQ (af:2<Lu l),YQ (af:3<Lu l)];exact e4
 have d6:((l[2].toNat:Nat):Int)=94:=af
 simp only[Z3,seval,-ae,d2,z2,JD,V,c1,d4,d5,d6,n2,G,I,A,HS,H9,YQ (af:0<Lu l),YQ (af:1<Lu l),YQ (af:2<Lu l),YQ (af:3<Lu l)];refine zNY (n:=(Lu O)) hO (s:=p1) af λvu u t1 hu tT dT=>?_;have Cv:=hu.one;cases t1
 .simp only[Z3,seval,-ae,G,I,A,e1,e2,e3,Cv];exact e4
 have b1:(l[1].toNat:Int)<256:=by have:=l[1].toNat_lt;omega
 have b3:(l[3].toNat:Int)<256:=by have:=l[3].toNat_lt;omega
 have q1:Lp .i64 (l[1].toNat:Int)=(l[1].toNat:Int):=WE;have q3:Lp .i64 (l[3].toNat:Int)=(l[3].toNat:Int):=WE;have wE:Lp .i64 ((l[1].toNat:Int)-97)=(l[1].toNat:Int)-97:=WE;have Cd:Lp .i64 ((l[3].toNat:Int)-97)=(l[3].toNat:Int)-97:=WE;simp only[Z3,seval,-ae,Cv];refine zLX (n:=(Lu O)) hO hu tT af (λg U=>?_) λys jk=>?_
 .obtain⟨J,N,S,f4⟩:=fin0 U;simp only[Z3,seval,-ae,z2,V,n1,n3,q1,q3,wE,Cd,G,I,A,J,N,S,HS,H9,YQ (af:0<Lu l),YQ (af:1<Lu l),YQ (af:2<Lu l),YQ (af:3<Lu l)];exact f4
 have U:=zC H (cS ys);have NL:(H.bf (cS ys)).aM=H.aM+1:=rfl;have KJ:(H.bf (cS ys)).bt H.aM=Dc (cS ys):=by rw[zI,DK rfl]
 have D6:(H.bf (cS ys)).bt σ.aM=Dc [PV.fz D T (Lu O) (cS O),vP,vC]:=by rw[zI,DL af];exact yf
 have D7:(H.bf (cS ys)).bt (σ.aM+1)=Dc [Ln,Ln,Ln]:=by rw[zI,DL af];exact Ci
 generalize H.bf (cS ys)=H1 at *
 obtain⟨J,N,S,f4⟩:=fin0 U;by_cases j0:(l[1].toNat:Int)-97<0
 .simp only[Z3,seval,-ae,z2,V,n1,n3,q1,q3,wE,Cd,j0,G,I,A,J,N,S,HS,H9,YQ (af:0<Lu l),YQ (af:1<Lu l),YQ (af:2<Lu l),YQ (af:3<Lu l)];exact f4
 by_cases j1:(Lu O:Int)<=(l[1].toNat:Int)-97
 .simp only[Z3,seval,-ae,z2,V,n1,n3,q1,q3,wE,Cd,j0,j1,G,I,A,J,N,S,HS,H9,YQ (af:0<Lu l),YQ (af:1<Lu l),YQ (af:2<Lu l),YQ (af:3<Lu l)];exact f4
 simp only[Z3,seval,-ae,z2,V,n1,n3,q1,q3,wE,Cd,j0,j1,G,I,A,J,HS,H9,YQ (af:0<Lu l),YQ (af:1<Lu l),YQ (af:2<Lu l),YQ (af:3<Lu l)];obtain⟨j,hj⟩:∃j:Nat,(l[1].toNat:Int)-97=j:=⟨((l[1].toNat:Int)-97).toNat,af⟩
 rw[hj]at j0 j1 ⊢;have iC:j<Lu O:=af
 have gT:(j:Int)<(Lu O:Int):=af
 refine zF2 (Q:=λm=>m=Lu O) aJ af (by rw[X.pl];omega) (by rw[X.cl];omega) (λq aT=>?_) (λr hr=>X.pq r hr) (λq aT r hr=>X.cq q aT r hr) (λm hm=>af) λL h Z uP Y k1 p1=>?_
 .obtain⟨i,hi,rfl⟩:=YR.1 aT
  have:=X.row i (by rw[<-X.cl];exact hi)
  rw[YW,YQ hi]at this;have e:C[i].length=Lu O-1-i:=this;omega
 have Ah:=k1.aM;rw[X.pl,X.cl]at p1;have p2:=(p1.lenE X.row).mark (b':=H.aM) (L':=nU L H.aM 1) af λt ht=>by unfold nU;rw[DL af]
 have a:=TB.start p2 (r:=σ.aM+1) af (by rw[k1.bt _ af];exact D7) af;have hv:eE (nU (nU L H.aM 1) h.aM 7) (h.bf [Z,uP,Y]) H.aM (λm=>m=Lu O) (.sl H.aM 0 (Lu O) (.b6 (Lu O))):=by
  refine⟨ys,jk,H.aM,.b6 (Lu O),by rw[jk],.inr (by rw[jk]),by rw[zI,DL af,k1.bt _ af];exact KJ,na _,by show H.aM<h.aM+1;omega,?_⟩;unfold nU;rw[DL af,DK rfl]
 have k2:cT H1 (h.bf [Z,uP,Y]):=k1.bf _;simp only[Z3,seval,-ae,p2.hO.one,p2.hP.one,p2.hC.one];generalize h.aM=sl at *
 generalize h.bf [Z,uP,Y]=g at *
 clear p1 p2 k1;have ob:=hp _ (YZ iC);have PK:=ob.b1;have gx:(cS O)[j]? = Dc (.int .i64 O[j]):=by rw[zN,gi iC];rfl
 have rx:g.dR σ.aM 0=Dc (.fz D T (Lu O) (cS O)):=by rw[zH (by rw[k2.bt _ af];exact D6)];rfl
 have fin:∀{g:cg} {L':Nat->Nat} {t:Bool},cT H g->TB H.aM g (λm=>m=Lu O) O L' (Lu O) (Lu O) (λi=>(Lu O)-1-i) (σ.aM+1) sl Z uP Y->
   g.wr (σ.aM+1) 0 [Z,uP,Y]=Dc (g.set (σ.aM+1) [Z,uP,Y])/\(g.set (σ.aM+1) [Z,uP,Y]).rd (σ.aM+1) 0 3=Dc [Z,uP,Y]/\Gh σ K (.tup [.agg [Z,uP,Y],.bool t]) (g.set (σ.aM+1) [Z,uP,Y]):=λ{g L' t} K0 a=>by
  obtain⟨e1,e2,e3⟩:=a.fin;exact⟨e1,e2,e3.fin2b ((kH.trans K0).set af _) af λD wP wC P C r1 r2=>hk D wP wC P C t r1 r2⟩
 have l3:(3:Int)<=(Lu l:Int):=af
 have HE:3<=Lu l:=af
 have HC:(3:Int)<=((4:Nat):Int):=by decide
 simp only[Z3,seval,-ae,z2,V,n3,rx,iC,gT,gx,l3,HE,h4,HC,HS,H9,YQ (af:0<Lu l),YQ (af:1<Lu l),YQ (af:2<Lu l),YQ (af:3<Lu l)];have t10:(10:Int) ^ (5+1)=1000000:=by decide
 refine zJv (n:=O[j]) 5 ⟨af,af,by rw[t10];omega⟩ LB λd hd=>?_;simp only[Z3,seval,-ae,z2,V,n3,rx,iC,gT,gx,l3,HE,h4,HC,HS,H9,YQ (af:0<Lu l),YQ (af:1<Lu l),YQ (af:2<Lu l),YQ (af:3<Lu l)];generalize (List.drop 3 (List.take 4 l) == d)=bb;cases bb;rotate_left
 .obtain⟨sP,capP,ds,rfl,w1,w2,w3,a2⟩:=a.putP iC hv;have k3:cT H (g.set sP ds):=(U.trans k2).set w1 _;obtain⟨J,N,S⟩:=fin (t:=DF) k3 a2;have r1:=a.r1;have r3:=a2.r3;generalize g.set sP ds=A at *
  simp only[Z3,seval,-ae,r1,iC,gT,w3,r3,J,N];exact S
 refine Lk ?_;by_cases i0:(l[3].toNat:Int)-97<0
 .obtain⟨J,N,S,f4⟩:=fin0 (U.trans k2);simp only[Z3,seval,-ae,i0,J,N,S,G,I,A];exact f4
 obtain⟨i,hi⟩:∃i:Nat,(l[3].toNat:Int)-97=i:=⟨((l[3].toNat:Int)-97).toNat,af⟩
 rw[hi]at i0 ⊢;by_cases i1:(j:Int)<=(i:Int)
 .obtain⟨J,N,S,f4⟩:=fin0 (U.trans k2);simp only[Z3,seval,-ae,i0,i1,J,N,S,G,I,A];exact f4
 have cw:i<Lu O:=af
 have pK:(i:Int)<(Lu O:Int):=af
 have kD:j-i-1<Lu O-1-i:=af
 have iQ:((j-i-1:Nat):Int)<((Lu O-1-i:Nat):Int):=af
 have wk:Lp .i64 ((j:Int)-(i:Int))=(j:Int)-(i:Int):=WE;have jL:Lp .i64 ((j:Int)-(i:Int)-1)=((j-i-1:Nat):Int):=WQ
 obtain⟨sC,capC,u',lJ,ds,rfl,rC,w1,w2,w3,w4,w5,a2⟩:=a.putC cw kD hv;have k3:cT H (g.set u' ds):=(U.trans k2).set w3 _;obtain⟨J,N,S⟩:=fin (t:=DF) k3 a2;have r2:=a.r2;have r3:=a2.r3;generalize g.set u' ds=A at *
 simp only[Z3,seval,-ae,i0,i1,r2,rC,cw,pK,kD,iQ,wk,jL,w5,r3,J,N];exact S
end
section
open Go.Grp
variable{L:Nat->Nat}{s t:List UInt8}
def zIm(G:FI vX O)(H:(Lu O)<=1000)(I:∀u A l P C,dU u A l O P C->Cw (λm=>m=Lu O) P C (Lu O) (Lu O) (λj=>(Lu O)-1-j)->K (.agg [u,A,l]) σ):zA Li 197 [vX] σ K:=
 zA.gh (zDv G H λL h vO vP vC N a=>a.fin N (na _) λu A l P C D J=>I u A l P C D J)
def Fm.sz{N:Nat}(a:Fm N O P C)(A:N<=1000):SzP O P C:=by
 have n:=a.n;have q:=a.q;refine⟨af,⟨by rw[q.pl];omega,λr l=>by have:=q.pq r l;omega⟩,⟨by rw[q.cl];omega,λw hw=>⟨?_,λr l=>by have:=q.cq w hw r l;omega⟩⟩⟩;obtain⟨i,u,rfl⟩:=YR.1 hw
 have:=q.row i (by rw[<-q.cl];exact u)
 rw[YW,YQ u]at this;have e:C[i].length=Lu O-1-i:=this;omega
def zD3(hs:(Lu s)<=500)(hk:∀e A D u O P C,dU A D u O P C->Fm 6 O P C->K (.tup [.agg [A,D,u],.int .i64 e]) σ):zA Li 269 [.str s] σ K:=by
 have Ea:=hk 6 _ _ _ [] [] [] ⟨⟨DF,.b8,rfl⟩,⟨DF,.b8,[],rfl,dd.nil _⟩,⟨DF,.b8,[],rfl,dd.nil _⟩⟩ (Fm.nil 6);have nil:∀{h:cg},cT σ h->Gh σ K (.tup [.agg [Ln,Ln,Ln],.int .i64 6]) h:=λ{h} N=>Gh.fin0 N ⟨⟨DJ,DJ,DJ,DJ⟩,DJ,DJ⟩ Ea;refine Lh Tryz.func269 ?_;refine Lk ?_;refine zCv (s:=s) af λa n cells dg uF bJ bZ=>?_;obtain⟨p0,ga,E7⟩:=bZ _ (YZ (af:0<Lu cells));have c0:cells[0]? = Dc (.str p0):=by rw[YQ af,ga]
 have z0:(0:Int)<(n:Int):=af
 have JE:0<n:=af
 simp only[Z3,seval,-ae,z0,JE,c0];refine zLZ (s:=p0) af λvX O t hX Gk IG=>?_;have Iy:=hX.one;cases t
 .simp only[Z3,seval,-ae,Iy];exact nil (zC _ _)
 simp only[Z3,seval,-ae,Iy];refine zIm hX af λA D u P C l J=>?_;have S:=l.O.one;have T:=l.P.one;have U:=l.C.one;simp only[Z3,seval,-ae,S,T,U];have dW:∀{h:cg},cT σ h->σ.aM<h.aM->h.bt σ.aM=Dc [Ln,Ln,Ln]->
   h.wr σ.aM 0 [Ln,Ln,Ln]=Dc (h.set σ.aM [Ln,Ln,Ln])/\(h.set σ.aM [Ln,Ln,Ln]).rd σ.aM 0 3=Dc [Ln,Ln,Ln]/\Gh σ K (.tup [.agg [Ln,Ln,Ln],.int .i64 6]) (h.set σ.aM [Ln,Ln,Ln]):=λ{h} kh hl ho=>
  ⟨by rw[zR ho,DK ⟨aK,rfl⟩];rfl,by rw[zi,DK rfl];rfl,nil (kh.set (na _) _)⟩
 refine zF (λm vs h=>∃(i:Nat) (A D u:PV) (P:V2) (C:V3),1<=i/\i<=n/\m=n-i/\vs=[.str s,.ptr σ.aM 0,.fz DF a n cells,.ptr (σ.aM+1) 0,.int .i64 i]/\dU A D u O P C/\Cw (λm=>m=Lu O) P C (Lu O) (Lu O) (λj=>(Lu O)-1-j)/\
  cT σ h/\σ.aM+1<h.aM/\h.bt σ.aM=Dc [Ln,Ln,Ln]/\h.bt (σ.aM+1)=Dc [A,D,u]) (n-1) ?_ ?_
 .exact⟨1,A,D,u,P,C,na _,dg,rfl,rfl,l,J,(zC _ _).bf _,by show _<σ.aM+2;omega,by simp only[Z3,seval,-ae],by simp only[Z3,seval,-ae]⟩
 clear l J S T U
 rintro m vs h ⟨i,A,D,u,P,C,CI,hi,rfl,rfl,l,J,N,hl,gv,fx⟩
 have S:=l.O.one;have T:=l.P.one;have U:=l.C.one;have r3:h.rd (σ.aM+1) 0 3=Dc [A,D,u]:=by rw[zV fx];rfl
 have fm:Fm 6 O P C:=⟨Gk,λa ha=>(IG a ha).b1,J⟩
 refine Lk ?_;refine de (λah=>?_) λaG=>?_
 .have aq:(i:Int)<(n:Int):=af
  obtain⟨p1,iL,E6⟩:=bZ _ (YZ (af:i<Lu cells));have ci:cells[i]? = Dc (.str p1):=by rw[YQ af,iL]
  have wi:=WX ah;simp only[Z3,seval,-ae,r3,ah,aq,ci];refine zIn l Gk IG J (s:=p1) af λH I G P' C' t V aT=>?_;have g1:=V.O.one;have g2:=V.P.one;have g3:=V.C.one;have w:h.wr (σ.aM+1) 0 [H,I,G]=Dc (h.set (σ.aM+1) [H,I,G]):=by rw[zR fx,DK ⟨aK,by simp[g1,g2,g3]⟩];rfl
  have wK:cT σ (h.set (σ.aM+1) [H,I,G]):=N.set af _;have bK:σ.aM+1<(h.set (σ.aM+1) [H,I,G]).aM:=hl;have jM:(h.set (σ.aM+1) [H,I,G]).bt σ.aM=Dc [Ln,Ln,Ln]:=by rw[zG,DL af];exact gv
  have tF:(h.set (σ.aM+1) [H,I,G]).bt (σ.aM+1)=Dc [H,I,G]:=by rw[zG,DK rfl]
  generalize h.set (σ.aM+1) [H,I,G]=g at *
  cases t
  .obtain⟨X,Y,Z⟩:=dW wK af jM;simp only[Z3,seval,-ae,g1,g2,g3,w,X,Y];exact Z
  simp only[Z3,seval,-ae,g1,g2,g3,w,wi];exact⟨_,af,i+1,H,I,G,P',C',af,af,rfl,rfl,V,aT,wK,bK,jM,tF⟩
 simp only[Z3,seval,-ae,r3];refine QR l (fm.sz LB) λt ht=>?_;obtain⟨X,Y,Z⟩:=dW N af gv;cases t
 .simp only[Z3,seval,-ae,X,Y];exact Z
 simp only[Z3,seval,-ae,r3];refine zPL l (ht.1 rfl) λq=>?_;cases jd:q == s
 .have an:¬q=s:=λe=>by rw[e]at jd;simp at jd
  simp only[Z3,seval,-ae,jd,X,Y];exact Z
 have w:h.wr σ.aM 0 [A,D,u]=Dc (h.set σ.aM [A,D,u]):=by rw[zR gv,DK ⟨aK,by simp[S,T,U]⟩];rfl
 have r:(h.set σ.aM [A,D,u]).rd σ.aM 0 3=Dc [A,D,u]:=by rw[zi,DK rfl];rfl
 simp only[Z3,seval,-ae,jd,r3,w,r,S,T,U];exact Gh.fin0 (N.set (na _) _) ⟨⟨l.O.bel _,l.P.bel _,l.C.bel _,DJ⟩,DJ,DJ⟩ (hk 0 A D u O P C l fm)
end
section
open Go.Grp
variable{s:List UInt8}
def strOK:PV->Bool
 | .str q=>decide (Lu q<=500)
 |_=>false
def zQj{l:List PV}{r:Nat}{K:PV->Prop}(h:l.all strOK=DF)(A:r<Lu l)(D:∀q:List UInt8,(Lu q)<=500->K (.str q)):fw l[r]? K:=by
 have u:=D2.1 h _ (YZ A);rw[YQ A];refine⟨_,rfl,?_⟩;generalize l[r]=c at *
 cases c<;>simp only[strOK,EB,decide_eq_true_eq]at u
 exact D _ u
def zLY{k:Int}(ez:0<=k/\k<=1000)(hk:∀I J D O P C,dU I J D O P C->Fm 18 O P C->K (.agg [I,J,D]) σ):zA Li 257 [.int .i64 k] σ K:=by
 refine zA.gh ?_;have r0:0<=k.tmod 10/\k.tmod 10<10:=⟨Int.tmod_nonneg _ ez.1,HO _ LB⟩
 obtain⟨r,hr⟩:∃r:Nat,k.tmod 10=r:=⟨(k.tmod 10).toNat,af⟩
 have y8:r<10:=af
 have yZ:(r:Int)<((10:Nat):Int):=af
 have wi:Lp .i64 (r:Int)=(r:Int):=WE;refine Lg Tryz.func257 ?_;simp only[Z3,seval,-ae,hr,wi,y8,yZ];refine zQj rfl y8 λq hq=>?_;refine Lk ?_;generalize T:(σ.bf [Ln,Ln,Ln]).bf _=H;have fq:H.aM=σ.aM+2:=by rw[<-T];rfl
 have kH:cT σ H:=by rw[<-T];exact(zC _ _).bf _
 have gv:H.bt σ.aM=Dc [Ln,Ln,Ln]:=by rw[<-T];simp only[Z3,seval,-ae]
 clear T;refine zD3 (s:=q) hq λe I J D O P C S fm=>?_;have o1:=S.O.one;have o2:=S.P.one;have o3:=S.C.one;have n1:¬σ.aM=H.aM:=af
 have xH:=fm.mono (N':=18) LB;have wH:∀{u A l:PV},u.one=DF->A.one=DF->l.one=DF->H.wr σ.aM 0 [u,A,l]=Dc (H.set σ.aM [u,A,l]):=λ{u A l} h1 h2 h3=>by rw[zR gv,DK ⟨aK,by simp[h1,h2,h3]⟩];rfl
 by_cases Y:e=0
 .subst Y;have w:=wH o1 o2 o3;have r:(H.set σ.aM [I,J,D]).rd σ.aM 0 3=Dc [I,J,D]:=by rw[zi,DK rfl];rfl
  have Z:cT σ (H.set σ.aM [I,J,D]):=kH.set (na _) _;have n2:¬σ.aM=(H.set σ.aM [I,J,D]).aM:=n1;generalize H.set σ.aM [I,J,D]=g at *
  simp only[Z3,seval,-ae,o1,o2,o3,n1,w,r,n2];exact Gh.fin0 (Z.bf _) ⟨S.O.bel _,S.P.bel _,S.C.bel _,DJ⟩ (hk I J D O P C S xH)
 have d0:(e=0)=False:=by simp[Y]
 simp only[Z3,seval,-ae,o1,o2,o3,n1,Y,d0];have kG:cT H ((H.bf [I,J,D]).bf [PV.int .i64 2]):=(zC _ _).bf _;have KP:((H.bf [I,J,D]).bf [PV.int .i64 2]).bt (H.aM+1)=Dc (cS [2]):=by rw[zI];exact DK rfl
 have KN:((H.bf [I,J,D]).bf [PV.int .i64 2]).bt H.aM=Dc [I,J,D]:=by rw[zI,DL (by show ¬H.aM=H.aM+1;omega),zI,DK rfl]
 have RJ:((H.bf [I,J,D]).bf [PV.int .i64 2]).aM=H.aM+2:=rfl;generalize (H.bf [I,J,D]).bf [PV.int .i64 2]=G at *
 refine zER (s:=H.aM+1) (O:=[2]) (cap:=.b6 1) KP af LB λu A l P' C' N aT=>?_;have U:=N.O.one;have V:=N.P.one;have X:=N.C.one;have w1:G.wr H.aM 0 [u,A,l]=Dc (G.set H.aM [u,A,l]):=by rw[zR KN,DK ⟨aK,by simp[U,V,X]⟩];rfl
 have kS:cT H (G.set H.aM [u,A,l]):=kG.set (na _) _;have r1:(G.set H.aM [u,A,l]).rd H.aM 0 3=Dc [u,A,l]:=by rw[zi,DK rfl];rfl
 have jM:(G.set H.aM [u,A,l]).bt σ.aM=Dc [Ln,Ln,Ln]:=by rw[kS.bt _ af];exact gv
 generalize G.set H.aM [u,A,l]=g at *
 have w2:g.wr σ.aM 0 [u,A,l]=Dc (g.set σ.aM [u,A,l]):=by rw[zR jM,DK ⟨aK,by simp[U,V,X]⟩];rfl
 have r2:(g.set σ.aM [u,A,l]).rd σ.aM 0 3=Dc [u,A,l]:=by rw[zi,DK rfl];rfl
 have Z:cT σ (g.set σ.aM [u,A,l]):=(kH.trans kS).set (na _) _;simp only[Z3,seval,-ae,U,V,X,w1,r1,w2,r2];exact Gh.fin0 Z ⟨N.O.bel _,N.P.bel _,N.C.bel _,DJ⟩ (hk u A l [2] P' C' N ⟨LB,LB,aT⟩)
end
section
open Go.Grp Go.Mx
variable{b:Nat}{cs:List PV}
abbrev dW:List PV:=[Ln,Ln,Ln]
def zSM{N:Nat}(S:s0<σ.aM)(U:∀u A l O P C σ',dU u A l O P C->Fm N O P C->Mv σ s0 σ'->So σ' s0 vS bs->K (.agg [u,A,l]) σ')
  {g:cg} (km:KM σ s0 g) (Z:So g s0 vS bs) (Y:g.bt σ.aM=Dc dW) {u A l:PV} (D:dU u A l O P C) (T:Fm N O P C):
  u.one=DF/\A.one=DF/\l.one=DF/\g.wr σ.aM 0 [u,A,l]=Dc (g.set σ.aM [u,A,l])/\(g.set σ.aM [u,A,l]).rd σ.aM 0 3=Dc [u,A,l]/\Gh σ K (.agg [u,A,l]) (g.set σ.aM [u,A,l]):=by
 have G:=D.O.one;have H:=D.P.one;have I:=D.C.one;refine⟨G,H,I,by rw[zR Y,DK ⟨by simp[dW],by simp[G,H,I]⟩];rfl,by rw[zi,DK rfl];rfl,?_⟩;refine Gh.km (km.set (na _) _) (Z.set af _) S λσ' X J V=>Gh.fin0 V ⟨D.O.bel _,D.P.bel _,D.C.bel _,DJ⟩ (U _ _ _ O P C σ' D T X J)
def ve_of{p:Int}{v:V1}(l:0<p)(h:∀x∈v,0<=x/\x<p):Ve p (Lu v) v:=by
 refine⟨rfl,λj=>?_⟩;rcases YG j (Lu v) with hj|hj
 .rw[dp hj];exact h _ (YZ hj)
 .unfold at_;rw[YW,Yq hj];exact⟨UA _,l⟩
def ma_of{p:Int}{n:Nat}{M:V2}(A:0<p)(h:∀r∈M,(Lu r)=n/\∀x∈r,0<=x/\x<p):Ma p n M:=λr D=>by
 obtain⟨l,u⟩:=h r D;rw[<-l];exact ve_of A u
def eA.mv'{e n:Nat}{cs:List PV}(a:eA b e h v n cs)(hs:s0<b)(m:Mv h s0 h'):eA b e h' v n cs:=by
 obtain⟨s,cap,rfl,l,u,A,D,G⟩:=a;exact⟨s,cap,rfl,l,by rw[m.bt af];exact u,A,D,by rw[m.aM];exact G⟩
def zBP(g:cg):V2->cg
 |[]=>g
 |x::r=>zBP (g.bf (cS x)) r
def zIG:∀(M:V2) (g:cg),(zBP g M).aM=g.aM+Lu M/\cT g (zBP g M)/\∀i (l:i<Lu M),(zBP g M).bt (g.aM+i)=Dc (cS M[i])
 |[],g=>⟨rfl,cT.refl g,λi l=>by cases l⟩
 |x::r,g=>by
  obtain⟨A,u,D⟩:=zIG r (g.bf (cS x));have e:(g.bf (cS x)).aM=g.aM+1:=rfl;refine⟨by rw[zBP,A,e,Yu];omega,(zC g _).trans u,λi l=>?_⟩;cases i with
  |zero=>exact(u.bt _ (YM _)).trans (DK rfl)
  |succ i=>have:=D i (by simpa using l);rwa[e,show g.aM+1+i=g.aM+(i+1) by omega]at this
def C4(b n:Nat):Nat->Nat->List PV
 |_,0=>[]
 |i,k+1=>.sl (b+i) 0 n (.b6 n)::C4 b n (i+1) k
def zH8(b n:Nat):∀k i j,j<k->(C4 b n i k)[j]? = Dc (.sl (b+(i+j)) 0 n (.b6 n))
 |k+1,i,0,_=>rfl
 |k+1,i,j+1,h=>by rw[C4,D3,zH8 b n k (i+1) j af,show i+1+j=i+(j+1) by omega]
def zH7(b n:Nat):∀k i,(C4 b n i k).length=k
 |0,_=>rfl
 |k+1,i=>by rw[C4,Yu,zH7 b n k]
def zAB{g:cg}{p m:Int}{M:V2}(hp:2<=p/\p<=7)(Z:1<=m/\m<=1000)(J:∀r∈M,(Lu r)=Lu M/\∀x∈r,0<=x/\x<p)(Y:1<=Lu M/\Lu M<=8)(S:0<p)
  (X:∀G A D u O P C,cT g G->dU A D u O P C->Fm 18 O P C->K (.agg [A,D,u]) G):zA Li 256 [.int .i64 p,.sl (g.aM+Lu M) 0 (Lu M) (.b6 (Lu M)),.int .i64 m] ((zBP g M).bf (C4 g.aM (Lu M) 0 (Lu M))) K:=by
 obtain⟨H,T,U⟩:=zIG M g;refine zJu hp Z ⟨g.aM+Lu M,.b6 (Lu M),_,rfl,(zI _ _).trans (DK H.symm),by rw[<-H];exact YM _,by rw[zH7],λi c x I hx=>?_⟩ (ma_of S J) Y λA D u O P C V N=>X _ _ _ _ _ _ _ (T.bf _) V N;obtain⟨l,rfl⟩:=Yj.1 hx;rw[zH8 _ _ _ _ _ l,YC]at I;rw[<-I,Y5];have h4:(zBP g M).aM<((zBP g M).bf (C4 g.aM (Lu M) 0 (Lu M))).aM:=YM _;exact⟨g.aM+i,.b6 (Lu M),by rw[(J _ (YZ l)).1],(zI _ _).trans ((DL af).trans (U i l)),af⟩
def zES(so:So σ s0 vS bs)(hk:∀wO wP wC O P C σ',dU wO wP wC O P C->Fm 18 O P C->Mv σ s0 σ'->So σ' s0 vS bs->K (.agg [wO,wP,wC]) σ'):zA Li 232 [.ptr s0 0] σ K:=by
 have cV:=so.lt;refine Lh Tryz.func232 ?_;refine Lk ?_;generalize hH:σ.bf [Ln,Ln,Ln]=H;have fq:H.aM=σ.aM+1:=by rw[<-hH];rfl
 have eo:s0<H.aM:=af
 have gv:H.bt σ.aM=Dc dW:=by rw[<-hH];simp only[Z3,seval,-ae]
 have rS:KM σ s0 H:=by rw[<-hH];exact so.kmK (zC _ _)
 have mh:So H s0 vS bs:=by rw[<-hH];exact so.cf (zC _ _)
 clear hH;have fin:∀{g:cg} {wO wP wC:PV} {O:V1} {P:V2} {C:V3},KM H s0 g->So g s0 vS bs->dU wO wP wC O P C->Fm 18 O P C->
   wO.one=DF/\wP.one=DF/\wC.one=DF/\g.wr σ.aM 0 [wO,wP,wC]=Dc (g.set σ.aM [wO,wP,wC])/\(g.set σ.aM [wO,wP,wC]).rd σ.aM 0 3=Dc [wO,wP,wC]/\Gh σ K (.agg [wO,wP,wC]) (g.set σ.aM [wO,wP,wC]):=λ{g wO wP wC O P C} km bQ l u=>
  zSM cV hk (rS.trans cV km) bQ (by rw[km.bt af af];exact gv) l u
 have fin2:∀{g:cg} {wO wP wC:PV} {O:V1} {P:V2} {C:V3},KM σ s0 g->So g s0 vS bs->dU wO wP wC O P C->Fm 18 O P C->Gh σ K (.agg [wO,wP,wC]) g:=λ{g wO wP wC O P C} km bQ l u=>
  Gh.km km bQ cV λσ' m' tk kp=>Gh.fin0 kp ⟨l.O.bel _,l.P.bel _,l.C.bel _,DJ⟩ (hk _ _ _ O P C σ' l u m' tk)
 refine zZ (n:=9) mh LB λx1 h ig m1 cL=>?_;have dF:KM H s0 h:=mh.km.mv eo m1;have dg:=m1.aM;clear m1;by_cases e0:x1=0
 .subst e0;refine Lk ?_;refine zZ (n:=5) (cL.cf (zC _ _)) LB λx2 h2 iX Z T=>?_;have S:=(dF.bf []).mv eo Z;have P4:=iX.lt LB;have eF:=iX.1;have KH:eA H.aM 1 h2 (.sl h.aM 0 0 (.b6 0)) 0 []:=eA.mv' (eA.own (n:=0) (.inr rfl) (by rw[zI,DK rfl]) rfl af (YM _)) eo Z;refine Lk ?_;refine zF (λm vs g=>∃(x:Nat) (v:PV) (O:V1),m=x/\vs=[.ptr s0 0,.ptr σ.aM 0,v,.int .i64 x]/\Lu O+x<=5/\(∀a∈O,1<=a/\a<=1000)/\KM H s0 g/\So g s0 vS bs/\eA H.aM 1 g v (Lu O) (cS O)) x2.toNat ?_ ?_
  .exact⟨x2.toNat,_,[],rfl,by rw[YD eF];rfl,by simp;omega,λa ha=>(by cases ha),S,T,KH⟩
  rintro x vs g ⟨x',v,O,rfl,rfl,hx,hO,km,bQ,pa⟩
  have p1:=pa.one;simp only[Z3,seval,-ae,p1];refine de (λaL=>?_) λaG=>?_
  .refine zAO (xs:=[2,2,3]) (t:=g.aM) (bQ.cf (zC _ _)) (by have:=km.aM;omega) (by rw[zI,DK rfl];rfl) LB λy g' hy m3 dD=>?_;have KG:=eA.mv' (pa.cf (zC g [PV.int .i64 2,PV.int .i64 2,PV.int .i64 3])) eo m3;obtain⟨σ',m',kp⟩:=(km.bf _).mv eo m3;have yb:2<=y/\y<=3:=by
    simp only[YH,Ym,or_false]at hy;omega
   simp only[Z3,seval,-ae,p1];have cb:=m'.aM;refine eA.push (σb:=σ') (bytes:=8) kp (by rw[cb];exact KG) af af λv2 A k2 a2=>?_;have p2:=a2.one;have wx:Lp .i64 ((x:Int)-1)=((x-1:Nat):Int):=WQ
   simp only[Z3,seval,-ae,p2,wx];refine⟨x-1,af,x-1,v2,O++[y],rfl,rfl,by rw[YB,Yb];omega,λa ha=>?_,⟨σ',m',k2⟩,(zN6 kp dD (by rw[cb];exact eo)).cf k2,?_⟩
   .rcases YY.1 ha with ha|ha
    .exact hO a ha
    .rw[YT.1 ha];omega
   .have e:cS (O++[y])=cS O++[.int .i64 y]:=by simp[cS]
    rw[e,YB,<-cb];exact a2
  obtain⟨st,dL,rfl,q1,q2,q3,q4,q5⟩:=pa;refine Lk ?_;refine zER q2 q5 af λV X U P' C' cQ aT=>?_;obtain⟨I,A,J,D,G,N⟩:=fin km bQ cQ ⟨af,hO,aT⟩;simp only[Z3,seval,-ae,I,A,J,D,G];exact N
 by_cases e1:x1=1
 .subst e1;refine Lk ?_;refine zAO (xs:=[1,4,6,8,9,12,5,7,27,25,36]) (t:=h.aM) (cL.cf (zC _ _)) af (by rw[zI,DK rfl];rfl) LB λy g hy Z T=>?_;have S:=(dF.bf _).mv eo Z;have yb:1<=y/\y<=36:=by
   simp only[YH,Ym,or_false]at hy;omega
  have w1:Lp .i64 (y-1)=y-1:=WE;refine Lk ?_;refine zPy af λe V X U O P C l u=>?_;have o1:=l.O.one;have o2:=l.P.one;have o3:=l.C.one;have xH:=u.mono (N':=18) LB;have Ih:=S.aM;have n1:¬σ.aM=g.aM:=af
  obtain⟨I,A,J,D,G,N⟩:=fin S T l xH;have ng:(g.set σ.aM [V,X,U]).aM=g.aM:=rfl;simp only[Z3,seval,-ae,o1,o2,o3,n1,D,G,ng];exact fin2 (((rS.trans cV S).set (na _) _).bf _) ((T.set af _).cf (zC _ _)) l xH
 by_cases e2:x1=2
 .subst e2;refine Lk ?_;refine zAO (xs:=[3,4,5,6,7,8,9,12]) (t:=h.aM) (cL.cf (zC _ _)) af (by rw[zI,DK rfl];rfl) LB λy g hy Z T=>?_;have S:=(dF.bf _).mv eo Z;have yb:3<=y/\y<=12:=by
   simp only[YH,Ym,or_false]at hy;omega
  have w1:Lp .i64 (y-1)=y-1:=WE;simp only[Z3,seval,-ae,w1];refine Zx (n:=2) LB af af LB λV X U O P C l u=>?_;obtain⟨I,A,J,D,G,N⟩:=fin S T l u;simp only[Z3,seval,-ae,I,A,J,D,G];exact N
 by_cases e3:x1=3
 .subst e3;refine Lk ?_;refine zAO (xs:=[4,6,8,12]) (t:=h.aM) (cL.cf (zC _ _)) af (by rw[zI,DK rfl];rfl) LB λy g hy Z T=>?_;have S:=(dF.bf _).mv eo Z;have yb:4<=y/\y<=12:=by
   simp only[YH,Ym,or_false]at hy;omega
  have w1:Lp .i64 (y-1)=y-1:=WE;have d1:0<=y.tdiv 2:=Int.tdiv_nonneg af LB;have d2:y.tdiv 2<=y:=Int.tdiv_le_self _ af;have w2:Lp .i64 (y.tdiv 2)=y.tdiv 2:=WE;simp only[Z3,seval,-ae,w1,w2];refine Zx (n:=2) LB af af af λV X U O P C l u=>?_;obtain⟨I,A,J,D,G,N⟩:=fin S T l u;simp only[Z3,seval,-ae,I,A,J,D,G];exact N
 by_cases e4:x1=4
 .subst e4;refine Lk ?_;refine zZ (n:=6) cL LB λx2 g iX Z T=>?_;have S:=dF.mv eo Z;by_cases f0:x2=0
  .subst f0;refine Lk ?_;refine Zx (n:=3) (m:=7) (a:=2) (c:=0) LB LB LB LB λV X U O P C l u=>?_;obtain⟨I,A,J,D,G,N⟩:=fin S T l u;simp only[Z3,seval,-ae,I,A,J,D,G];exact N
  by_cases f1:x2=1
  .subst f1;refine Lk ?_;refine Zx (n:=4) (m:=5) (a:=2) (c:=0) LB LB LB LB λV X U O P C l u=>?_;obtain⟨I,A,J,D,G,N⟩:=fin S T l u;simp only[Z3,seval,-ae,I,A,J,D,G];exact N
  by_cases f2:x2=2
  .subst f2;refine Lk ?_;refine Zx (n:=2) (m:=8) (a:=3) (c:=0) LB LB LB LB λV X U O P C l u=>?_;obtain⟨I,A,J,D,G,N⟩:=fin S T l u;simp only[Z3,seval,-ae,I,A,J,D,G];exact N
  by_cases f3:x2=3
  .subst f3;refine Lk ?_;refine Zx (n:=2) (m:=8) (a:=5) (c:=0) LB LB LB LB λV X U O P C l u=>?_;obtain⟨I,A,J,D,G,N⟩:=fin S T l u;simp only[Z3,seval,-ae,I,A,J,D,G];exact N
  by_cases f4:x2=4
  .subst f4;refine Lk ?_;refine Zx (n:=4) (m:=4) (a:=3) (c:=0) LB LB LB LB λV X U O P C l u=>?_;obtain⟨I,A,J,D,G,N⟩:=fin S T l u;simp only[Z3,seval,-ae,I,A,J,D,G];exact N
  simp only[Z3,seval,-ae,f0,f1,f2,f3,f4];refine Zx (n:=3) (m:=9) (a:=4) (c:=0) LB LB LB LB λV X U O P C l u=>?_;obtain⟨I,A,J,D,G,N⟩:=fin S T l u;simp only[Z3,seval,-ae,I,A,J,D,G];exact N
 by_cases e5:x1=5
 .subst e5;refine Lk ?_;refine zAO (xs:=[2,3,2,3,5]) (t:=h.aM) (cL.cf (zC _ _)) af (by rw[zI,DK rfl];rfl) LB λy g hy Z T=>?_;have S:=(dF.bf _).mv eo Z;have yb:2<=y/\y<=5:=by
   simp only[YH,Ym,or_false]at hy;omega
  have w1:Lp .i64 (y-1)=y-1:=WE;refine Lk ?_;refine zCH T af λV X U O P C g' l u m3 dD=>?_;obtain⟨I,A,J,D,G,N⟩:=fin (S.mv eo m3) dD l u;simp only[Z3,seval,-ae,I,A,J,D,G];exact N
 by_cases e6:x1=6
 .subst e6;refine Lk ?_;refine zZ (n:=6) cL LB λx2 g iX Z T=>?_;have S:=dF.mv eo Z;by_cases f0:x2=0
  .subst f0;refine Lk ?_;refine zAB (p:=3) (m:=2) (M:=[[2,0],[0,2]]) LB LB LB LB LB λa0 V X U O P C Y l u=>?_;obtain⟨I,A,J,D,G,N⟩:=fin (S.cf Y) (T.cf Y) l u;simp only[Z3,seval,-ae,I,A,J,D,G];exact N
  by_cases f1:x2=1
  .subst f1;refine Lk ?_;refine zAB (p:=3) (m:=4) (M:=[[0,1],[2,0]]) LB LB LB LB LB λa0 V X U O P C Y l u=>?_;obtain⟨I,A,J,D,G,N⟩:=fin (S.cf Y) (T.cf Y) l u;simp only[Z3,seval,-ae,I,A,J,D,G];exact N
  by_cases f2:x2=2
  .subst f2;refine Lk ?_;refine zAB (p:=2) (m:=7) (M:=[[0,1,0],[0,0,1],[1,1,0]]) LB LB LB LB LB λa0 V X U O P C Y l u=>?_;obtain⟨I,A,J,D,G,N⟩:=fin (S.cf Y) (T.cf Y) l u;simp only[Z3,seval,-ae,I,A,J,D,G];exact N
  by_cases f3:x2=3
  .subst f3;refine Lk ?_;refine zAB (p:=2) (m:=4) (M:=[[1,1,0],[0,1,1],[0,0,1]]) LB LB LB LB LB λa0 V X U O P C Y l u=>?_;obtain⟨I,A,J,D,G,N⟩:=fin (S.cf Y) (T.cf Y) l u;simp only[Z3,seval,-ae,I,A,J,D,G];exact N
  by_cases f4:x2=4
  .subst f4;refine Lk ?_;refine zAB (p:=2) (m:=2) (M:=[[0,1,0,0],[1,0,0,0],[0,0,0,1],[0,0,1,0]]) LB LB LB LB LB λa0 V X U O P C Y l u=>?_;obtain⟨I,A,J,D,G,N⟩:=fin (S.cf Y) (T.cf Y) l u;simp only[Z3,seval,-ae,I,A,J,D,G];exact N
  simp only[Z3,seval,-ae,f0,f1,f2,f3,f4];refine zAB (p:=5) (m:=3) (M:=[[0,1],[4,4]]) LB LB LB LB LB λa0 V X U O P C Y l u=>?_;obtain⟨I,A,J,D,G,N⟩:=fin (S.cf Y) (T.cf Y) l u;simp only[Z3,seval,-ae,I,A,J,D,G];exact N
 simp only[Z3,seval,-ae,e0,e1,e2,e3,e4,e5,e6];refine zZ (n:=10) cL LB λx2 g iX Z T=>?_;have S:=dF.mv eo Z;have xl:=iX.lt LB;refine Lk ?_;refine zLY ⟨iX.1,af⟩ λV X U O P C l u=>?_;obtain⟨I,A,J,D,G,N⟩:=fin S T l u;simp only[Z3,seval,-ae,I,A,J,D,G];exact N
end
section
open Go.Grp
variable{b:Nat}
def Two(b:Nat)(h:cg)(vO vP vC:PV):Prop:=∃(A sP u l t:Nat) (D G H I J:jZ),vO=.sl A 0 1 D/\vP=.sl sP 0 1 G/\vC=.sl l 0 1 I/\(full 1 D 1/\full 1 G 1/\full 1 H 1/\full 1 I 1/\full 1 J 0)/\
 (b<=A/\A<h.aM/\b<=sP/\sP<h.aM/\b<=u/\u<h.aM/\b<=l/\l<h.aM/\b<=t/\t<h.aM)/\h.bt A=Dc (cS [2])/\h.bt sP=Dc [.sl u 0 1 H]/\h.bt u=Dc (cS [0])/\h.bt l=Dc [.sl t 0 0 J]/\h.bt t=Dc []
def Two.set(a:Two b h vO vP vC){s:Nat}(hs:s<b)(H:List PV):Two b (h.set s H) vO vP vC:=by
 obtain⟨so,sP,sR,sC,t,U,V,X,Y,Z,e1,e2,e3,f,⟨b1,J,l,N,A,S,D,T,G,I⟩,o1,o2,o3,o4,o5⟩:=a;have k:∀{u:Nat},b<=u->(h.set s H).bt u=h.bt u:=λhu=>by rw[zG,DL af]
 exact⟨so,sP,sR,sC,t,U,V,X,Y,Z,e1,e2,e3,f,⟨b1,J,l,N,A,S,D,T,G,I⟩,by rw[k b1];exact o1,by rw[k l];exact o2,by rw[k A];exact o3,by rw[k D];exact o4,by rw[k G];exact o5⟩
def Two.fin(a:Two b h vO vP vC)(kk:cT σ h)(hb:σ.aM<=b)(hk:∀S T N,dU S T N [2] [[0]] [[]]->K (.agg [S,T,N]) σ):Gh σ K (.agg [vO,vP,vC]) h:=by
 obtain⟨G,sP,J,D,t,l,u,H,A,I,rfl,rfl,rfl,⟨f1,f2,f3,f4,f5⟩,⟨b1,V,b3,X,b5,Y,b7,Z,b9,U⟩,o1,o2,o3,o4,o5⟩:=a;have e:(TR.agg [TR.row G l [2],TR.lst sP u [TR.row J H [0]],TR.lst D A [TR.lst t I []]]).pv=.agg [.sl G 0 1 l,.sl sP 0 1 u,.sl D 0 1 A]:=by simp only[TR.pv,TR.pvs,TR.row_pv];rfl
 rw[<-e];have ok:(TR.agg [TR.row G l [2],TR.lst sP u [TR.row J H [0]],TR.lst D A [TR.lst t I []]]).ok h σ.aM:=by
  refine⟨TR.row_ok f1 o1 af V,⟨⟨f2,?_,af,X⟩,TR.row_ok f3 o3 af Y,DJ⟩,⟨⟨f4,?_,af,Z⟩,⟨⟨f5,o5,af,U⟩,DJ⟩,DJ⟩,DJ⟩
  .rw[o2];simp only[TR.pvs,TR.row_pv];rfl
  .rw[o4];simp only[TR.pvs,TR.pv];rfl
 refine Gh.treeF kk (mg ok) λa=>?_
 have:=hk ((TR.row G l [2]).fz a) ((TR.lst sP u [TR.row J H [0]]).fz a) ((TR.lst D A [TR.lst t I []]).fz a) ⟨TR.row_FI,⟨DF,_,_,rfl,(dd.nil _).cons TR.row_FI⟩,⟨DF,_,_,rfl,(dd.nil _).cons ⟨DF,_,_,rfl,dd.nil _⟩⟩⟩
 simpa only[TR.fz,TR.fzs]using this
def zJr{s:Nat}{cap:jZ}(ho:σ.bt s=Dc (cS [2]))(hs:s<σ.aM)(hk:∀wO wP wC,dU wO wP wC [2] [[0]] [[]]->K (.agg [wO,wP,wC]) σ):zA Li 197 [.sl s 0 1 cap] σ K:=by
 refine Lh Tryz.func197 ?_;refine Lk ?_;refine zDC (xs:=[2]) (by rw[zI,DL af];exact ho) (by show s<σ.aM+1;omega) LB λl fT=>?_;refine Lk ?_;refine zF (λm vs h=>(m=1/\vs=[.ptr σ.aM 0,.int .i64 1,.ptr (σ.aM+2) 0,.int .i64 0]/\cT σ h/\h.bt σ.aM=Dc dW/\h.bt (σ.aM+1)=Dc (cS [2])/\h.bt (σ.aM+2)=Dc [.sl (σ.aM+1) 0 1 l,Ln,Ln]/\h.aM=σ.aM+3)\/
   (m=0/\vs=[.ptr σ.aM 0,.int .i64 1,.ptr (σ.aM+2) 0,.int .i64 1]/\cT σ h/\h.bt σ.aM=Dc dW/\∃A D u:PV,h.bt (σ.aM+2)=Dc [A,D,u]/\Two (σ.aM+1) h A D u)) 1 ?_ ?_
 .exact .inl ⟨rfl,rfl,((zC _ _).bf _).bf _,by simp only[Z3,seval,-ae],by simp only[Z3,seval,-ae],by simp only[Z3,seval,-ae],rfl⟩
 rintro m vs h (⟨rfl,rfl,N,J,fx,H,hn⟩|⟨rfl,rfl,N,J,A,D,u,H,tw⟩)
 .have r1:h.dR (σ.aM+2) 1=Dc (Ln):=by rw[zH H];rfl
  have r2:h.dR (σ.aM+2) 2=Dc (Ln):=by rw[zH H];rfl
  have V:¬σ.aM+2=h.aM:=af
  have X:¬σ.aM+2=h.aM+1:=af
  have Y:¬σ.aM+2=h.aM+2:=af
  simp only[Z3,seval,-ae,r1,r2,V,X,Y,uK (n:=1) af,Go.Ab.tn (n:=1) af,ZZ,zBf,zE1,ZG];have w1:h.wr (σ.aM+2) 1 [.sl (h.aM+2) 0 1 (.grown 1)]=Dc (h.set (σ.aM+2) [.sl (σ.aM+1) 0 1 l,.sl (h.aM+2) 0 1 (.grown 1),Ln]):=by rw[zR H,DK ⟨aK,by simp;rfl⟩];rfl
  have Z:(h.set (σ.aM+2) [.sl (σ.aM+1) 0 1 l,.sl (h.aM+2) 0 1 (.grown 1),Ln]).bt (σ.aM+2)=Dc [.sl (σ.aM+1) 0 1 l,.sl (h.aM+2) 0 1 (.grown 1),Ln]:=by rw[zG,DK rfl]
  have tF:(h.set (σ.aM+2) [.sl (σ.aM+1) 0 1 l,.sl (h.aM+2) 0 1 (.grown 1),Ln]).bt (σ.aM+1)=Dc (cS [2]):=by rw[zG,DL af];exact fx
  have jM:(h.set (σ.aM+2) [.sl (σ.aM+1) 0 1 l,.sl (h.aM+2) 0 1 (.grown 1),Ln]).bt σ.aM=Dc dW:=by rw[zG,DL af];exact J
  have wK:cT σ (h.set (σ.aM+2) [.sl (σ.aM+1) 0 1 l,.sl (h.aM+2) 0 1 (.grown 1),Ln]):=N.set af _;have I:(h.set (σ.aM+2) [.sl (σ.aM+1) 0 1 l,.sl (h.aM+2) 0 1 (.grown 1),Ln]).aM=h.aM:=rfl;refine⟨LB,?_⟩;simp only[Z3,seval,-ae,w1];generalize h.set (σ.aM+2) [.sl (σ.aM+1) 0 1 l,.sl (h.aM+2) 0 1 (.grown 1),Ln]=g at *
  rw[<-I];rw[<-I]at Z;refine zF (λm vs h'=>m=0/\vs=[.ptr σ.aM 0,.int .i64 1,.ptr (σ.aM+2) 0,.int .i64 0,.sl (g.aM+3) 0 0 (.b6 0),.int .i64 1]/\h'=(((g.bf [PV.int .i64 0]).bf [PV.sl g.aM 0 1 (jZ.b6 1)]).bf [PV.sl g.aM 0 1 (jZ.b6 1)]).bf []) 0 ?_ ?_
  .exact⟨rfl,rfl,rfl⟩
  rintro m vs h' ⟨rfl,rfl,rfl⟩
  have tz:g.dR (σ.aM+2) 2=Dc (Ln):=by rw[zH Z];rfl
  rw[<-I]at V X Y hn;have n4:¬σ.aM+2=g.aM+3:=af
  have n5:¬σ.aM+2=g.aM+4:=af
  have n6:¬σ.aM+2=g.aM+5:=af
  simp only[Z3,seval,-ae,tz,V,X,Y,n4,n5,n6,ZZ,zBf,zE1,ZG];have w2:g.wr (σ.aM+2) 2 [.sl (g.aM+5) 0 1 (.grown 1)]=Dc (g.set (σ.aM+2) [.sl (σ.aM+1) 0 1 l,.sl (g.aM+2) 0 1 (.grown 1),.sl (g.aM+5) 0 1 (.grown 1)]):=by rw[zR Z,DK ⟨aK,by simp;rfl⟩];rfl
  have rJ:(g.set (σ.aM+2) [.sl (σ.aM+1) 0 1 l,.sl (g.aM+2) 0 1 (.grown 1),.sl (g.aM+5) 0 1 (.grown 1)]).bt (σ.aM+2)=Dc [.sl (σ.aM+1) 0 1 l,.sl (g.aM+2) 0 1 (.grown 1),.sl (g.aM+5) 0 1 (.grown 1)]:=by rw[zG,DK rfl]
  have yg:(g.set (σ.aM+2) [.sl (σ.aM+1) 0 1 l,.sl (g.aM+2) 0 1 (.grown 1),.sl (g.aM+5) 0 1 (.grown 1)]).bt (σ.aM+1)=Dc (cS [2]):=by rw[zG,DL af];exact tF
  have yh:(g.set (σ.aM+2) [.sl (σ.aM+1) 0 1 l,.sl (g.aM+2) 0 1 (.grown 1),.sl (g.aM+5) 0 1 (.grown 1)]).bt σ.aM=Dc dW:=by rw[zG,DL af];exact jM
  have Ei:cT σ (g.set (σ.aM+2) [.sl (σ.aM+1) 0 1 l,.sl (g.aM+2) 0 1 (.grown 1),.sl (g.aM+5) 0 1 (.grown 1)]):=wK.set af _;have Fc:(g.set (σ.aM+2) [.sl (σ.aM+1) 0 1 l,.sl (g.aM+2) 0 1 (.grown 1),.sl (g.aM+5) 0 1 (.grown 1)]).aM=g.aM:=rfl;simp only[Z3,seval,-ae,w2];generalize g.set (σ.aM+2) [.sl (σ.aM+1) 0 1 l,.sl (g.aM+2) 0 1 (.grown 1),.sl (g.aM+5) 0 1 (.grown 1)]=G at *
  rw[<-Fc]at rJ hn ⊢;have S:∀k:Nat,¬σ.aM=G.aM+k:=λk=>by omega
  have T:∀k:Nat,¬σ.aM+1=G.aM+k:=λk=>by omega
  have U:∀k:Nat,¬σ.aM+2=G.aM+k:=λk=>by omega
  have Hv:¬σ.aM=G.aM:=S 0;have ym:¬σ.aM+1=G.aM:=T 0;have Hu:¬σ.aM+2=G.aM:=U 0;have eN:((((((G.bf [PV.int .i64 0]).bf [PV.sl G.aM 0 1 (jZ.b6 1)]).bf [PV.sl G.aM 0 1 (jZ.b6 1)]).bf []).bf [PV.sl (G.aM+3) 0 0 (jZ.b6 0)]).bf [PV.sl (G.aM+3) 0 0 (jZ.b6 0)]).aM=G.aM+6:=rfl;refine⟨0,LB,.inr ⟨rfl,rfl,(((((Ei.bf _).bf _).bf _).bf _).bf _).bf _,?_,_,_,_,?_,σ.aM+1,G.aM+2,G.aM,G.aM+5,G.aM+3,l,.grown 1,.b6 1,.grown 1,.b6 0,rfl,rfl,rfl,⟨fT,.inl rfl,.inr rfl,.inl rfl,.inr rfl⟩,⟨?_,?_,?_,?_,?_,?_,?_,?_,?_,?_⟩,?_,?_,?_,?_,?_⟩⟩
  all_goals first
   |omega
   |(simp only[Z3,seval,-ae,S,T,U,Hv,ym,Hu];done)
   |(simp only[Z3,seval,-ae,S,T,U,Hv,ym,Hu];first|exact jM|exact yh|exact yg|exact rJ|rfl)
 have r3:h.rd (σ.aM+2) 0 3=Dc [A,D,u]:=by rw[zV H];rfl
 obtain⟨f1,f2,f3⟩:A.one=DF/\D.one=DF/\u.one=DF:=by
  obtain⟨so,sP,sR,sC,t,c1,c2,c3,c4,c5,rfl,rfl,rfl,_⟩:=tw;exact⟨rfl,rfl,rfl⟩
 have w:h.wr σ.aM 0 [A,D,u]=Dc (h.set σ.aM [A,D,u]):=by rw[zR J,DK ⟨by simp[dW],by simp[f1,f2,f3]⟩];rfl
 have r4:(h.set σ.aM [A,D,u]).rd σ.aM 0 3=Dc [A,D,u]:=by rw[zi,DK rfl];rfl
 have Kf:=tw.set (s:=σ.aM) af [A,D,u];have wK:cT σ (h.set σ.aM [A,D,u]):=N.set (na _) _;generalize h.set σ.aM [A,D,u]=g at *
 simp only[Z3,seval,-ae,r3,w,r4,f1,f2,f3];exact Kf.fin wK af hk
end
section
open Go.Grp
def zP2:qG [2] [[0]] [[]]:=by
 refine⟨LB,rfl,rfl,LB,LB,λi l=>?_⟩;have e:i=0:=by simp only[Yu,Eg]at l;omega
 subst e;refine⟨⟨⟨rfl,λj u=>?_⟩,LB⟩,rfl,λk A=>by simp at A⟩;have e:j=0:=by simp at u;omega
 subst e;decide
def zLa{l:Int}(so:So σ s0 vS bs)(hk:∀A D u O P C σ',dU A D u O P C->qG O P C->Mv σ s0 σ'->So σ' s0 vS bs->K (.agg [A,D,u]) σ'):zA Li 194 [.ptr s0 0,.int .i64 l] σ K:=by
 have cV:=so.lt;refine Lh Tryz.func194 ?_;refine Lk ?_;generalize X:σ.bf [Ln,Ln,Ln]=H;have fq:H.aM=σ.aM+1:=by rw[<-X];rfl
 have eo:s0<H.aM:=af
 have gv:H.bt σ.aM=Dc dW:=by rw[<-X];simp only[Z3,seval,-ae]
 have rS:KM σ s0 H:=by rw[<-X];exact so.kmK (zC _ _)
 have mh:So H s0 vS bs:=by rw[<-X];exact so.cf (zC _ _)
 clear X;have fin2:∀{g:cg} {A D u:PV} {O:V1} {P:V2} {C:V3},KM σ s0 g->So g s0 vS bs->dU A D u O P C->qG O P C->Gh σ K (.agg [A,D,u]) g:=λ{g A D u O P C} km bQ G J=>
  Gh.km km bQ cV λσ' m' tk kp=>Gh.fin0 kp ⟨G.O.bel _,G.P.bel _,G.C.bel _,DJ⟩ (hk _ _ _ O P C σ' G J m' tk)
 have fin:∀{g:cg} {A D u:PV} {O:V1} {P:V2} {C:V3},KM H s0 g->So g s0 vS bs->dU A D u O P C->qG O P C->
   g.wr σ.aM 0 [A,D,u]=Dc (g.set σ.aM [A,D,u])/\(g.set σ.aM [A,D,u]).rd σ.aM 0 3=Dc [A,D,u]/\Gh σ K (.agg [A,D,u]) (g.set σ.aM [A,D,u]):=λ{g A D u O P C} km bQ G J=>by
  have o1:=G.O.one;have o2:=G.P.one;have o3:=G.C.one;have ob:g.bt σ.aM=Dc dW:=by rw[km.bt af af];exact gv
  exact⟨by rw[zR ob,DK ⟨by simp[dW],by simp[o1,o2,o3]⟩];rfl,by rw[zi,DK rfl];rfl,fin2 ((rS.trans cV km).set (na _) _) (bQ.set af _) G J⟩
 refine zF (λm vs g=>∃i:Nat,i<=12/\m=12-i/\vs=[.ptr s0 0,.int .i64 l,.ptr σ.aM 0,.int .i64 i]/\KM H s0 g/\So g s0 vS bs) 12 ?_ ?_
 .exact⟨0,LB,rfl,rfl,mh.km,mh⟩
 rintro m vs g ⟨i,hi,rfl,rfl,km,cL⟩
 refine Lk ?_;refine Ll (λaG=>?_) λah=>?_
 .refine zJr (s:=g.aM) (by rw[zI,DK rfl];rfl) (YM _) λuO uP uC G=>?_;obtain⟨f1,f2,f3⟩:=fin (km.bf [.int .i64 2]) (cL.cf (zC _ _)) G zP2;have o1:=G.O.one;have o2:=G.P.one;have o3:=G.C.one;generalize g.bf [PV.int .i64 2]=g' at *
  simp only[Z3,seval,-ae,o1,o2,o3,f1,f2];exact f3
 have wi:Lp .i64 ((i:Int)+1)=((i+1:Nat):Int):=WQ
 refine zES cL λvO vP vC O5 P5 C5 N I J m1 bA=>?_;have Y:=I.O.one;have Z:=I.P.one;have p3:=I.C.one;have dF:=(km.mv eo m1).bf [vO,vP,vC];have DC:=bA.cf (zC N [vO,vP,vC]);have xn:=km.aM;have uG:=m1.aM;simp only[Z3,seval,-ae,Y,Z,p3];have ht:H.aM<=N.aM:=af
 have fx:(N.bf [vO,vP,vC]).bt N.aM=Dc [vO,vP,vC]:=by rw[zI,DK rfl]
 generalize N.bf [vO,vP,vC]=g2 at *
 generalize N.aM=t at *
 refine zZ (n:=3) DC LB λx V hx m3 T=>?_;have U:=dF.mv eo m3;have tC:V.bt t=Dc [vO,vP,vC]:=by rw[m3.bt af];exact fx
 have r5:V.rd t 0 3=Dc [vO,vP,vC]:=by rw[zV tC];rfl
 have I9:Fm 36 O5 P5 C5:=J.mono LB;by_cases eF:x=0
 case' pos=>
  subst eF;simp only[Z3,seval,-ae,r5];refine zES T λyO yP yC O' P' C' S cQ xH m4 dN=>?_;have jG:=U.mv eo m4;have Hq:S.bt t=Dc [vO,vP,vC]:=by rw[m4.bt af];exact tC
  have r4:S.rd t 0 3=Dc [vO,vP,vC]:=by rw[zV Hq];rfl
  simp only[Z3,seval,-ae,r4];refine zNW I J cQ xH λvO vP vC O5 P5 C5 I I9=>?_;have Y:=I.O.one;have Z:=I.P.one;have p3:=I.C.one;have w4:S.wr t 0 [vO,vP,vC]=Dc (S.set t [vO,vP,vC]):=by rw[zR Hq,DK ⟨aK,by simp[Y,Z,p3]⟩];rfl
  have U:=jG.set ht [vO,vP,vC];have T:=dN.set (t:=t) af [vO,vP,vC];have tC:(S.set t [vO,vP,vC]).bt t=Dc [vO,vP,vC]:=by rw[zG,DK rfl]
  simp only[Z3,seval,-ae,r4,w4,Y,Z,p3];generalize S.set t [vO,vP,vC]=V at *
  have r5:V.rd t 0 3=Dc [vO,vP,vC]:=by rw[zV tC];rfl
  simp only[Z3,seval,-ae,r5]
 case' neg=>
  simp only[Z3,seval,-ae,eF,r5]
 all_goals
  refine QR I (I9.sz LB) λtt Ez=>?_;cases tt
  .simp only[Z3,seval,-ae,wi];exact⟨_,af,i+1,af,rfl,rfl,U,T⟩
  have hp:=Ez.1 rfl;have hO:=I.O;have Kw:V.dR t 0=Dc vO:=by rw[zH tC];rfl
  simp only[Z3,seval,-ae,Kw];refine zDw hO hp.1 hp.2.2.2.1 λr hr=>?_;by_cases hl:r<=l
  .obtain⟨f1,f2,f3⟩:=fin U T I hp;simp only[Z3,seval,-ae,hl,r5,Y,Z,p3,f1,f2];exact f3
  .simp only[Z3,seval,-ae,hl,wi];exact⟨_,af,i+1,af,rfl,rfl,U,T⟩
end
section
open Go.Grp
def SmP.sz(a:SmP O P C):SzP O P C:=
 ⟨by have:=a.o;omega,⟨by have:=a.p;omega,λr l=>by have:=a.pr r l;omega⟩,⟨by have:=a.c;omega,λq u=>⟨by have:=a.q q u;omega,λr l=>by have:=a.r q u r l;omega⟩⟩⟩
def zL4(J:qG O P C):SmP O P C:=by
 have l:=J.shp;have N:=l.le;obtain⟨D,H⟩:=zIB l;refine⟨af,λa I=>?_,by rw[l.pl];omega,λr A=>by rw[H r A];omega,by rw[l.cl];omega,λq u=>by have:=(D q u).1;omega,λq u r A=>by rw[(D q u).2 r A];omega⟩;obtain⟨j,G,rfl⟩:=YR.1 I
 have:=l.pr j G
 rw[dp G]at this;omega
def Cw.smO(D:qG O M C){A:V2}{u:V3}(a:Cw (λm=>m=Lu O) A u (Lu O) (Lu O) (λi=>(Lu O)-1-i)):SmP O A u:=
 have I:=D.shp.le
 Cw.sm (N:=(Lu O)) ⟨a.pl,a.cl,λr l=>UL (a.pq r l),a.row,λq G r l=>UL (a.cq q G r l)⟩ af af (zL4 D).ob af af λi H=>by omega
def zOS{R:V1->V2->V3->Prop}(N:s0<σ.aM)(T:∀u A l O P C σ',dU u A l O P C->R O P C->Mv σ s0 σ'->So σ' s0 vS bs->K (.agg [u,A,l]) σ')
  {g:cg} (km:KM σ s0 g) (Y:So g s0 vS bs) (X:g.bt σ.aM=Dc dW) {u A l:PV} (D:dU u A l O P C) (S:R O P C):
  u.one=DF/\A.one=DF/\l.one=DF/\g.wr σ.aM 0 [u,A,l]=Dc (g.set σ.aM [u,A,l])/\(g.set σ.aM [u,A,l]).rd σ.aM 0 3=Dc [u,A,l]/\Gh σ K (.agg [u,A,l]) (g.set σ.aM [u,A,l]):=by
 have G:=D.O.one;have H:=D.P.one;have I:=D.C.one;refine⟨G,H,I,by rw[zR X,DK ⟨by simp[dW],by simp[G,H,I]⟩];rfl,by rw[zi,DK rfl];rfl,?_⟩;refine Gh.km (km.set (na _) _) (Y.set af _) N λσ' V J U=>Gh.fin0 U ⟨D.O.bel _,D.P.bel _,D.C.bel _,DJ⟩ (T _ _ _ O P C σ' D S V J)
def zNV{l:Int}(so:So σ s0 vS bs)(hk:∀A D u O P C σ',dU A D u O P C->SmP O P C->Mv σ s0 σ'->So σ' s0 vS bs->K (.agg [A,D,u]) σ'):zA Li 130 [.ptr s0 0,.int .i64 l] σ K:=by
 have cV:=so.lt;refine Lh Tryz.func130 ?_;refine Lk ?_;generalize hH:σ.bf [Ln,Ln,Ln]=H;have fq:H.aM=σ.aM+1:=by rw[<-hH];rfl
 have eo:s0<H.aM:=af
 have gv:H.bt σ.aM=Dc dW:=by rw[<-hH];simp only[Z3,seval,-ae]
 have rS:KM σ s0 H:=by rw[<-hH];exact so.kmK (zC _ _)
 have mh:So H s0 vS bs:=by rw[<-hH];exact so.cf (zC _ _)
 clear hH;have fin:∀{g:cg} {A D u:PV} {O:V1} {P:V2} {C:V3},KM H s0 g->So g s0 vS bs->dU A D u O P C->SmP O P C->
   A.one=DF/\D.one=DF/\u.one=DF/\g.wr σ.aM 0 [A,D,u]=Dc (g.set σ.aM [A,D,u])/\(g.set σ.aM [A,D,u]).rd σ.aM 0 3=Dc [A,D,u]/\Gh σ K (.agg [A,D,u]) (g.set σ.aM [A,D,u]):=λ{g A D u O P C} km bQ I fm=>
  zOS cV hk (rS.trans cV km) bQ (by rw[km.bt af af];exact gv) I fm
 refine zLa mh λvO vP vC O P C g1 I hp m1 cL=>?_;have o1:=I.O.one;have o2:=I.P.one;have o3:=I.C.one;have uG:=m1.aM;have dF:=(mh.km.mv eo m1).bf [vO,vP,vC];have oX:=cL.cf (zC g1 [vO,vP,vC]);have fx:(g1.bf [vO,vP,vC]).bt g1.aM=Dc [vO,vP,vC]:=by rw[zI,DK rfl]
 simp only[Z3,seval,-ae,o1,o2,o3];generalize g1.bf [vO,vP,vC]=g2 at *
 generalize g1.aM=t at *
 refine zZ (n:=24) oX LB λx g3 hx m3 dD=>?_;have eU:=dF.mv eo m3;have tD:g3.bt t=Dc [vO,vP,vC]:=by rw[m3.bt af];exact fx
 have r3:g3.rd t 0 3=Dc [vO,vP,vC]:=by rw[zV tD];rfl
 by_cases e0:x=0
 .subst e0;simp only[Z3,seval,-ae,r3];refine zNX dD I hp λuO uP uC O' N J G S sm m4 T=>?_;obtain⟨U,V,X,Y,Z,f6⟩:=fin (eU.mv eo m4) T S sm;simp only[Z3,seval,-ae,U,V,X,Y,Z];exact f6
 have xN:∀{K':PV->cg->Prop},(∀uO uP uC N J G,dU uO uP uC O N J->SmP O N J->KM H s0 G->So G s0 vS bs->K' (.agg [uO,uP,uC]) G)->zA Li 131 [.ptr s0 0,.agg [vO,vP,vC]] g3 K':=λbF=>
  zGz dD I (zSj hp) λuO uP uC N J G S hq m4 T=>bF uO uP uC N J G S (Cw.smO hp hq) (eU.mv eo m4) T
 by_cases e1:x=1
 .subst e1;simp only[Z3,seval,-ae,r3];refine xN λuO uP uC N J G S sm jG T=>?_;obtain⟨U,V,X,Y,Z,f6⟩:=fin jG T S sm;simp only[Z3,seval,-ae,U,V,X,Y,Z];exact f6
 by_cases e2:x=2
 .subst e2;simp only[Z3,seval,-ae,r3];refine xN λuO uP uC N J G S sm jG T=>?_;obtain⟨U,V,X,Y,Z,f6⟩:=fin jG T S sm;simp only[Z3,seval,-ae,U,V,X,Y,Z];exact f6
 obtain⟨U,V,X,Y,Z,f6⟩:=fin eU dD I (zL4 hp);simp only[Z3,seval,-ae,e0,e1,e2,r3,U,V,X,Y,Z];exact f6
end
section
variable{s:Nat}{cs:List PV}{ls:List LS}
abbrev mJ(n:Nat):V1:=Ep n 0
def zB(n i:Nat):V3:=(DO i).map λj=>Ep (n-1-j) (mJ n)
def Any(_:PV)(_:V1):Prop:=True
def zLr(n i:Nat):zB n (i+1)=zB n i++[Ep (n-1-i) (mJ n)]:=by unfold zB;rw[Ia,Yx];rfl
def zCP(n i:Nat):(zB n i).length=i:=by simp[zB]
def zRL{vs:List PV}{l:V2}(e:(Lu vs)=Lu l):dd Any vs l:=⟨e,λ_ _ _ _ _=>trivial⟩
def zKe{α β:Type}{R:α->β->Prop}{xs:List α}{y:β}{k:Nat}(a:dd R xs (Ep k y)){x:α}(l:R x y):dd R (xs++[x]) (Ep (k+1) y):=by
 rw[HR];exact a.snoc l
structure CycI(T h:cg)(m p0 n q:Nat)(p:Int)(v3 vB:PV)(cP cC:List PV)(ls:List LS)(vR:PV)(cells:List PV):Prop where
 su:SU T h p0 (.int .i64 p) [(v3,cP),(vB,cC)] ls
 row:eA m 1 h vR q cells
 all:dd FI cells (Ep q (mJ n))
 le:m<=h.aM
 lo:∀t,(t=p0\/(∃f∈[(v3,cP),(vB,cC)],∃off l c,f.1=.sl t off l c)\/∃q∈ls,q.s=t)->t<m
def zJq(dg:1<=n)(aX:n<=6)
  (hk:∀sP capP cs sB aj ls h,cT σ h->RS Any FI σ.aM h n sP capP cs sB aj ls (Ep n []) (zB n n)->K (.agg [.int .i64 p,.sl sP 0 n capP,.sl sB 0 n aj]) h):
  zA Li 223 [.int .i64 p,.int .i64 n] σ K:=by
 refine zA.pwf λw=>?_;generalize hT:σ.bf [.int .i64 0,Ln,Ln]=T;have Y:T.aM=σ.aM+1:=by rw[<-hT];rfl
 have cZ:cT σ T:=by rw[<-hT];exact zC σ _
 have wT:PWF T:=by rw[<-hT];exact w.newB ⟨DJ,DJ,DJ,DJ⟩
 have aQ:∀{g:cg} {u0 u1 u2:PV},cT T g->u0.one=DF->u1.one=DF->u2.one=DF->g.wr σ.aM 0 [u0,u1,u2]=Dc (g.set σ.aM [u0,u1,u2])/\(g.set σ.aM [u0,u1,u2]).rd σ.aM 0 3=Dc [u0,u1,u2]:=λ{g u0 u1 u2} k z0 z1 z2=>by
  have aQ:g.bt σ.aM=Dc [.int .i64 0,Ln,Ln]:=by rw[k.bt _ af,<-hT];simp only[Z3,seval,-ae]
  exact⟨by rw[zR aQ,DK ⟨aK,by simp only[Ej,Em,z0,z1,z2];rfl⟩];rfl,by rw[zi,DK rfl];rfl⟩
 refine Lg Tryz.func223 ?_;refine Lk ?_;rw[hT];refine zF (λm us h=>∃(i:Nat) (vQ vB:PV) (cP cC:List PV) (ls:List LS),i<=n/\m=n-i/\us=[.int .i64 n,.ptr σ.aM 0,.ptr (σ.aM+3) 0,.int .i64 i]/\SU T h (σ.aM+3) (.int .i64 p) [(vQ,cP),(vB,cC)] ls/\Lu cP=i/\cC=ls.map LS.pv/\(ls.map LS.s).Nodup/\RowsG FI ls (zB n i)) n ?_ ?_
 .refine⟨0,.sl (σ.aM+1) 0 0 (.b6 0),.sl (σ.aM+2) 0 0 (.b6 0),[],[],[],af,af,rfl,⟨((zC T _).bf _).bf _,by simp only[Z3,seval,-ae,Y],⟨af,by first|(simp only[Z3,seval,-ae,Y];done)|(simp only[Z3,seval,-ae,Y];omega)⟩,λf A=>?_,λf A off l c e=>?_,λi j f g A hg an s off l c e dx l' c' e'=>?_,λq I=>(by cases I),λq I=>(by cases I)⟩,rfl,rfl,FK,dd.nil _⟩
  .simp only[YH,Ym,or_false]at A;rcases A with rfl|rfl
   .exact eA.own (.inr rfl) (by simp only[Z3,seval,-ae,Y]) rfl af (by first|(simp only[Z3,seval,-ae,Y];done)|(simp only[Z3,seval,-ae,Y];omega))
   .exact eA.own (.inr rfl) (by simp only[Z3,seval,-ae,Y]) rfl af (by first|(simp only[Z3,seval,-ae,Y];done)|(simp only[Z3,seval,-ae,Y];omega))
  .simp only[YH,Ym,or_false]at A;rcases A with rfl|rfl<;>(simp only[PV.sl.injEq]at e;omega)
  .match i,j with
   |0,0=>exact an rfl
   |1,1=>exact an rfl
   |0,1|1,0=>cases A;cases hg;simp only[PV.sl.injEq]at e e';omega
   |i+2,_=>simp at A
   |0,j+2|1,j+2=>simp at hg
 as_aux_lemma=>
 rintro m us h ⟨i,vQ,vB,cP,cC,ls,hi,rfl,rfl,a,iT,fj,lU,Z⟩
 have aP:=a.acc (vQ,cP) aK;have aC:=a.acc (vB,cC) aK;have f3:h.rd (σ.aM+3) 0 3=Dc [.int .i64 p,vQ,vB]:=by rw[zV a.bt];rfl
 have f1:h.dR (σ.aM+3) 1=Dc vQ:=by rw[zH a.bt];rfl
 refine Lk ?_;refine Ll (λaG=>?_) λah=>?_
 .as_aux_lemma=>
  have aU:i=n:=af
  subst aU;obtain⟨g1,g2⟩:=aQ a.cf (u0:=.int .i64 p) rfl aP.one aC.one;simp only[Z3,seval,-ae,f3,g1,g2];obtain⟨sP,capP,sB,aj,e1,e2,rs⟩:=a.rs (n:=i) (RP:=Any) (R:=FI) (W:=Ep i []) (B:=zB i i) fj lU (zRL (by rw[iT];simp)) Z aK (zCP i i);subst e1 e2;exact hk sP capP cP sB aj ls _ ((cZ.trans a.cf).set (na _) _) ((rs.low af).move (λt N=>by
   have:=(rs.lt N).1
   rw[zG,DL af]) (na _))
 have aq:i<n:=af
 have bG:Lp .i64 ((i:Int)+1)=((i+1:Nat):Int):=gX aq af;have lj:¬σ.aM+3=h.aM:=by have:=a.p0b.2;omega
 have fB:∀f,f∈[(vQ,cP),(vB,cC)]->f.1.one=DF:=λf A=>(a.acc f A).one;simp only[Z3,seval,-ae,uK (n:=n) af,tn (n:=n) af,zh,bG];refine Ll (λh1=>?_) λh1=>?_
 .generalize hX:(Ep n (PV.int .i64 0))=X;clear hX;simp only[Z3,seval,-ae,lj,f1];refine SU.push (a.keepI (zC h X)) (j:=0) (bytes:=24) rfl af af fB λH h3 z4 z5 z6 J=>?_;simp only[Eu,Ib,YE,Ya]at z6 J;generalize h3.set (σ.aM+3) [.int .i64 p,H,vB]=h4 at *
  simp only[Z3,seval,-ae,z4,z5,z6,bG];clear z4 z5 z6 f1 f3;have Ee:∀t,(t=σ.aM+3\/(∃f∈[(H,cP++[PV.sl h.aM 0 n (.b6 n)]),(vB,cC)],∃off l c,f.1=.sl t off l c)\/∃q∈ls,q.s=t)->t<h4.aM:=λt N=>by
   rcases N with rfl|⟨f,A,off,l,c,e⟩|⟨q,I,rfl⟩
   .exact J.p0b.2
   .exact QB (J.acc f A) e
   .exact(J.lok q I).2.2.2
  refine Zg (λm us h=>∃(q:Nat) (vR:PV) (G cells:List PV),i+(1+q)<=n/\m=n-(i+(1+q))/\us=[.int .i64 n,.ptr σ.aM 0,.ptr (σ.aM+3) 0,.int .i64 i,vR,.int .i64 ((i+(1+q):Nat):Int)]/\CycI T h h4.aM (σ.aM+3) n q p H vB G cC ls vR cells/\Lu G=i+1) (n-(i+1)) (.here ⟨0,.sl h4.aM 0 0 (.b6 0),_,[],af,rfl,rfl,⟨J.keepI (zC _ _),eA.bf _ 1 rfl (na _),dd.nil _,UW _,Ee⟩,by rw[YB];simp;omega⟩) ?_
  rintro m us D ⟨q,vR,G,cells,I,rfl,rfl,c,nL⟩
  refine Lk ?_;refine Ll (λpM=>?_) λiO=>?_
  .have jr:q=n-1-i:=af
   subst jr;obtain⟨su,row,all,le,S⟩:=c;obtain⟨t,cap,rfl,A,q2,q3,q4,q5⟩:=row;have f2:D.dR (σ.aM+3) 2=Dc vB:=by rw[zH su.bt];rfl
   have pE:¬σ.aM+3=D.aM:=by have:=su.p0b.2;omega
   have eK:∀f,f∈[(H,G),(vB,cC)]->f.1.one=DF:=λf A=>(su.acc f A).one;have kJ:(Lu cells)=n-1-i:=af
   have jw:∀u,(u=σ.aM+3\/(∃f∈[(H,G),(vB,cC)],∃off l c,f.1=.sl u off l c)\/∃q∈ls,q.s=u)->t≠u:=λu hu e=>by have:=S u hu;omega
   have lL:=SU.more (q:=⟨t,cap,cells⟩) su ⟨by rw[kJ];exact A,q2,by have:=J.cf.aM;show T.aM<=t;omega,q5⟩ ⟨jw _ (.inl rfl),λf A off l c e=>jw t (.inr (.inl ⟨f,A,off,l,c,e⟩)) rfl⟩;simp only[Z3,seval,-ae,f2,pE];refine SU.push lL (j:=1) (bytes:=24) rfl (by rw[fj,YF,Z.1,zCP];omega) af eK λv5 h5 z1 z2 z3 a5=>?_;simp only[Eu,Ib,YE,Ya]at z3 a5;generalize h5.set (σ.aM+3) [.int .i64 p,H,v5]=h6 at *
   simp only[Z3,seval,-ae,z1,z2,z3,bG];refine⟨_,af,i+1,H,v5,G,_,ls++[⟨t,cap,cells⟩],af,rfl,rfl,a5,nL,?_,?_,?_⟩
   .rw[fj,Yx];simp only[YE,Ya,LS.pv];rw[kJ]
   .rw[Yx,FQ];refine⟨lU,aK,λx hx y hy e=>?_⟩;simp only[YE,Ya,YT]at hy;obtain⟨q',aT,rfl⟩:=YI.1 hx;exact jw q'.s (.inr (.inr ⟨q',aT,rfl⟩)) (by rw[e,hy])
   .rw[zLr];exact dd.snoc Z all
  have aT:i+(1+q)<n:=af
  have e5:Lp .i64 (((i+(1+q):Nat):Int)+1)=((i+(1+(q+1)):Nat):Int):=WQ
  obtain⟨su,row,all,le,S⟩:=c;simp only[Z3,seval,-ae,uK (n:=n) af,tn (n:=n) af,zh];refine ei.pushS (σb:=T) (bytes:=24) (su.cf.bf _) ((row.acc.cf (zC _ _)).low (by have:=J.cf.aM;omega)) rfl af af λv9 h8 k8 p8 o8 n8 l8=>?_;have cb:(D.bf (cS (Ep n 0))).aM=D.aM+1:=rfl;rw[cb]at o8 n8 l8;simp only[Z3,seval,-ae,e5];have EM:∀t,t<h4.aM->∀off l c,vR≠.sl t off l c:=λt N off l c e=>by
   obtain⟨U,V,e',_,_,_,g4,_⟩:=row;rw[e']at e;cases e;omega
  have Dz:SU T h8 (σ.aM+3) (.int .i64 p) [(H,G),(vB,cC)] ls:=su.move k8 af λt N=>by
   have:=S t N
   rw[o8 t af (EM t this),zI,DL af]
  have gf:h8.bt D.aM=Dc (cS (mJ n)):=by
   rw[o8 _ af (λoff l c e=>by have:=QB row e;omega),zI,DK rfl]
  have Ga:T.aM<=D.aM:=su.cf.aM;refine⟨n-(i+(1+(q+1))),af,.fzh D.aM (cS (mJ n)) gf (zL _ _) λo1=>.here ⟨q+1,v9,kq D.aM o1 (cS (mJ n)) G,cells++[.fz DF (.sl o1 0 n (.b6 n)) n (cS (mJ n))],af,rfl,?_,?_,by rw[Zq];exact nL⟩⟩
  .have:sb D.aM o1 (cS (mJ n)) v9=v9:=by
    obtain⟨U,V,e',_,_,_,g4,_⟩:=p8
    have:U≠D.aM:=λe=>n8 D.aM af 0 (q+1) V (by rw[e',e])
    rw[e'];simp only[sb,this,false_and,if_false]
   simp only[kq,sb,this]
  have u5:∀q∈ls,hZ 0 q.cs:=λq I=>by
   obtain⟨k,fQ,rfl⟩:=YR.1 I;exact(Z.2 k _ _ (YQ fQ) (YQ (by rw[<-Z.1];exact fQ))).bI 0
  have Ao:∀q∈ls,q.s≠D.aM:=λq I e=>by have:=S _ (.inr (.inr ⟨q,I,e⟩));omega
  have oU:=SU.fzh (o:=o1) (xs:=cS (mJ n)) wT Dz Ga (by have:=S _ (.inl rfl);omega) rfl (λf A off l c e=>by have:=S _ (.inr (.inl ⟨f,A,off,l,c,e⟩));omega) Ao;rw[LS.fr_same u5]at oU;simp only[YE,Ya]at oU;rw[fj,LS.sbs_pv Ao,<-fj]at oU;refine⟨oU,?_,?_,by show h4.aM<=h8.aM;omega,λt N=>S t ?_⟩
  .obtain⟨U,V,e',g1,g2,g3,g4,g5⟩:=p8;have an:U≠D.aM:=λe=>n8 D.aM af 0 (q+1) V (by rw[e',e]);refine⟨U,V,e',g1,?_,?_,?_,g5⟩
   .rw[Q4 an g2,zLy (all.bI 0) (by simp[gk])]
   .rw[YB]at g3 ⊢;exact g3
   .rcases YG U h4.aM with g|g
    .exact absurd e' (n8 U af 0 (q+1) V)
    .exact g
  .exact zKe all ⟨DF,_,by rw[YL]⟩
  .rcases N with e|⟨f,A,off,l,c,e⟩|e
   .exact .inl e
   .simp only[YH,Ym,or_false]at A;rcases A with rfl|rfl
    .exact .inr (.inl ⟨(H,G),aK,off,l,c,e⟩)
    .exact .inr (.inl ⟨(vB,cC),aK,off,l,c,e⟩)
   .exact .inr (.inr e)
 .have sS:i+1<n:=af
  simp only[Z3,seval,-ae,sS,YL,zJ,UX sS];generalize hX:(List.take (i+1) (Ep n (PV.int .i64 0))++[PV.int .i64 1]++List.drop (i+2) (Ep n (PV.int .i64 0)))=X;clear hX;simp only[Z3,seval,-ae,lj,f1];refine SU.push (a.keepI (zC h X)) (j:=0) (bytes:=24) rfl af af fB λH h3 z4 z5 z6 J=>?_;simp only[Eu,Ib,YE,Ya]at z6 J;generalize h3.set (σ.aM+3) [.int .i64 p,H,vB]=h4 at *
  simp only[Z3,seval,-ae,z4,z5,z6,bG];clear z4 z5 z6 f1 f3;have Ee:∀t,(t=σ.aM+3\/(∃f∈[(H,cP++[PV.sl h.aM 0 n (.b6 n)]),(vB,cC)],∃off l c,f.1=.sl t off l c)\/∃q∈ls,q.s=t)->t<h4.aM:=λt N=>by
   rcases N with rfl|⟨f,A,off,l,c,e⟩|⟨q,I,rfl⟩
   .exact J.p0b.2
   .exact QB (J.acc f A) e
   .exact(J.lok q I).2.2.2
  refine Zg (λm us h=>∃(q:Nat) (vR:PV) (G cells:List PV),i+(1+q)<=n/\m=n-(i+(1+q))/\us=[.int .i64 n,.ptr σ.aM 0,.ptr (σ.aM+3) 0,.int .i64 i,vR,.int .i64 ((i+(1+q):Nat):Int)]/\CycI T h h4.aM (σ.aM+3) n q p H vB G cC ls vR cells/\Lu G=i+1) (n-(i+1)) (.here ⟨0,.sl h4.aM 0 0 (.b6 0),_,[],af,rfl,rfl,⟨J.keepI (zC _ _),eA.bf _ 1 rfl (na _),dd.nil _,UW _,Ee⟩,by rw[YB];simp;omega⟩) ?_
  rintro m us D ⟨q,vR,G,cells,I,rfl,rfl,c,nL⟩
  refine Lk ?_;refine Ll (λpM=>?_) λiO=>?_
  .have jr:q=n-1-i:=af
   subst jr;obtain⟨su,row,all,le,S⟩:=c;obtain⟨t,cap,rfl,A,q2,q3,q4,q5⟩:=row;have f2:D.dR (σ.aM+3) 2=Dc vB:=by rw[zH su.bt];rfl
   have pE:¬σ.aM+3=D.aM:=by have:=su.p0b.2;omega
   have eK:∀f,f∈[(H,G),(vB,cC)]->f.1.one=DF:=λf A=>(su.acc f A).one;have kJ:(Lu cells)=n-1-i:=af
   have jw:∀u,(u=σ.aM+3\/(∃f∈[(H,G),(vB,cC)],∃off l c,f.1=.sl u off l c)\/∃q∈ls,q.s=u)->t≠u:=λu hu e=>by have:=S u hu;omega
   have lL:=SU.more (q:=⟨t,cap,cells⟩) su ⟨by rw[kJ];exact A,q2,by have:=J.cf.aM;show T.aM<=t;omega,q5⟩ ⟨jw _ (.inl rfl),λf A off l c e=>jw t (.inr (.inl ⟨f,A,off,l,c,e⟩)) rfl⟩;simp only[Z3,seval,-ae,f2,pE];refine SU.push lL (j:=1) (bytes:=24) rfl (by rw[fj,YF,Z.1,zCP];omega) af eK λv5 h5 z1 z2 z3 a5=>?_;simp only[Eu,Ib,YE,Ya]at z3 a5;generalize h5.set (σ.aM+3) [.int .i64 p,H,v5]=h6 at *
   simp only[Z3,seval,-ae,z1,z2,z3,bG];refine⟨_,af,i+1,H,v5,G,_,ls++[⟨t,cap,cells⟩],af,rfl,rfl,a5,nL,?_,?_,?_⟩
   .rw[fj,Yx];simp only[YE,Ya,LS.pv];rw[kJ]
   .rw[Yx,FQ];refine⟨lU,aK,λx hx y hy e=>?_⟩;simp only[YE,Ya,YT]at hy;obtain⟨q',aT,rfl⟩:=YI.1 hx;exact jw q'.s (.inr (.inr ⟨q',aT,rfl⟩)) (by rw[e,hy])
   .rw[zLr];exact dd.snoc Z all
  have aT:i+(1+q)<n:=af
  have e5:Lp .i64 (((i+(1+q):Nat):Int)+1)=((i+(1+(q+1)):Nat):Int):=WQ
  obtain⟨su,row,all,le,S⟩:=c;simp only[Z3,seval,-ae,uK (n:=n) af,tn (n:=n) af,zh];refine ei.pushS (σb:=T) (bytes:=24) (su.cf.bf _) ((row.acc.cf (zC _ _)).low (by have:=J.cf.aM;omega)) rfl af af λv9 h8 k8 p8 o8 n8 l8=>?_;have cb:(D.bf (cS (Ep n 0))).aM=D.aM+1:=rfl;rw[cb]at o8 n8 l8;simp only[Z3,seval,-ae,e5];have EM:∀t,t<h4.aM->∀off l c,vR≠.sl t off l c:=λt N off l c e=>by
   obtain⟨U,V,e',_,_,_,g4,_⟩:=row;rw[e']at e;cases e;omega
  have Dz:SU T h8 (σ.aM+3) (.int .i64 p) [(H,G),(vB,cC)] ls:=su.move k8 af λt N=>by
   have:=S t N
   rw[o8 t af (EM t this),zI,DL af]
  have gf:h8.bt D.aM=Dc (cS (mJ n)):=by
   rw[o8 _ af (λoff l c e=>by have:=QB row e;omega),zI,DK rfl]
  have Ga:T.aM<=D.aM:=su.cf.aM;refine⟨n-(i+(1+(q+1))),af,.fzh D.aM (cS (mJ n)) gf (zL _ _) λo1=>.here ⟨q+1,v9,kq D.aM o1 (cS (mJ n)) G,cells++[.fz DF (.sl o1 0 n (.b6 n)) n (cS (mJ n))],af,rfl,?_,?_,by rw[Zq];exact nL⟩⟩
  .have:sb D.aM o1 (cS (mJ n)) v9=v9:=by
    obtain⟨U,V,e',_,_,_,g4,_⟩:=p8
    have:U≠D.aM:=λe=>n8 D.aM af 0 (q+1) V (by rw[e',e])
    rw[e'];simp only[sb,this,false_and,if_false]
   simp only[kq,sb,this]
  have u5:∀q∈ls,hZ 0 q.cs:=λq I=>by
   obtain⟨k,fQ,rfl⟩:=YR.1 I;exact(Z.2 k _ _ (YQ fQ) (YQ (by rw[<-Z.1];exact fQ))).bI 0
  have Ao:∀q∈ls,q.s≠D.aM:=λq I e=>by have:=S _ (.inr (.inr ⟨q,I,e⟩));omega
  have oU:=SU.fzh (o:=o1) (xs:=cS (mJ n)) wT Dz Ga (by have:=S _ (.inl rfl);omega) rfl (λf A off l c e=>by have:=S _ (.inr (.inl ⟨f,A,off,l,c,e⟩));omega) Ao;rw[LS.fr_same u5]at oU;simp only[YE,Ya]at oU;rw[fj,LS.sbs_pv Ao,<-fj]at oU;refine⟨oU,?_,?_,by show h4.aM<=h8.aM;omega,λt N=>S t ?_⟩
  .obtain⟨U,V,e',g1,g2,g3,g4,g5⟩:=p8;have an:U≠D.aM:=λe=>n8 D.aM af 0 (q+1) V (by rw[e',e]);refine⟨U,V,e',g1,?_,?_,?_,g5⟩
   .rw[Q4 an g2,zLy (all.bI 0) (by simp[gk])]
   .rw[YB]at g3 ⊢;exact g3
   .rcases YG U h4.aM with g|g
    .exact absurd e' (n8 U af 0 (q+1) V)
    .exact g
  .exact zKe all ⟨DF,_,by rw[YL]⟩
  .rcases N with e|⟨f,A,off,l,c,e⟩|e
   .exact .inl e
   .simp only[YH,Ym,or_false]at A;rcases A with rfl|rfl
    .exact .inr (.inl ⟨(H,G),aK,off,l,c,e⟩)
    .exact .inr (.inl ⟨(vB,cC),aK,off,l,c,e⟩)
   .exact .inr (.inr e)
def FI0(v:PV)(w:V1):Prop:=w=[]\/FI v w
def FI1(t n:Nat)(v:PV)(w:V1):Prop:=w=[]\/FI v w\/(v=.sl t 0 n (.b6 n)/\w=mJ n)
def zW(n i:Nat):V2:=Ep i (mJ n)++Ep (n-i) []
def zSd{i:Nat}(l:i<n):(zW n i).set i (mJ n)=zW n (i+1):=by
 unfold zW;rw[List.set_append_right _ _ aK,YL,Yk,show n-i=(n-(i+1))+1 by omega,Es,Eu,HR,Yv];rfl
def zMC{t:Nat}(X Y:List PV)(A:t≠h.aM):(h.bf X).set t Y=(h.set t Y).bf X:=by
 have e:∀u,((h.bf X).set t Y).bt u=((h.set t Y).bf X).bt u:=λu=>by
  rw[zG,zI,zI,zG]
  show(if u=t then Dc Y else if u=h.aM then Dc X else h.bt u)=(if u=h.aM then Dc X else if u=t then Dc Y else h.bt u)
  by_cases l:u=t
  .by_cases D:u=h.aM
   .exact absurd (l.symm.trans D) A
   .simp[l,A]
  .simp[l]
 show(⟨h.aM+1,h.top,((h.bf X).set t Y).bt⟩:cg)=⟨h.aM+1,h.top,((h.set t Y).bf X).bt⟩
 rw[funext e]
structure FlatI(T h:cg)(p0 n i:Nat)(p:Int)(sP:Nat)(capP:jZ)(cs:List PV)(sB:Nat)(aj:jZ)(ls:List LS):Prop where
 cf:cT T h
 bt:h.bt p0=Dc [.int .i64 p,.sl sP 0 n capP,.sl sB 0 n aj]
 lt:p0<h.aM
 ge:T.aM<=p0
 ne:∀t,(t=sP\/t=sB\/∃q∈ls,q.s=t)->p0≠t
 rs:RS FI0 FI T.aM h n sP capP cs sB aj ls (zW n i) (zB n n)
def zGx(dg:1<=n)(aX:n<=6)
  (hk:∀sP capP cs sB aj ls h,cT σ h->RS FI FI σ.aM h n sP capP cs sB aj ls (Ep n (mJ n)) (zB n n)->K (.agg [.int .i64 p,.sl sP 0 n capP,.sl sB 0 n aj]) h):
  zA Li 183 [.int .i64 p,.int .i64 n] σ K:=by
 refine zA.pwf λw=>?_;generalize G:σ.bf [.int .i64 0,Ln,Ln]=T;have bT:T.aM=σ.aM+1:=by rw[<-G];rfl
 have cZ:cT σ T:=by rw[<-G];exact zC σ _
 have wT:PWF T:=by rw[<-G];exact w.newB ⟨DJ,DJ,DJ,DJ⟩
 have V:∀{g:cg} {u0 u1 u2:PV},cT T g->u0.one=DF->u1.one=DF->u2.one=DF->g.wr σ.aM 0 [u0,u1,u2]=Dc (g.set σ.aM [u0,u1,u2])/\(g.set σ.aM [u0,u1,u2]).rd σ.aM 0 3=Dc [u0,u1,u2]:=λ{g u0 u1 u2} k z0 z1 z2=>by
  have V:g.bt σ.aM=Dc [.int .i64 0,Ln,Ln]:=by rw[k.bt _ af,<-G];simp only[Z3,seval,-ae]
  exact⟨by rw[zR V,DK ⟨aK,by simp only[Ej,Em,z0,z1,z2];rfl⟩];rfl,by rw[zi,DK rfl];rfl⟩
 refine Lg Tryz.func183 ?_;refine Lk ?_;rw[G];refine zJq dg aX λsP capP cs sB aj ls A k1 S=>?_;have Ah:=k1.aM;refine Lk ?_;refine Zg (λm us h=>∃(i:Nat) (cs:List PV) (ls:List LS),i<=n/\m=n-i/\us=[.int .i64 n,.ptr σ.aM 0,.ptr A.aM 0,.int .i64 i]/\FlatI T h A.aM n i p sP capP cs sB aj ls) n (.here ⟨0,cs,ls,af,af,rfl,⟨k1.bf _,by simp only[Z3,seval,-ae],by show _<A.aM+1;omega,Ah,λt u e=>by have:=(S.lt u).2;omega,?_⟩⟩) ?_
 .rw[show zW n 0=Ep n [] by simp[zW]];exact(S.imp (RP':=FI0) ⟨by rw[S.csl];simp,λj x y N D=>.inl (Yi (Yg D))⟩ S.aB).bf _
 rintro m us l ⟨i,cs,ls,hi,rfl,rfl,⟨keep,obj,lt,ge,ne,rs⟩⟩
 have f3:l.rd A.aM 0 3=Dc [.int .i64 p,.sl sP 0 n capP,.sl sB 0 n aj]:=by rw[zV obj];rfl
 have f1:l.dR A.aM 1=Dc (.sl sP 0 n capP):=by rw[zH obj];rfl
 refine Lk ?_;refine Ll (λaG=>?_) λah=>?_
 .have aU:i=n:=af
  subst aU;obtain⟨g1,g2⟩:=V (u0:=.int .i64 p) (u1:=.sl sP 0 i capP) (u2:=.sl sB 0 i aj) keep rfl rfl rfl;simp only[Z3,seval,-ae,f3,g1,g2];have e0:zW i i=Ep i (mJ i):=by simp[zW]
  rw[e0]at rs;have oZ:RS FI FI T.aM l i sP capP cs sB aj ls (Ep i (mJ i)) (zB i i):=rs.imp ⟨rs.aP.1,λj x y N D=>(rs.aP.2 j x y N D).resolve_left λe=>by
   have:=Yi (Yg D)
   rw[this]at e
   have:=congrArg F6 e
   simp at this;omega⟩ rs.aB
  exact hk sP capP cs sB aj ls _ ((cZ.trans keep).set (na _) _) ((oZ.low af).move (λt u=>by
   have:=(oZ.lt u).1
   rw[zG,DL af]) (na _))
 have I:i<n:=af
 have RH:=keep.aM;have Y:¬A.aM=l.aM:=af
 have bG:Lp .i64 ((i:Int)+1)=((i+1:Nat):Int):=gX I af;have uE:¬sP=l.aM:=λe=>by have:=(rs.lt (.inl e.symm)).2;omega
 have ED:∀t,(t=sP\/t=sB\/∃q∈ls,q.s=t)->t<l.aM:=λt u=>(rs.lt u).2;have xU:=(rs.imp (RP':=FI1 l.aM n) ⟨rs.aP.1,λj x y N D=>(rs.aP.2 j x y N D).imp id .inl⟩ rs.aB).bf (cS (mJ n));obtain⟨w1,U⟩:=xU.putP (i:=i) (v:=.sl l.aM 0 n (.b6 n)) (w:=mJ n) I (.inr (.inr ⟨rfl,rfl⟩)) rfl;rw[zSd I]at U;simp only[Z3,seval,-ae,f1,uK (n:=n) af,tn (n:=n) af,zh,I,w1,bG,Y,uE];rw[zMC _ _ uE]at U;refine⟨n-(i+1),af,.fzh l.aM (cS (mJ n)) (by rw[zI];exact DK rfl) (zL _ _) λZ=>.here ⟨i+1,kq l.aM Z (cS (mJ n)) (cs.set i (.sl l.aM 0 n (.b6 n))),ls.map (LS.fr l.aM Z (cS (mJ n))),af,rfl,by simp only[kq,sb],?_⟩⟩;have H:∀t,(t=sP\/t=sB\/∃q∈ls,q.s=t)->t≠l.aM:=λt u e=>by have:=ED t u;omega
 have B9:=U.fzh (RP':=FI0) (R':=FI) (t:=l.aM) (o:=Z) (xs:=cS (mJ n)) ⟨Ne.symm (H _ (.inl rfl)),Ne.symm (H _ (.inr (.inl rfl))),λq X=>H _ (.inr (.inr ⟨q,X,rfl⟩))⟩ (λv w J=>?_) (λv w J=>by rw[J.sb];exact J)
 .refine⟨((keep.set (by have:=rs.P.2.2.1;omega) _).bf _ |>.kill af).sub wT af,?_,?_,ge,λt u=>ne t ?_,B9⟩
  .rw[Q4 Y (by rw[zI,DL (by exact Y),zG,DL (ne _ (.inl rfl))];exact obj)];simp only[kq,sb,uE,Ne.symm (H _ (.inr (.inl rfl))),H _ (.inr (.inl rfl)),false_and,if_false]
  .show A.aM<l.aM+1;omega
  .rcases u with e|e|⟨q,X,e⟩
   .exact .inl e
   .exact .inr (.inl e)
   .obtain⟨q',aT,rfl⟩:=YI.1 X;exact .inr (.inr ⟨q',aT,e⟩)
 .rcases J with e|e|⟨e,e2⟩
  .exact .inl e
  .exact .inr (by rw[e.sb];exact e)
  .refine .inr ?_;rw[e,e2];simp only[sb,gk,and_self,if_true,na,decide_true];exact⟨DF,_,by rw[YL]⟩
end
section
variable{s b r0:Nat}{cs:List PV}{ls:List LS}{R:PV->V1->Prop}{F F':V2->V3->Prop}
structure rQ(p:Int)(n:Nat)(W:V2)(B:V3):Prop where
 w:eT p n W
 b:lS p n B
def rQ.zero(A:te p)(D:n<=6):rQ p n (Ep n (mJ n)) (zB n n):=by
 have l:El p n (mJ n):=⟨aK,λy G=>by rw[Yi G];have:=A.1;omega⟩
 refine⟨⟨A,D,aK,λi u=>?_⟩,⟨zCP n n,λi u=>by simp[zB],λi u k H=>?_⟩⟩
 .rw[UI];exact⟨l.1,l.2,λj _=>zb _ _⟩
 .simp only[zB,UE,Ux,UI];exact⟨l,λj _=>zb _ _⟩
def rQ.setP(a:rQ p n W B){i:Nat}{w:V1}(hw:El p n w)(u:∀j,j<=i->at_ w j=0):rQ p n (W.set i w) B:=by
 refine⟨⟨a.w.pr,a.w.le,by rw[YA];exact a.w.len,λj l=>?_⟩,a.b⟩;rw[List.getElem_set];split
 .rename_i e;subst e;exact⟨hw.1,hw.2,u⟩
 .exact a.w.row j (by rw[YA]at l;exact l)
def rQ.setB(a:rQ p n W B){i k:Nat}{w:V1}(H:i<n)(hw:El p n w)(I:∀j,j<=i+k+1->at_ w j=0):rQ p n W (B.set i ((B.getD i []).set k w)):=by
 have A:i<Lu B:=by rw[a.b.len];exact H
 refine⟨a.w,⟨by rw[YA];exact a.b.len,λj l=>?_,λj l m u=>?_⟩⟩
 .rw[List.getElem_set];split
  .rename_i e;subst e;rw[YA,zM A];exact a.b.row i A
  .exact a.b.row j (by rw[YA]at l;exact l)
 .rw[YA]at l;by_cases e:i=j
  .subst e;have D:(B.set i ((B.getD i []).set k w))[i]'(by rw[YA];exact l)=(B.getD i []).set k w:=aK
   simp only[D]at u ⊢;rw[List.getElem_set];rw[YA,zM A]at u;split
   .rename_i G;subst G;exact⟨hw,I⟩
   .have:=a.b.ent i l m u
    simp only[zM A];exact this
  .have D:(B.set i ((B.getD i []).set k w))[j]'(by rw[YA];exact l)=B[j]:=by simp[e]
   simp only[D]at u ⊢;exact a.b.ent j l m u
structure SmF(W:V2)(B:V3):Prop where
 w:∀r∈W,(Lu r)<=6
 bl:∀q∈B,(Lu q)<=6
 b:∀q∈B,∀r∈q,(Lu r)<=6
def rQ.sm(a:rQ p n W B):SmF W B:=by
 have D:=a.w.le;refine⟨λr A=>?_,λq u=>?_,λq u r A=>?_⟩
 .obtain⟨i,l,rfl⟩:=YR.1 A;rw[(a.w.row i l).1];exact D
 .obtain⟨i,l,rfl⟩:=YR.1 u;rw[a.b.row i l];omega
 .obtain⟨i,l,rfl⟩:=YR.1 u;obtain⟨k,G,rfl⟩:=YR.1 A;rw[(a.b.ent i l k G).1.1];exact D
def SmF.setP(a:SmF W B){i:Nat}{w:V1}(hw:(Lu w)<=6):SmF (W.set i w) B:=⟨λr l=>by
 rcases Hs l with e|e
 .exact a.w r e
 .rw[e];exact hw,a.bl,a.b⟩
def SmF.setB(a:SmF W B){i k:Nat}{w:V1}(A:i<Lu B)(hw:(Lu w)<=6):SmF W (B.set i ((B.getD i []).set k w)):=by
 have D:B.getD i []∈B:=by rw[zM A];exact YZ A
 refine⟨a.w,λq l=>?_,λq l r u=>?_⟩
 .rcases Hs l with e|e
  .exact a.bl q e
  .rw[e,YA];exact a.bl _ D
 .rcases Hs l with e|e
  .exact a.b q e r u
  .rw[e]at u;rcases Hs u with e2|e2
   .exact a.b _ D r e2
   .rw[e2];exact hw
structure GS(E:Nat->V1->Prop)(R:PV->V1->Prop)(F:V2->V3->Prop)(σ h:cg)(s:Nat)(vC:PV)(bs:V1)(r0:Nat)(p:Int)(n sP:Nat)(capP:jZ)(sB:Nat)(aj:jZ):Prop where
 km:KM σ s h
 so:So h s vC bs
 sl:s<σ.aM
 bt:h.bt r0=Dc [.int .i64 p,.sl sP 0 n capP,.sl sB 0 n aj]
 r0b:σ.aM<=r0/\r0<h.aM
 rs:∃cs ls W B,RS FI R σ.aM h n sP capP cs sB aj ls W B/\F W B/\(∀t,(t=sP\/t=sB\/∃q∈ls,q.s=t)->r0≠t)/\∀u x,E u x->∀t,(t=sP\/t=sB\/∃q∈ls,q.s=t)->u≠t
 ex:∀u x,E u x->h.bt u=Dc (cS x)/\σ.aM<=u/\u<h.aM/\u≠r0
def E0(_:Nat)(_:V1):Prop:=False
variable{E:Nat->V1->Prop}
def GS.rd(a:GS E R F σ h s vC bs r0 p n sP capP sB aj):h.rd r0 0 3=Dc [.int .i64 p,.sl sP 0 n capP,.sl sB 0 n aj]/\h.dR r0 0=Dc (.int .i64 p)/\h.dR r0 1=Dc (.sl sP 0 n capP)/\h.dR r0 2=Dc (.sl sB 0 n aj):=by
 refine⟨by rw[zV a.bt];rfl,?_,?_,?_⟩<;>(rw[zH a.bt];rfl)
def GS.mv(a:GS E R F σ h s vC bs r0 p n sP capP sB aj)(m:Mv h s h')(H:So h' s vC bs):GS E R F σ h' s vC bs r0 p n sP capP sB aj:=by
 have hs:=a.sl;obtain⟨cs,ls,W,B,rs,f,ne⟩:=a.rs;exact⟨a.km.mv hs m,H,hs,by rw[m.bt (by have:=a.r0b.1;omega)];exact a.bt,⟨a.r0b.1,by rw[m.aM];exact a.r0b.2⟩,⟨cs,ls,W,B,rs.mv hs m,f,ne⟩,λu x e=>by
  obtain⟨l,A,D,G⟩:=a.ex u x e;exact⟨by rw[m.bt af];exact l,A,by rw[m.aM];exact D,G⟩⟩
def GS.cf(a:GS E R F σ h s vC bs r0 p n sP capP sB aj)(k:cT h h'):GS E R F σ h' s vC bs r0 p n sP capP sB aj:=by
 obtain⟨cs,ls,W,B,rs,f,ne⟩:=a.rs;exact⟨a.km.cf k,a.so.cf k,a.sl,by rw[k.bt _ a.r0b.2];exact a.bt,⟨a.r0b.1,Yw a.r0b.2 k.aM⟩,⟨cs,ls,W,B,rs.cf k,f,ne⟩,λu x e=>by
  obtain⟨A,D,l,G⟩:=a.ex u x e;exact⟨by rw[k.bt _ l];exact A,D,Yw l k.aM,G⟩⟩
def GS.bf(a:GS E R F σ h s vC bs r0 p n sP capP sB aj)(xs:List PV):GS E R F σ (h.bf xs) s vC bs r0 p n sP capP sB aj:=a.cf (zC h xs)
def GS.newE{t:Nat}{x:V1}(a:GS E0 R F σ h s vC bs r0 p n sP capP sB aj)(l:t=h.aM):GS (λu y=>u=t/\y=x) R F σ (h.bf (cS x)) s vC bs r0 p n sP capP sB aj:=by
 subst l;have b:=a.bf (cS x);obtain⟨cs,ls,W,B,rs,f,ne,_⟩:=b.rs;obtain⟨I,G,H,D,A,f',ne',_⟩:=a.rs;refine⟨b.km,b.so,b.sl,b.bt,b.r0b,⟨I,G,H,D,A.bf _,f',ne',λu y e t l J=>?_⟩,λu y e=>?_⟩
 .have:=(A.lt l).2
  omega
 .obtain⟨rfl,rfl⟩:=e;exact⟨by rw[zI,DK rfl],by have:=a.km.aM;omega,YM _,by have:=a.r0b.2;omega⟩
def GS.setE{t i:Nat}{x:V1}{y:Int}(a:GS (λu y=>u=t/\y=x) R F σ h s vC bs r0 p n sP capP sB aj)(H:i<Lu x):
  ∃h',h.wr t i [.int .i64 y]=Dc h'/\GS (λu z=>u=t/\z=x.set i y) R F σ h' s vC bs r0 p n sP capP sB aj:=by
 obtain⟨D,l,G,A⟩:=a.ex t x ⟨rfl,rfl⟩;obtain⟨cs,ls,W,B,rs,f,ne,nx⟩:=a.rs;have hw:=zBI (v:=.int .i64 y) D (by rw[zJ];exact H) rfl;rw[zL6]at hw;refine⟨_,hw,a.km.set l _,a.so.set (by have:=a.sl;omega) _,a.sl,by rw[zG,DL (Ne.symm A)];exact a.bt,a.r0b,⟨cs,ls,W,B,rs.move (λu I=>by rw[zG,DL (Ne.symm (nx t x ⟨rfl,rfl⟩ u I))]) (na _),f,ne,λu z e J N=>?_⟩,λu z e=>?_⟩
 .obtain⟨rfl,rfl⟩:=e;exact nx _ x ⟨rfl,rfl⟩ J N
 .obtain⟨rfl,rfl⟩:=e;exact⟨by rw[zG,DK rfl],l,G,A⟩
def GS.putP(a:GS E R F σ h s vC bs r0 p n sP capP sB aj){i:Nat}{v:PV}{w:V1}(S:i<n)(l:FI v w)(N:∀W B,F W B->F' (W.set i w) B):
  ∃h',h.wr sP i [v]=Dc h'/\GS E R F' σ h' s vC bs r0 p n sP capP sB aj:=by
 obtain⟨cs,ls,W,B,rs,f,ne,nx⟩:=a.rs;obtain⟨w1,T⟩:=rs.putP S l l.one;have I:=rs.P.2.2.1;have J:=ne _ (.inl rfl);refine⟨_,w1,a.km.set I _,a.so.set (by have:=a.sl;omega) _,a.sl,by rw[zG,DL J];exact a.bt,a.r0b,⟨_,ls,_,B,T,N W B f,ne,nx⟩,λu x e=>?_⟩;obtain⟨A,D,G,H⟩:=a.ex u x e;exact⟨by rw[zG,DL (nx u x e _ (.inl rfl))];exact A,D,G,H⟩
def GS.rdB(a:GS E R F σ h s vC bs r0 p n sP capP sB aj){i:Nat}(D:i<n)(A:∀W B,F W B->(B.getD i []).length=n-1-i):∃t cap,h.dR sB i=Dc (.sl t 0 (n-1-i) cap):=by
 obtain⟨cs,ls,W,B,rs,f,ne⟩:=a.rs;obtain⟨q,G,u,l⟩:=rs.rdB D;rw[A W B f]at l;exact⟨q.s,q.cap,by rw[u,LS.pv,l]⟩
def GS.putB{R':PV->V1->Prop}(a:GS E R F σ h s vC bs r0 p n sP capP sB aj){i k t l:Nat}{cap:jZ}{v:PV}{w:V1}(N:i<n)(T:h.dR sB i=Dc (.sl t 0 l cap))(S:k<l)(hR:∀v w,R v w->R' v w)(hv:R' v w)(ho:v.one=DF)(hF:∀W B,i<Lu B->F W B->F' W (B.set i ((B.getD i []).set k w))):
    ∃h',h.wr t k [v]=Dc h'/\GS E R' F' σ h' s vC bs r0 p n sP capP sB aj/\h'.dR sB i=Dc (.sl t 0 l cap)/\h'.dR t k=Dc v:=by
  obtain⟨cs,ls,W,B,rs,f,ne,nx⟩:=a.rs;obtain⟨q,I,J,h3⟩:=rs.rdB N;rw[J,LS.pv,YC,PV.sl.injEq]at T;obtain⟨rfl,_,rfl,rfl⟩:=T;have xU:RS FI R' σ.aM h n sP capP cs sB aj ls W B:=rs.imp rs.aP ⟨rs.aB.1,λj x y U V=>⟨(rs.aB.2 j x y U V).1,λj' x' y' ij yv=>hR _ _ ((rs.aB.2 j x y U V).2 j' x' y' ij yv)⟩⟩;obtain⟨w1,oZ⟩:=xU.putB I S hv ho;have D:=Yg I;have g1:=(rs.lok q D).2.2.1;have g2:=ne _ (.inr (.inr ⟨q,D,rfl⟩));have g3:=rs.lne q D;have Y:i<Lu B:=by rw[rs.lB];exact N
  have H:∀{X:Nat},(∀t,(t=sP\/t=sB\/∃q∈ls,q.s=t)->X≠t)->∀u,(u=sP\/u=sB\/∃G∈ls.set i ⟨q.s,q.cap,q.cs.set k v⟩,G.s=u)->X≠u:=λne u hu=>by
    rcases hu with e|e|⟨G,Z,e⟩
    .exact ne u (.inl e)
    .exact ne u (.inr (.inl e))
    . obtain⟨j,A⟩:=Ic Z
      rw[Y4]at A;split at A
      . first
        |(cases A;exact ne u (.inr (.inr ⟨q,D,e⟩)))
        | (split at A
           .cases A;exact ne u (.inr (.inr ⟨q,D,e⟩))
           .cases A)
      .exact ne u (.inr (.inr ⟨G,Yg A,e⟩))
  refine⟨_,w1,⟨a.km.set g1 _,a.so.set (by have:=a.sl;omega) _,a.sl,by rw[zG,DL g2];exact a.bt,a.r0b,⟨cs,_,W,_,oZ,hF W B Y f,H ne,λu x e=>H (nx u x e)⟩,λu x e=>?_⟩,?_,?_⟩
  . obtain⟨y1,y2,y3,y4⟩:=a.ex u x e
    exact⟨by rw[zG,DL (nx u x e _ (.inr (.inr ⟨q,D,rfl⟩)))];exact y1,y2,y3,y4⟩
  .rw[zFt,DL (Ne.symm g3.2)];exact J
  .rw[zFt,DK rfl,Y4,DK rfl,DK S]
def GS.sBb{E:Nat->V1->Prop}(a:GS E R F σ h s vC bs r0 p n sP capP sB aj):σ.aM<=sB/\sB<h.aM:=by
 obtain⟨cs,ls,W,B,rs,_⟩:=a.rs;exact rs.Q.2.2
def Mv.dR(m:Mv h s h'){u i:Nat}(l:u≠s):h'.dR u i=h.dR u i:=by simp only[cg.dR,m.bt l]
def PWF.setS{A u:List PV}(w:PWF σ)(D:σ.bt s=Dc A)(G:hZ 0 u):PWF (σ.set s u):=by
 have hs:s<σ.aM:=w.lt D;refine⟨λt l=>?_,λt cs l=>?_⟩
 .have dY:σ.aM<=t:=l;rw[zG,DL af];exact w.wf t dY
 .rw[zG]at l;split at l
  .cases l;exact hZ.up (YV _) G
  .exact w.bel t cs l
def KM.fr{t o u:Nat}{xs:List PV}(k:KM σ s h)(w:PWF σ)(G:σ.aM<=t)(J:h.top<=u):KM σ s (((h.kill t).sub t o xs).up u):=by
 obtain⟨σ',⟨I,l,A,D,rfl⟩,q⟩:=k;have H:cT (σ.set s l) ((h.kill t).sub t o xs):=(q.kill (s:=t) (by exact G)).sub (PWF.setS w A D) (by exact G);exact⟨_,⟨I,l,A,D,rfl⟩,H.aM,UJ q.top J,H.bt⟩
def So.fr{t o u:Nat}{xs:List PV}(k:So h s vC bs)(l:s≠t):So (((h.kill t).sub t o xs).up u) s vC bs:=by
 obtain⟨a,A,S⟩:=k;refine⟨a,A,?_,S.lt,S.fb,S.byt,S.le,S.sd⟩
 have:=Q4 (o:=o) (xs:=xs) l S.bt
 rw[Q5 (YV _) (S.fb.bels 0 _ _)]at this;exact this
def FI2(t n:Nat)(cap:jZ)(X:V1)(v:PV)(w:V1):Prop:=FI v w\/(v=.sl t 0 n cap/\w=X)
def GS.setp{E:Nat->V1->Prop}(a:GS E R F σ h s vC bs r0 p n sP capP sB aj)(q:Int):
  ∃h',h.wr r0 0 [.int .i64 q]=Dc h'/\GS E R F σ h' s vC bs r0 q n sP capP sB aj:=by
 obtain⟨cs,ls,W,B,rs,f,ne,nx⟩:=a.rs;refine⟨_,zBI a.bt aK rfl,a.km.set a.r0b.1 _,a.so.set (by have:=a.sl;have:=a.r0b.1;omega) _,a.sl,by rw[zG,DK rfl];rfl,a.r0b,⟨cs,ls,W,B,rs.move (λt H=>by rw[zG,DL (Ne.symm (ne t H))]) (na _),f,ne,nx⟩,λu x e=>?_⟩;obtain⟨A,D,G,l⟩:=a.ex u x e;exact⟨by rw[zG,DL l];exact A,D,G,l⟩
def GS.imp{E:Nat->V1->Prop}(a:GS E R F σ h s vC bs r0 p n sP capP sB aj)(l:∀W B,F W B->F' W B):GS E R F' σ h s vC bs r0 p n sP capP sB aj:=by
 obtain⟨cs,ls,W,B,rs,f,ne⟩:=a.rs;exact⟨a.km,a.so,a.sl,a.bt,a.r0b,⟨cs,ls,W,B,rs,l W B f,ne⟩,a.ex⟩
def gw:((0:Int)<((1:Nat):Int))/\((0:Int)<((2:Nat):Int))/\((0:Int)<((3:Nat):Int))/\((0:Int)<((4:Nat):Int))/\((0:Int)<((5:Nat):Int))/\((0:Int)<((6:Nat):Int))/\((1:Int)<((2:Nat):Int))/\((1:Int)<((3:Nat):Int))/\((1:Int)<((4:Nat):Int))/\((1:Int)<((5:Nat):Int))/\((1:Int)<((6:Nat):Int))/\((2:Int)<((3:Nat):Int))/\((2:Int)<((4:Nat):Int))/\((2:Int)<((5:Nat):Int))/\((2:Int)<((6:Nat):Int))/\((3:Int)<((4:Nat):Int))/\((3:Int)<((5:Nat):Int))/\((3:Int)<((6:Nat):Int)):=by decide
def ownFI{v:PV}{xs:V1}(D:FI v xs)(u:(Lu xs)<=4294967296)(A:∀l,FI l xs->K l σ):zA Li 206 [v] σ K:=by
 obtain⟨w,a,rfl⟩:=D;exact zIM rfl u λv=>A _ ⟨_,_,rfl⟩
end
section
variable{s b r0:Nat}{cs:List PV}{ls:List LS}{R:PV->V1->Prop}{F':V2->V3->Prop}
def GS.tail{E:Nat->V1->Prop}{σ h:cg}{K:PV->cg->Prop}{r0 n:Nat}(a:GS E R (rQ p n) σ h s vC bs r0 p n sP capP sB aj)(G:2<=p/\p<=7)(i k:Nat)(T:n<=6)(N:i<k)(A:k<=n)
  (D:∀v g g',v.cells=[v]->g.dR r0 1=Dc (.sl sP 0 n capP)->g.wr sP i [v]=Dc g'->GS E R (rQ p n) σ g' s vC bs r0 p n sP capP sB aj->K v g):
  zA Li 182 [.ptr s 0,.agg [.int .i64 p,.sl sP 0 n capP,.sl sB 0 n aj],.int .i64 k] h K:=
 ql (n:=n) (k:=k) a.so G rfl rfl rfl af A λv x g H I l m u=>by
  obtain⟨_,_,J,_⟩:=(a.mv m u).rd;obtain⟨g',w,gs⟩:=(a.mv m u).putP (F':=rQ p n) (i:=i) (w:=x) af l (λW B q=>q.setP H λj S=>I j af);exact D v g g' l.cells J w gs
def GS.unitB{E:Nat->V1->Prop}{σ h:cg}{v:PV}{r0 n m i k t l:Nat}{cap:jZ}(a:GS E FI (rQ p n) σ h s vC bs r0 p n sP capP sB aj)(A:h.dR sB i=Dc (.sl t 0 l cap))(u:FI v (cD n m))(q:i+k+1<m/\m<n/\k<l):
  ∃h',h.wr t k [v]=Dc h'/\GS E FI (rQ p n) σ h' s vC bs r0 p n sP capP sB aj:=by
 obtain⟨h',w,g,_⟩:=a.putB (F':=rQ p n) (i:=i) (k:=k) af A af (λ_ _ h=>h) u u.one (λW B _ q=>q.setB af (zQ q.w.pr af) (λj D=>by rw[zw af,DL af]));exact⟨h',w,g⟩
def zGw(so:So σ s vC bs)
  (hk:∀p n sP capP cs sB aj ls h W B,jF p->1<=n->fG p n<=729->rQ p n W B->KM σ s h->So h s vC bs->RS FI FI σ.aM h n sP capP cs sB aj ls W B->K (.agg [.int .i64 p,.sl sP 0 n capP,.sl sB 0 n aj]) h):
  zA Li 181 [.ptr s 0] σ K:=by
 refine zA.pwf λw=>?_;have dZ:=so.lt;refine zA.gh ?_;generalize hT:σ.bf [.int .i64 0,Ln,Ln]=T;have bT:T.aM=σ.aM+1:=by rw[<-hT];rfl
 have cZ:cT σ T:=by rw[<-hT];exact zC σ _
 have ko:So T s vC bs:=so.cf cZ;have iu:s<T.aM:=ko.lt;have lQ:T.bt σ.aM=Dc [.int .i64 0,Ln,Ln]:=by rw[<-hT];simp only[Z3,seval,-ae]
 refine qH mix Tryz.func181 ?_;refine Lk ?_;rw[hT];refine zZ ko LB λl h1 nl m1 cL=>?_;have HH:=nl.1;have K2:=nl.lt LB;refine Lk ?_;refine zZ cL LB λx h2 hx m2 bA=>?_;have x0:=hx.1;have x4:=hx.lt LB;have wx:Lp .i64 (1+x)=1+x:=WE;obtain⟨n,dg,aX,H4,xg⟩:∃n:Nat,1<=n/\n<=6/\([1+x,3,4,4,5,5,6,3]:V1)[l.toNat]? = Dc (n:Int)/\(l=0\/(l=1/\n=3)\/(l=2/\n=4)\/(l=3/\n=4)\/(l=4/\n=5)\/(l=5/\n=5)\/(l=6/\n=6)\/(l=7/\n=3)):=by
  have e:l=0\/l=1\/l=2\/l=3\/l=4\/l=5\/l=6\/l=7:=af
  rcases e with rfl|rfl|rfl|rfl|rfl|rfl|rfl|rfl
  .exact⟨(1+x).toNat,af,af,by simp;omega,.inl rfl⟩
  .exact⟨3,af,af,rfl,aK⟩
  .exact⟨4,af,af,rfl,aK⟩
  .exact⟨4,af,af,rfl,aK⟩
  .exact⟨5,af,af,rfl,aK⟩
  .exact⟨5,af,af,rfl,aK⟩
  .exact⟨6,af,af,rfl,aK⟩
  .exact⟨3,af,af,rfl,aK⟩
 have kv:([PV.int .i64 (1+x),.int .i64 3,.int .i64 4,.int .i64 4,.int .i64 5,.int .i64 5,.int .i64 6,.int .i64 3]:List PV)[l.toNat]? = Dc (.int .i64 (n:Int)):=by
  have:=congrArg (Option.map (PV.int .i64)) H4
  rw[<-UZ]at this;exact this
 have Fk:0<=l/\l<((8:Nat):Int):=⟨HH,K2⟩;simp only[Z3,seval,-ae,wx,kv,Fk];have dD:So (h2.bf [PV.int .i64 (1+x),.int .i64 3,.int .i64 4,.int .i64 4,.int .i64 5,.int .i64 5,.int .i64 6,.int .i64 3]) s vC bs:=bA.cf (zC _ _);have eU:KM T s (h2.bf [PV.int .i64 (1+x),.int .i64 3,.int .i64 4,.int .i64 4,.int .i64 5,.int .i64 5,.int .i64 6,.int .i64 3]):=((ko.km.mv iu m1).mv iu m2).bf _;generalize h2.bf [PV.int .i64 (1+x),.int .i64 3,.int .i64 4,.int .i64 4,.int .i64 5,.int .i64 5,.int .i64 6,.int .i64 3]=h3 at *
 clear H4 kv;refine zJp dD aX λp h4 hp bh m4 dN=>?_;have jG:=eU.mv iu m4;have gA:=hp.bd;have G:2<=p/\p<=7:=af
 refine Lk ?_;refine zGx dg aX λsP capP cs sB aj ls h5 k5 mi=>?_;have fF:=dN.cf k5;have fW:=jG.cf k5;have NV:=k5.aM;have IZ:=jG.aM;have s9:Lp .i64 ((n:Int)-1)=((n-1:Nat):Int):=WQ
 have mr:te p:=gA;have gs:GS E0 FI (rQ p n) T (h5.bf [.int .i64 p,.sl sP 0 n capP,.sl sB 0 n aj]) s vC bs h5.aM p n sP capP sB aj:=
  ⟨fW.bf _,fF.cf (zC _ _),iu,by rw[zI,DK rfl],⟨af,YM _⟩,⟨cs,ls,_,_,(mi.low IZ).bf _,rQ.zero mr aX,λt ht e=>by have:=(mi.lt ht).2;omega,λu x e=>e.elim⟩,λu x e=>e.elim⟩
 clear mi;have fin:∀{g:cg},GS E0 FI (rQ p n) T g s vC bs h5.aM p n sP capP sB aj->g.rd h5.aM 0 3=Dc [.int .i64 p,.sl sP 0 n capP,.sl sB 0 n aj]/\g.wr σ.aM 0 [.int .i64 p,.sl sP 0 n capP,.sl sB 0 n aj]=Dc (g.set σ.aM [.int .i64 p,.sl sP 0 n capP,.sl sB 0 n aj])
   /\(g.set σ.aM [.int .i64 p,.sl sP 0 n capP,.sl sB 0 n aj]).rd σ.aM 0 3=Dc [.int .i64 p,.sl sP 0 n capP,.sl sB 0 n aj]/\Gh σ K (.agg [.int .i64 p,.sl sP 0 n capP,.sl sB 0 n aj]) (g.set σ.aM [.int .i64 p,.sl sP 0 n capP,.sl sB 0 n aj]):=λ{g} a=>by
  have aQ:g.bt σ.aM=Dc [.int .i64 0,Ln,Ln]:=by rw[a.km.bt af af];exact lQ
  obtain⟨cs,ls,W,B,rs,f,ne,_⟩:=a.rs;refine⟨a.rd.1,by rw[zR aQ,DK ⟨aK,by rfl⟩];rfl,by rw[zi,DK rfl];rfl,Gh.ret (hk p n sP capP cs sB aj ls _ W B hp dg bh f ?_ (a.so.set af _) ((rs.low af).move (λt ht=>?_) (na _)))⟩
  .exact((so.kmK cZ).trans dZ a.km).set (na _) _
  .have:=(rs.lt ht).1
   rw[zG,DL af]
 have S:∀{W:V2} {B:V3} {i:Nat},rQ p n W B->i<n->(B.getD i []).length=n-1-i:=λ{W B i} q hi=>by
  have h1:i<Lu B:=by rw[q.b.len];exact hi
  rw[zM h1];exact q.b.row i h1
 have hle:El p n (cD n (n-1)):=zQ mr af;simp only[Z3,seval,-ae,s9];refine Q8 (n:=n) (k:=n-1) rfl rfl rfl af af λvl A=>?_;generalize h5.bf [PV.int .i64 p,.sl sP 0 n capP,.sl sB 0 n aj]=g5 at *
 generalize h5.aM=r0 at *
 clear m1 m2 m4 cL bA dD dN fF eU jG fW k5 NV IZ;rcases xg with rfl|⟨rfl,rfl⟩|⟨rfl,rfl⟩|⟨rfl,rfl⟩|⟨rfl,rfl⟩|⟨rfl,rfl⟩|⟨rfl,rfl⟩|⟨rfl,rfl⟩
 .as_aux_lemma=>
  refine Lk ?_;refine zF (λm us g=>∃i:Nat,i<=n/\m=n-i/\us=[.ptr s 0,.ptr σ.aM 0,.int .i64 n,.ptr r0 0,.int .i64 i]/\GS E0 FI (rQ p n) T g s vC bs r0 p n sP capP sB aj) n ⟨0,af,af,rfl,gs⟩ ?_
  rintro m us g ⟨i,hi,rfl,rfl,a⟩
  refine Lk ?_;refine Ll (λaG=>?_) λah=>?_
  .obtain⟨H,D,I,J⟩:=fin a;simp only[Z3,seval,-ae,H,D,I];exact J
  have aq:i<n:=af
  have bG:Lp .i64 ((i:Int)+1)=((i+1:Nat):Int):=gX aq af;obtain⟨N,X,U,V⟩:=a.rd;simp only[Z3,seval,-ae,N,U,bG];refine ql (vP:=.sl sP 0 n capP) (vB:=.sl sB 0 n aj) (n:=n) (k:=i+1) a.so G rfl rfl rfl af af λv x k hx hz hv m so=>?_;have gt:=a.mv m so;obtain⟨p3,p0,Y,p2⟩:=gt.rd;obtain⟨h9,w9,qe⟩:=gt.putP (F':=rQ p n) (i:=i) (w:=x) aq hv (λW B q=>q.setP hx (λj hj=>hz j af));simp only[Z3,seval,-ae,Y,w9,hv.cells,aq,bG];exact⟨_,af,i+1,af,rfl,rfl,qe⟩
 .as_aux_lemma=>
  refine Lk ?_;obtain⟨Oc,Ox,Ol,GY⟩:=gs.rd;obtain⟨Pr,Sc,x5⟩:=gs.rdB (i:=0) af (λW B q=>S q af);obtain⟨Nn,B2,oh⟩:=gs.unitB (k:=0) x5 A af;simp only[Z3,seval,-ae,GY,x5,B2,gw,A.cells];obtain⟨GV,Ow,G6,Oh⟩:=oh.rd;simp only[Z3,seval,-ae,GV,G6,gw];refine oh.tail G 0 2 af af af λPb PU Na vK DX B0 lG=>?_;simp only[Z3,seval,-ae,DX,B0,gw,vK];obtain⟨GU,Ov,G5,Og⟩:=lG.rd;simp only[Z3,seval,-ae,GU,G5,gw];refine lG.tail G 1 2 af af af λPa PT M8 vJ DW BY pZ=>?_;simp only[Z3,seval,-ae,DW,BY,gw,vJ];obtain⟨H,D,I,J⟩:=fin pZ;simp only[Z3,seval,-ae,H,D,I];exact J
 .as_aux_lemma=>
  refine Lk ?_;obtain⟨N,X,U,V⟩:=gs.rd;obtain⟨t,c,rB⟩:=gs.rdB (i:=0) af (λW B q=>S q af);have HT:=gs.sBb;simp only[Z3,seval,-ae,N,V,rB,gw];refine zGu (vP:=.sl sP 0 4 capP) (vB:=.sl sB 0 4 aj) (n:=4) (k:=2) gs.so G rfl rfl rfl af af λx k cap hx hz bY m Kn=>?_;have gt:=(gs.mv m Kn).newE (t:=g5.aM) (x:=x) m.aM.symm;obtain⟨p3,p0,Y,p2⟩:=gt.rd;have oD:(k.bf (cS x)).dR sB 0=Dc (.sl t 0 (4-1-0) c):=by rw[zFu,DL (by rw[m.aM];omega),m.dR af];exact rB
  have bj:=hx.1;have hX:El p 4 (x.set 2 1):=⟨by rw[YA];exact bj,λz dQ=>by
   rcases Hs dQ with e|e
   .exact hx.2 z e
   .omega⟩
  have Nq:=hX.1;obtain⟨Nn,B2,oh,q1,q2⟩:=gt.putB (R':=FI2 g5.aM 4 cap (x.set 2 1)) (F':=rQ p 4) (i:=0) (k:=0) (w:=x.set 2 1) (v:=.sl g5.aM 0 4 cap) af oD af (λ_ _ h=>.inl h) (.inr ⟨rfl,rfl⟩) rfl (λW B _ q=>q.setB af hX (λj hj=>by rw[eJ af,DL af];exact hz j af));generalize g5.aM=t0 at *
  generalize k.bf (cS x)=g6 at *
  simp only[Z3,seval,-ae,p2,oD,gw,B2];clear N X U V rB p3 p0 Y p2 oD B2;obtain⟨N,X,U,V⟩:=oh.rd;obtain⟨Na,B0,lG⟩:=oh.setE (i:=2) (y:=1) af;simp only[Z3,seval,-ae,V,q1,q2,gw,B0];clear N X U V q1 q2 B0;obtain⟨N,X,U,V⟩:=lG.rd;obtain⟨t3,c3,rB⟩:=lG.rdB (i:=0) af (λW B q=>S q af);obtain⟨M8,BY,pZ,_⟩:=lG.putB (R':=FI2 t0 4 cap (x.set 2 1)) (F':=rQ p 4) (i:=0) (k:=1) af rB af (λ_ _ h=>h) (.inl A) A.one (λW B _ q=>q.setB af hle (λj hj=>by rw[zw af,DL af]));simp only[Z3,seval,-ae,V,rB,BY,gw,A.cells];clear N X U V rB BY;obtain⟨N,X,U,V⟩:=pZ.rd;simp only[Z3,seval,-ae,N,U,gw];refine pZ.tail G 0 3 af af af λv4 k4 M7 BR Y BX nY=>?_;simp only[Z3,seval,-ae,Y,BX,gw,BR];clear N X U V Y BX;obtain⟨N,X,U,V⟩:=nY.rd;simp only[Z3,seval,-ae,N,U,gw];refine nY.tail G 1 3 af af af λv5 k5 Z BQ Y Df a=>?_;have aQ:Z.bt σ.aM=Dc [.int .i64 0,Ln,Ln]:=by rw[a.km.bt af af];exact lQ
  have u1:Z.wr σ.aM 0 [.int .i64 p,.sl sP 0 4 capP,.sl sB 0 4 aj]=Dc (Z.set σ.aM [.int .i64 p,.sl sP 0 4 capP,.sl sB 0 4 aj]):=by rw[zR aQ,DK ⟨aK,by rfl⟩];rfl
  have u2:(Z.set σ.aM [.int .i64 p,.sl sP 0 4 capP,.sl sB 0 4 aj]).rd σ.aM 0 3=Dc [.int .i64 p,.sl sP 0 4 capP,.sl sB 0 4 aj]:=by rw[zi,DK rfl];rfl
  obtain⟨y3,y0,y1,y2⟩:=a.rd;simp only[Z3,seval,-ae,Y,Df,gw,BQ,y3,u1,u2];obtain⟨cs,ls,W,B,rs,f,ne,nx⟩:=a.rs;obtain⟨z1,z2,z3,z4⟩:=a.ex t0 _ ⟨rfl,rfl⟩;have tH:=nx t0 _ ⟨rfl,rfl⟩;have Kp:RS FI (FI2 t0 4 cap (x.set 2 1)) T.aM (Z.set σ.aM [.int .i64 p,.sl sP 0 4 capP,.sl sB 0 4 aj]) 4 sP capP cs sB aj ls W B:=rs.move (λt ht=>by
   have:=(rs.lt ht).1
   rw[zG,DL af]) (na _)
  have rR:KM σ s (Z.set σ.aM [.int .i64 p,.sl sP 0 4 capP,.sl sB 0 4 aj]):=((so.kmK cZ).trans dZ a.km).set (na _) _;have rE:So (Z.set σ.aM [.int .i64 p,.sl sP 0 4 capP,.sl sB 0 4 aj]) s vC bs:=a.so.set af _;refine Gh.freezeH (s:=t0) (cs:=cS (x.set 2 1)) (by rw[zG,DL af];exact z1) af (zL _ _) λo1 g1 g2 g3=>?_;have n1:sP≠t0:=Ne.symm (tH _ (.inl rfl));have n2:sB≠t0:=Ne.symm (tH _ (.inr (.inl rfl)));have DH:=Kp.fzh (RP':=FI) (R':=FI) (t:=t0) (o:=o1) (xs:=cS (x.set 2 1)) ⟨tH _ (.inl rfl),tH _ (.inr (.inl rfl)),λq hq=>Ne.symm (tH _ (.inr (.inr ⟨q,hq,rfl⟩)))⟩ (λv w hv=>by rw[hv.sb];exact hv) (λv w hv=>by
   rcases hv with e|⟨e,D⟩
   .rw[e.sb];exact e
   .rw[e,D];simp only[sb,bY.ok,and_self,if_true];exact⟨DF,_,by rw[Nq]⟩)
  simp only[sb,kq,n1,n2,false_and,if_false];exact Gh.ret (hk p 4 sP capP _ sB aj _ _ W B hp af bh f (rR.fr w af (by show _<=max _ _;omega)) (rE.fr af) ((DH.low af).move (λ_ _=>rfl) (na _)))
 .as_aux_lemma=>
  refine Lk ?_;obtain⟨Ob,Ou,Ok,GX⟩:=gs.rd;obtain⟨Pq,Sa,xZ⟩:=gs.rdB (i:=0) af (λW B q=>S q af);obtain⟨M7,BX,nY⟩:=gs.unitB (k:=0) xZ A af;simp only[Z3,seval,-ae,GX,xZ,BX,gw,A.cells];obtain⟨GR,Ot,G4,Of⟩:=nY.rd;simp only[Z3,seval,-ae,GR,G4,gw];refine nY.tail G 0 2 af af af λO8 PS Z vI DU Df Bm=>?_;simp only[Z3,seval,-ae,DU,Df,gw,vI];obtain⟨GQ,Oq,G3,Oe⟩:=Bm.rd;simp only[Z3,seval,-ae,GQ,G3,gw];refine Bm.tail G 1 2 af af af λO7 PO RB vH DT JW Bk=>?_;simp only[Z3,seval,-ae,DT,JW,gw,vH];obtain⟨GP,Oo,GZ,Od⟩:=Bk.rd;simp only[Z3,seval,-ae,GP,GZ,gw];refine Bk.tail G 2 3 af af af λO6 PN RA vG DS JV GK=>?_;simp only[Z3,seval,-ae,DS,JV,gw,vG];obtain⟨H,D,I,J⟩:=fin GK;simp only[Z3,seval,-ae,H,D,I];exact J
 .as_aux_lemma=>
  refine Lk ?_;obtain⟨Oa,On,Oj,GW⟩:=gs.rd;obtain⟨Pp,R9,xY⟩:=gs.rdB (i:=0) af (λW B q=>S q af);obtain⟨Rz,JU,vw⟩:=gs.unitB (k:=0) xY A af;simp only[Z3,seval,-ae,GW,xY,JU,gw,A.cells];obtain⟨N9,Om,Oi,BC⟩:=vw.rd;obtain⟨Po,R8,tv⟩:=vw.rdB (i:=2) af (λW B q=>S q af);simp only[Z3,seval,-ae,BC,tv,gw];refine ownFI A (by rw[zU];omega) λO4 yE=>?_;obtain⟨Ry,JT,Bj⟩:=vw.unitB (k:=0) tv yE af;simp only[Z3,seval,-ae,BC,tv,JT,gw,yE.cells];obtain⟨BB,Jy,BM,Jh⟩:=Bj.rd;simp only[Z3,seval,-ae,BB,BM,gw];refine Bj.tail G 0 4 af af af λKc K7 Nm rh ye Du Bq=>?_;simp only[Z3,seval,-ae,ye,Du,gw,rh];obtain⟨H,D,I,J⟩:=fin Bq;simp only[Z3,seval,-ae,H,D,I];exact J
 .as_aux_lemma=>
  refine Lk ?_;obtain⟨BA,Jx,Jn,s6⟩:=gs.rd;obtain⟨Km,OO,mn⟩:=gs.rdB (i:=0) af (λW B q=>S q af);simp only[Z3,seval,-ae,BA,s6,mn,gw];refine Q8 (vP:=.sl sP 0 5 capP) (vB:=.sl sB 0 5 aj) (n:=5) (k:=3) rfl rfl rfl af af λKb si=>?_;obtain⟨Nk,Dt,og⟩:=gs.unitB (k:=0) mn si af;simp only[Z3,seval,-ae,s6,mn,Dt,gw,si.cells];obtain⟨Jc,Jw,Jm,BG⟩:=og.rd;obtain⟨Kl,ON,rI⟩:=og.rdB (i:=0) af (λW B q=>S q af);obtain⟨Nj,Ds,sW⟩:=og.unitB (k:=1) rI A af;simp only[Z3,seval,-ae,BG,rI,Ds,gw,A.cells];obtain⟨Bz,Jv,BL,Jg⟩:=sW.rd;simp only[Z3,seval,-ae,Bz,BL,gw];refine sW.tail G 1 3 af af af λKa K6 Ni rf yd Dr sV=>?_;simp only[Z3,seval,-ae,yd,Dr,gw,rf];obtain⟨By,Ju,BK,Jf⟩:=sV.rd;simp only[Z3,seval,-ae,By,BK,gw];refine sV.tail G 0 3 af af af λJ9 K5 Nh qT yc Dq Bp=>?_;simp only[Z3,seval,-ae,yc,Dq,gw,qT];obtain⟨H,D,I,J⟩:=fin Bp;simp only[Z3,seval,-ae,H,D,I];exact J
 .as_aux_lemma=>
  refine Lk ?_;obtain⟨Bx,Jt,Jl,s5⟩:=gs.rd;obtain⟨Kk,OM,ml⟩:=gs.rdB (i:=0) af (λW B q=>S q af);simp only[Z3,seval,-ae,Bx,s5,ml,gw];refine Q8 (vP:=.sl sP 0 6 capP) (vB:=.sl sB 0 6 aj) (n:=6) (k:=3) rfl rfl rfl af af λJ8 sg=>?_;obtain⟨Ng,Dm,oe⟩:=gs.unitB (k:=0) ml sg af;simp only[Z3,seval,-ae,s5,ml,Dm,gw,sg.cells];obtain⟨Bw,Js,Jk,s4⟩:=oe.rd;obtain⟨Kj,OL,mj⟩:=oe.rdB (i:=0) af (λW B q=>S q af);simp only[Z3,seval,-ae,Bw,s4,mj,gw];refine Q8 (vP:=.sl sP 0 6 capP) (vB:=.sl sB 0 6 aj) (n:=6) (k:=4) rfl rfl rfl af af λJ7 sf=>?_;obtain⟨Nf,Dl,nZ⟩:=oe.unitB (k:=1) mj sf af;simp only[Z3,seval,-ae,s4,mj,Dl,gw,sf.cells];obtain⟨Jb,Jr,Jj,BE⟩:=nZ.rd;obtain⟨Ki,OK,rH⟩:=nZ.rdB (i:=1) af (λW B q=>S q af);obtain⟨Nd,Dk,Bo⟩:=nZ.unitB (k:=0) rH A af;simp only[Z3,seval,-ae,BE,rH,Dk,gw,A.cells];obtain⟨H,D,I,J⟩:=fin Bo;simp only[Z3,seval,-ae,H,D,I];exact J
 .as_aux_lemma=>
  refine Lk ?_;obtain⟨Ja,Jq,Ji,BD⟩:=gs.rd;obtain⟨Kh,OJ,rG⟩:=gs.rdB (i:=0) af (λW B q=>S q af);obtain⟨Nc,Dj,sU⟩:=gs.unitB (k:=0) rG A af;simp only[Z3,seval,-ae,BD,rG,Dj,gw,A.cells];obtain⟨Bv,Jp,BJ,Je⟩:=sU.rd;simp only[Z3,seval,-ae,Bv,BJ,gw];refine sU.tail G 0 2 af af af λJ6 K4 Nb qS x8 Dh sT=>?_;simp only[Z3,seval,-ae,x8,Dh,gw,qS];obtain⟨Bu,Jo,BI,Jd⟩:=sT.rd;simp only[Z3,seval,-ae,Bu,BI,gw];refine sT.tail G 1 2 af af af λJ5 K3 M9 qt x7 Dg Bn=>?_;simp only[Z3,seval,-ae,x7,Dg,gw,qt];obtain⟨H,D,I,J⟩:=fin Bn;simp only[Z3,seval,-ae,H,D,I];exact J
end
end Go.Proofs
