/- . -/
import Derived.Test.YtjcghjopopohiaaGreatDoorQP10
import Derived.WalkKit
import Derived.BigCall
import Derived.LoopTactic
import Derived.Outline
import Derived.IntWalk
import Derived.WalkSmall
import Derived.Lib.Hide
set_option linter.all false
set_option linter.defProp false
open Go.IntKind renaming wrap->Tu
open List renaming length->Tw
open Go.Proofs.Tryz renaming prog->Tp
open Bool renaming true->Im
open List renaming any_eq_true->Nz,drop->Kf,drop_eq_getElem_cons->Pa,drop_eq_nil_of_le->Kz,drop_zero->J0,filter_append->P0,flatten_cons->LY,length->Nh,length_nil->Ov,map_singleton->PG,mem_append_left->Ni,mem_filter->ND,mem_of_mem_drop->Jx,pairwise_cons->Sp,pairwise_singleton->Ob,range->Iw,range_succ->Om,take->O0
open Nat renaming lt_succ_of_lt->Lk,mul_one->KE,ne_of_lt->Jn,pow_le_pow_right->O9,pow_lt_pow_right->Pk,testBit_one_eq_true_iff_self_eq_zero->Px
open Option renaming map_some->Kc,some->Ik
open True renaming intro->Is
open Int renaming reduceNatCast'->ae
set_option maxRecDepth 100000
namespace Go.Proofs
open Go.Ab Go.Lie Go.Grp
variable{cs:List PV}{b i k n r t:Nat}{h h2 σ:dj}{c uC uO uP v vC vL vO vP vU va:PV}{K:PV->dj->Prop}{O O2 a x:V1}{P P2 u w:V2}{C M:V3}
section
variable{C2:V3}
structure CM(G:List sg)(L:V2):Prop where
 g:(Tw G)<=3
 gs:∀g∈G,ti g.1 g.2.1 g.2.2
 l:(Tw L)<=900
 r:∀x∈L,(Tw x)<=1000
def CM.nil:CM [] []:=⟨Tx,λg h=>(by cases h),Tx,λx h=>by cases h⟩
def zEp{m:Nat}:∀{Y:V2},(∀x∈Y,(Tw x)<=m)->(Tw Y.flatten)<=m*Tw Y
 |[],_=>by simp
 |y::Y,h=>by
  have D:=h y (Yp ..);have h2:=zEp (Y:=Y) λx A=>h x (Yc _ A);rw[LY,cO,YF,Nat.mul_succ];omega
def zDa(sz:ti O P C)(I:eQ vO vP vC O P C)(ly:ti O2 P2 C2)(D:eQ uO uP uC O2 P2 C2)(hk:∀v Y c,hK v Y->(Tw Y)<=6->(∀x∈Y,(Tw x)<=6)->K (.tup [v,.int .i64 c]) σ):zA Tp 67 [.agg [vO,vP,vC],.agg [uO,uP,uC]] σ K:=by
 have X:=I.O.one;have g1:=I.P.one;have g2:=I.C.one;have U:=D.O.one;have V:=D.P.one;have W:=D.C.one;refine To Tryz.func67 ?_;simp only[Z3,seval,-ae,X,g1,g2,U,V,W];generalize S:(σ.cb [vO,vP,vC]).cb [uO,uP,uC]=H;have kH:dq σ H:=by rw[<-S];exact(zB _ _).cb _
 have rp:H.rd σ.bY 0 3=Ik [vO,vP,vC]:=by rw[<-S];simp only[Z3,seval,-ae]
 have rq:H.rd (σ.bY+1) 0 3=Ik [uO,uP,uC]:=by rw[<-S];simp only[Z3,seval,-ae]
 clear S;have fin:∀c:Int,Gh σ K (.tup [Tt,.int .i64 c]) H:=λc=>Gh.fin0 kH ⟨Is,Is,Is⟩ (hk _ [] c ⟨Im,.cU,[],rfl,ez.nil _⟩ Tx λx hx=>by cases hx);simp only[Z3,seval,-ae,rp,rq,X,g1,g2,U,V,W];refine zLs sz I ly D λc hc=>?_;by_cases c0:c=0;rotate_left
 .simp only[Z3,seval,-ae,c0];exact fin c
 subst c0;obtain⟨hp,hq,ho⟩:=hc rfl;have s:=hp.1.shp;have g:LG O2 P2 C2:=⟨hq.1,hq.2⟩;have bB:=s.le;have Cw:=g.s.le;simp only[Z3,seval,-ae,rp,rq,X,g1,g2,U,V,W];refine zLq s I g D ho λvL L fL gL hL=>?_;obtain⟨wL,aL,rL,rfl,kP⟩:=fL;have gb:∀{Y:V2},Y∈L->(Tw Y)<=6/\∀x∈Y,(Tw x)<=6:=λ{Y} hY=>by
  obtain⟨h1,h2⟩:=gL Y hY;exact⟨aH,λx hx=>by have:=(h2 x hx).len;omega⟩
 by_cases uf:(Tw L)=0
 .simp only[Z3,seval,-ae,uf];exact fin 4
 have l0:0<Tw L:=aH
 have M6:(0:Int)<(Tw L:Int):=aH
 have hz:¬(Tw L:Int)=0:=aH
 obtain⟨w0,a0,r0,h0,j8⟩:=kP.rowL l0;simp only[Z3,seval,-ae,uf,hz,l0,M6,h0];refine zF (λm vs h=>∃(i:Nat) (J:PV) (Y:V2),i<=Tw L/\m=Tw L-i/\vs=[.fz wL aL (Tw L) rL,J,.int .i64 i]/\hK J Y/\Tw Y<=6/\(∀x∈Y,(Tw x)<=6)/\H=h) (Tw L-1) ?_ ?_
 .have q:=gb (ss l0);exact⟨1,_,L[0],aH,aH,rfl,⟨w0,a0,r0,rfl,j8⟩,q.1,q.2,rfl⟩
 rintro m vs h ⟨i,J,Y,hi,rfl,rfl,E,y1,y2,rfl⟩
 have A:=E.one;simp only[Z3,seval,-ae,A];refine Tr (λan=>?_) λR=>?_
 .exact Gh.fin0 kH ⟨E.bel _,Is,Is⟩ (hk J Y 0 E y1 y2)
 have ah:(i:Int)<(Tw L:Int):=aH
 obtain⟨w5,a5,r5,h5,Ca⟩:=kP.rowL R;obtain⟨z1,z2⟩:=gb (ss R);have f5:hK (.fz w5 a5 L[i].length r5) L[i]:=⟨w5,a5,r5,rfl,Ca⟩;have wi:Tu .i64 ((i:Int)+1)=((i+1:Nat):Int):=WQ
 have b1:=zEp z2;have b2:=zEp y2;have Bd:L[i].flatten.length<=36:=aH
 have K6:(Tw Y.flatten)<=36:=aH
 simp only[Z3,seval,-ae,A,R,ah,h5];refine zAb f5 aH aH λva fa=>?_;have A1:=fa.one;simp only[Z3,seval,-ae,A,A1];refine zAb E aH aH λvc fc=>?_;have C1:=fc.one;simp only[Z3,seval,-ae,A,A1,C1];refine zFd fa fc aH aH ?_;by_cases e:Lat.sk L[i].flatten Y.flatten<0
 .simp only[Z3,seval,-ae,e,decide_true,A,R,ah,h5,wi];exact⟨_,aH,i+1,_,L[i],aH,rfl,rfl,f5,z1,z2⟩
 .simp only[Z3,seval,-ae,e,decide_false,A,wi];exact⟨_,aH,i+1,J,Y,aH,rfl,rfl,E,y1,y2⟩
def zOC{hE:dj}{g n:Nat}{k c:Int}{G:List sg}{L:V2}{rows:List (PV×PV×PV)}(H:dq σ hE)(I:hE.cd g=Ik (re rows))(A:σ.bY<=g)(E:ez FI3 rows G)(R:n=Tw G)(D:hK vL L)
  (J:∀vG,FG vG G->K (.tup [.agg [.int .i64 k,vG,vL],.int .i64 c]) σ):Gh σ K (.tup [.agg [.int .i64 k,.sl g 0 n (.cm n),vL],.int .i64 c]) hE:=by
 subst R;refine Gh.freeze (s:=g) (cs:=re rows) I A (zBy E) λo U S V=>?_;have b:Go.Ab.sb g o (re rows) vL=vL:=ZL (YQ _) (D.bel 0);simp only[sb,nD,b,kv,and_self,if_true,decide_true,sB];exact Gh.fin0T (t:=σ.top) ((H.kill A).up (by simp only[dj.kill];omega)) (by have:=H.top;simp only[dj.kill,dj.up];omega) ⟨⟨Is,Is,D.bel _,Is⟩,Is,Is⟩ λ_=>J _ ⟨Im,_,rows,rfl,E⟩
def zDX(sz:ti O P C)(I:eQ vO vP vC O P C)(ly:ti O2 P2 C2)(E:eQ uO uP uC O2 P2 C2)
  (hk:∀k G L vG vL c,CM G L->FG vG G->hK vL L->K (.tup [.agg [.int .i64 k,vG,vL],.int .i64 c]) σ):zA Tp 28 [.agg [vO,vP,vC],.agg [uO,uP,uC]] σ K:=by
 have V:=I.O.one;have W:=I.P.one;have X:=I.C.one;have J:=E.O.one;have R:=E.P.one;have S:=E.C.one;refine To Tryz.func28 ?_;simp only[Z3,seval,-ae,V,W,X,J,R,S];generalize A:((σ.cb [vO,vP,vC]).cb [uO,uP,uC]).cb [.int .i64 0,Tt,Tt]=H;have eG:H.bY=σ.bY+3:=by rw[<-A];rfl
 have kH:dq σ H:=by rw[<-A];exact((zB _ _).cb _).cb _
 have rp:H.rd σ.bY 0 3=Ik [vO,vP,vC]:=by rw[<-A];simp only[Z3,seval,-ae]
 have rq:H.rd (σ.bY+1) 0 3=Ik [uO,uP,uC]:=by rw[<-A];simp only[Z3,seval,-ae]
 have eA:H.cd (σ.bY+2)=Ik [.int .i64 0,Tt,Tt]:=by rw[<-A];simp only[Z3,seval,-ae]
 clear A;simp only[Z3,seval,-ae,rp,rq,V,W,X,J,R,S];refine zDa sz I ly E λvY Y c U y1 y2=>?_;have D:=U.one;by_cases c0:c=0;rotate_left
 .have w:H.wr (σ.bY+2) 0 [.int .i64 0,Tt,Tt]=Ik (H.set (σ.bY+2) [.int .i64 0,Tt,Tt]):=by rw[zL eA,Iu ⟨bj,rfl⟩];rfl
  have r:(H.set (σ.bY+2) [.int .i64 0,Tt,Tt]).rd (σ.bY+2) 0 3=Ik [.int .i64 0,Tt,Tt]:=by rw[zZ,Iu rfl];rfl
  simp only[Z3,seval,-ae,c0,D,w,r];exact Gh.fin0 (kH.set aH _) ⟨⟨Is,Is,Is,Is⟩,Is,Is⟩ (hk 0 [] [] _ _ c CM.nil zA2 ⟨Im,.cU,[],rfl,ez.nil _⟩)
 subst c0;simp only[Z3,seval,-ae,D,rp,rq,V,W,X,J,R,S];refine Z9 I sz λxO xP xC hq=>?_;have x1:=hq.O.one;have x2:=hq.P.one;have x3:=hq.C.one;simp only[Z3,seval,-ae,D,x1,x2,x3,rp,rq,V,W,X,J,R,S];refine Z9 E ly λyO yP yC nR=>?_;have y3:=nR.O.one;have y4:=nR.P.one;have y5:=nR.C.one;have z6:gH (jE [.cU,.cU,.cU] 2)=[Tt,Tt,Tt,Tt,Tt,Tt]:=rfl;have n5:¬σ.bY+2=H.bY:=aH
 have w5:H.wr (σ.bY+2) 0 [.int .i64 4,.sl H.bY 0 2 (.cm 2),vY]=Ik (H.set (σ.bY+2) [.int .i64 4,.sl H.bY 0 2 (.cm 2),vY]):=by rw[zL eA,Iu ⟨bj,by simp[D];exact⟨rfl,rfl⟩⟩];rfl
 have Y2:=U.cells;simp only[Z3,seval,-ae,D,Y2,x1,x2,x3,y3,y4,y5,z6,rp,rq,n5,w5];have C6:ez FI3 [(xO,xP,xC),(yO,yP,yC)] [(O,P,C),(O2,P2,C2)]:=((ez.nil FI3).snoc (b:=(O,P,C)) (a:=(xO,xP,xC)) hq).snoc (b:=(O2,P2,C2)) (a:=(yO,yP,yC)) nR;refine zOC (rows:=[(xO,xP,xC),(yO,yP,yC)]) (G:=[(O,P,C),(O2,P2,C2)]) (L:=Y) ((kH.set aH _).cb _) (by rw[zC];exact Iu rfl) aH C6 rfl U λvG fG=>?_;refine hk 4 [(O,P,C),(O2,P2,C2)] Y _ _ 0 ⟨Yb 2,λg hg=>?_,aH,λx hx=>by have:=y2 x hx;omega⟩ fG U;grind
end
section
variable{C2:V3}{p:sg}{G:List sg}
set_option maxHeartbeats 1600000 in
def zD0(sz:ti O P C)(hR:eQ vO vP vC O P C)(ly:ti O2 P2 C2)(Y:eQ uO uP uC O2 P2 C2)
  (hk:∀k G vG vL c t,DRes (O,P,C) (O2,P2,C2) k G c->FG vG G->hK vL []->σ.top<=t->K (.tup [.agg [.int .i64 k,vG,vL],.int .i64 c]) (σ.up t)):zA Tp 30 [.agg [vO,vP,vC],.agg [uO,uP,uC]] σ K:=by
 have g0:=hR.O.one;have g1:=hR.P.one;have U:=hR.C.one;have f0:=Y.O.one;have f1:=Y.P.one;have f2:=Y.C.one;have dK:∀{c:Int} {g:dj},dq σ g->DRes (O,P,C) (O2,P2,C2) 0 [] c->Gh σ K (.tup [.agg [.int .i64 0,Tt,Tt],.int .i64 c]) g:=λ{c g} kk h=>
  Gh.fin0T kk kk.top ⟨⟨Is,Is,Is,Is⟩,Is,Is⟩ λ_=>hk 0 [] _ _ c σ.top h zA2 ⟨Im,.cU,[],rfl,ez.nil _⟩ (sB _)
 refine To Tryz.func30 ?_;simp only[Z3,seval,-ae,g0,g1,U,f0,f1,f2];generalize V:((σ.cb [vO,vP,vC]).cb [uO,uP,uC]).cb [.int .i64 0,Tt,Tt]=H;have eG:H.bY=σ.bY+3:=by rw[<-V];rfl
 have KD:H.top=σ.top:=by rw[<-V];rfl
 have kH:dq σ H:=by rw[<-V];exact((zB _ _).cb _).cb _
 have bK:H.cd σ.bY=Ik [vO,vP,vC]:=by rw[<-V];simp only[Z3,seval,-ae]
 have cM:H.cd (σ.bY+1)=Ik [uO,uP,uC]:=by rw[<-V];simp only[Z3,seval,-ae]
 have eA:H.cd (σ.bY+2)=Ik [.int .i64 0,Tt,Tt]:=by rw[<-V];simp only[Z3,seval,-ae]
 clear V;have sy:∀{c:Int} {g:dj},dq H g->DRes (O,P,C) (O2,P2,C2) 0 [] c->g.wr (σ.bY+2) 0 [.int .i64 0,Tt,Tt]=Ik (g.set (σ.bY+2) [.int .i64 0,Tt,Tt])/\
   (g.set (σ.bY+2) [.int .i64 0,Tt,Tt]).rd (σ.bY+2) 0 3=Ik [.int .i64 0,Tt,Tt]/\Gh σ K (.tup [.agg [.int .i64 0,Tt,Tt],.int .i64 c]) (g.set (σ.bY+2) [.int .i64 0,Tt,Tt]):=λ{c g} W h=>
  ⟨by rw[zL (by rw[W.cd _ aH];exact eA),Iu ⟨bj,rfl⟩];rfl,by rw[zZ,Iu rfl];rfl,dK ((kH.trans W).set aH _) h⟩
 refine ZB hR sz λt ht=>?_;cases t
 .obtain⟨A,J,R⟩:=sy (c:=1) (dq.refl H) (.inl ⟨(λh=>by cases ht.2 h.1),rfl,rfl,rfl⟩);simp only[Z3,seval,-ae,A,J];exact R
 have r1:H.rd (σ.bY+1) 0 3=Ik [uO,uP,uC]:=by rw[zN cM];rfl
 simp only[Z3,seval,-ae,r1];refine ZB Y ly λt2 mU=>?_;cases t2
 .obtain⟨A,J,R⟩:=sy (c:=1) (dq.refl H) (.inl ⟨(λh=>by cases mU.2 h.2),rfl,rfl,rfl⟩);simp only[Z3,seval,-ae,A,J];exact R
 have ka:=ht.1 rfl;have mq:=mU.1 rfl;refine Tq ?_;refine zJt ?_;have hS:(H.cb (nU ua)).cd H.bY=Ik (nU ua):=by rw[zC,Iu rfl]
 have kS:dq H (H.cb (nU ua)):=zB _ _;have SP:(H.cb (nU ua)).bY=H.bY+1:=rfl;generalize H.cb (nU ua)=S at *
 refine Tq ?_;refine zF (λm vs g=>∃i:Nat,i<=10/\m=10-i/\vs=[.ptr σ.bY 0,.ptr (σ.bY+1) 0,.ptr (σ.bY+2) 0,.sl H.bY 0 10 (.cm 10),.int .i64 i]/\dq S g/\Db (O,P,C) (O2,P2,C2) (HR.drop i)=Db (O,P,C) (O2,P2,C2) HR) 10 ?_ ?_
 .exact⟨0,YQ _,rfl,rfl,dq.refl _,rfl⟩
 rintro m vs g ⟨i,hi,rfl,rfl,W,eD⟩
 have j6:dq H g:=kS.trans W;have CH:=W.bY;have fin:∀{k c:Int} {G:List sg},Db (O,P,C) (O2,P2,C2) HR=(k,G,c)->DRes (O,P,C) (O2,P2,C2) k G c:=λe=>.inr ⟨ka,mq,e⟩;refine Tq ?_;refine Tr (λan=>?_) λaf=>?_
 .rw[Yr (by rw[zGT];omega),Db]at eD;obtain⟨A,J,R⟩:=sy (c:=4) j6 (fin eD.symm);simp only[Z3,seval,-ae,A,J];exact R
 have ah:(i:Int)<10:=aH
 have vn:i<Tw ua:=af;have NZ:i<Tw HR:=by rw[zGT];exact af
 have rq:g.gv H.bY i=Ik (.str ua[i]):=by rw[zH (by rw[W.cd _ aH];exact hS)];exact qm vn
 simp only[Z3,seval,-ae,af,ah,rq];refine zCg (ss vn) λE I D X=>?_;have AM:=(zHW (ss vn)).2.2.1;have PN:HR[i]=tsV ua[i]:=UC ..;rw[rX NZ,Db,PN]at eD;have Ji:=zI.sz AM;generalize tsV ua[i]=r at *
 have o1:=X.O.one;have o2:=X.P.one;have o3:=X.C.one;have s0:g.rd σ.bY 0 3=Ik [vO,vP,vC]:=by rw[zN (by rw[j6.cd _ aH];exact bK)];rfl
 have s1:g.rd (σ.bY+1) 0 3=Ik [uO,uP,uC]:=by rw[zN (by rw[j6.cd _ aH];exact cM)];rfl
 have n0:¬σ.bY=g.bY:=aH
 have n1:¬σ.bY+1=g.bY:=aH
 simp only[Z3,seval,-ae,o1,o2,o3,n0,n1,s0];refine zAo hR sz X Ji ?_;simp only[Z3,seval,-ae,n0,n1,s1];refine zAo Y ly X Ji ?_;simp only[]at eD;generalize homC O P C r.1 r.2.1 r.2.2=c1 at *
 generalize homC O2 P2 C2 r.1 r.2.1 r.2.2=c2 at *
 generalize homK O P C r.1 r.2.1 r.2.2=k1 at *
 generalize homK O2 P2 C2 r.1 r.2.1 r.2.2=k2 at *
 have AE:dq H (g.cb [E,I,D]):=j6.cb _;have mf:dq S (g.cb [E,I,D]):=W.cb _;have q0:(g.cb [E,I,D]).rd σ.bY 0 3=Ik [vO,vP,vC]:=by rw[ZC,Iv n0];exact s0
 have q1:(g.cb [E,I,D]).rd (σ.bY+1) 0 3=Ik [uO,uP,uC]:=by rw[ZC,Iv n1];exact s1
 have pO:(g.cb [E,I,D]).rd g.bY 0 3=Ik [E,I,D]:=by rw[ZC,Iu rfl];rfl
 have N8:(g.cb [E,I,D]).bY=g.bY+1:=rfl;generalize g.cb [E,I,D]=U at *
 by_cases A:c1=0;rotate_left
 .rw[Iu (.inl A)]at eD;obtain⟨z1,z2,z3⟩:=sy (c:=3) AE (fin eD.symm);simp only[Z3,seval,-ae,A,z1,z2];exact z3
 by_cases J:c2=0;rotate_left
 .rw[Iu (.inr J)]at eD;obtain⟨z1,z2,z3⟩:=sy (c:=3) AE (fin eD.symm);simp only[Z3,seval,-ae,A,J,z1,z2];exact z3
 rw[Iv aH]at eD;by_cases R:k1=k2
 .rw[Iu R]at eD;have wi:Tu .i64 ((i:Int)+1)=((i+1:Nat):Int):=WQ
  simp only[Z3,seval,-ae,A,J,R,wi];exact⟨_,aH,i+1,aH,rfl,rfl,mf,eD⟩
 rw[Iv R]at eD;have z9:gH (jE [.cU,.cU,.cU] 3)=[Tt,Tt,Tt,Tt,Tt,Tt,Tt,Tt,Tt]:=rfl;have n5:¬σ.bY+2=U.bY:=aH
 have xG:U.cd (σ.bY+2)=Ik [.int .i64 0,Tt,Tt]:=by rw[AE.cd _ aH];exact eA
 have w5:U.wr (σ.bY+2) 0 [.int .i64 5,.sl U.bY 0 3 (.cm 3),Tt]=Ik (U.set (σ.bY+2) [.int .i64 5,.sl U.bY 0 3 (.cm 3),Tt]):=by rw[zL xG,Iu ⟨bj,rfl⟩];rfl
 simp only[Z3,seval,-ae,A,J,R,pO,q0,q1,zR,qA,DW];refine Z9 hR sz λxO xP xC hq=>?_;have x1:=hq.O.one;have x2:=hq.P.one;have x3:=hq.C.one;simp only[Z3,seval,-ae,x1,x2,x3,pO,q0,q1,zR,qA,DW];refine Z9 Y ly λyO yP yC nR=>?_;have y1:=nR.O.one;have y2:=nR.P.one;have y3:=nR.C.one;simp only[Z3,seval,-ae,x1,x2,x3,y1,y2,y3,o1,o2,o3,pO,q0,q1,z9,zR,qA,DW,n5,w5];have xe:ez FI3 [(xO,xP,xC),(yO,yP,yC),(E,I,D)] [(O,P,C),(O2,P2,C2),r]:=(((ez.nil FI3).snoc (b:=(O,P,C)) (a:=(xO,xP,xC)) hq).snoc (b:=(O2,P2,C2)) (a:=(yO,yP,yC)) nR).snoc (b:=r) (a:=(E,I,D)) X;refine zOE (rows:=[(xO,xP,xC),(yO,yP,yC),(E,I,D)]) (G:=[(O,P,C),(O2,P2,C2),r]) (((kH.trans AE).set aH _).cb _) (by rw[zC];exact Iu rfl) aH xe λo ho h1 h3=>?_;exact hk 5 _ _ _ 0 _ (fin eD.symm) ⟨_,_,_,rfl,xe⟩ ⟨Im,.cU,[],rfl,ez.nil _⟩ h3
def zEz(sz:ti O P C)(H:eQ vO vP vC O P C)(S:ti O2 P2 C2)(E:eQ uO uP uC O2 P2 C2)
  (I:∀k G vG vL c,DRes (O,P,C) (O2,P2,C2) k G c->FG vG G->hK vL []->K (.tup [.agg [.int .i64 k,vG,vL],.int .i64 c]) σ):zA Tp 30 [.agg [vO,vP,vC],.agg [uO,uP,uC]] σ K:=
 zA.notop (p:=λv _=>∃k G vG vL c,v=.tup [.agg [.int .i64 k,vG,vL],.int .i64 c]/\DRes (O,P,C) (O2,P2,C2) k G c/\FG vG G/\hK vL [])
  (λK' R=>zD0 sz H S E λk G vG vL c t D h2 A J=>R _ t ⟨⟨Is,h2.bel _,A.bel _,Is⟩,Is,Is⟩ ⟨k,G,vG,vL,c,rfl,D,h2,A⟩ J)
  λv t ⟨k,G,vG,vL,c,e,D,h2,A⟩=>by rw[e];exact I k G vG vL c D h2 A
end
section
open Go.Lat
variable{v:V2}
def ltS(O:V1)(u v:V2):Prop:=cfS O u v<0
end
section
open Go.Lat
variable{v:V2}{a:Nat}{F:List Nat}
def zNh{u v w:V2}(A:ltS O u v)(h2:ltS O v w):ltS O u w:=zFV A h2
def zPd{u v:V2}(A:ltS O u v):¬ltS O v u:=λh2=>by
 unfold ltS cfS at A h2;rw[zIM (tR O u::u.flatten)]at h2;omega
def F4(O:V1)(u:V2):V3->V3
 |[]=>[u]
 |w::M=>if cfS O u w<0 then u::w::M else w::F4 O u M
def zDH(O:V1)(u:V2):∀M,(F4 O u M).Perm (u::M)
 |[]=>List.Perm.refl _
 |w::M=>by
  rw[F4];split
  .exact List.Perm.refl _
  .exact((zDH O u M).cons w).trans (List.Perm.swap u w M)
def zEJ:∀{M:V3},M.Pairwise (λa b=>¬ltS O b a)->(F4 O u M).Pairwise λa b=>¬ltS O b a
 |[],_=>Ob _ _
 |w::M,h=>by
  rw[F4];have h2:=Sp.1 h;split
  .rename_i A;refine Sp.2 ⟨λz hz=>?_,h⟩;rcases Yq.1 hz with rfl|hz
   .exact zPd A
   .exactλD=>h2.1 z hz (zNh D A)
  .rename_i E;refine Sp.2 ⟨λz hz=>?_,zEJ h2.2⟩;rcases Yq.1 ((zDH O u M).mem_iff.1 hz)with rfl|hz
   .exact E
   .exact h2.1 z hz
def zDG:∀(M:V3) (i:Nat),(∀w∈M.take i,¬cfS O u w<0)->F4 O u M=M.take i++F4 O u (M.drop i)
 |M,0,_=>rfl
 |[],i+1,_=>rfl
 |w::M,i+1,h=>by
  rw[F4,Iv (h w bj),zDG M i λw A=>h w (by simp[A])];rfl
set_option maxHeartbeats 1600000 in
def zIO(s:kC O P C)(hR:eQ vO vP vC O P C)(hL:DB vL M)(hM:∀w∈M,∃a0,sA O a0 w)(oe:(Tw M)<=4294967296)(H:hK vU u){a0:V1->Prop}(hu:sA O a0 u)(hn:u∉M)(hk:∀v,DB v (F4 O u M)->K v σ):
  zA Tp 203 [.agg [vO,vP,vC],vL,vU] σ K:=by
 have bB:=s.le;have g0:=hR.O.one;have g1:=hR.P.one;have g2:=hR.C.one;have W:=H.one;have J:=H.cells;obtain⟨wL,aL,rL,rfl,kP⟩:=hL;refine To Tryz.func203 ?_;simp only[Z3,seval,-ae,g0,g1,g2];generalize hH:σ.cb [vO,vP,vC]=H1;have kH:dq σ H1:=by rw[<-hH];exact zB _ _
 have nH:H1.bY=σ.bY+1:=by rw[<-hH];rfl
 have oH:H1.cd σ.bY=Ik [vO,vP,vC]:=by rw[<-hH,zC,Iu rfl]
 clear hH;have e3:∀{g:dj},dq H1 g->g.rd σ.bY 0 3=Ik [vO,vP,vC]:=λk=>by rw[zN ((k.cd _ aH).trans oH)];rfl
 refine zF (λr vs h=>∃(i:Nat) (p:Bool) (vo:PV) (os:List PV),i<=Tw M/\r=Tw M-i/\vs=[.fz wL aL (Tw M) rL,vU,.ptr σ.bY 0,vo,.bool p,.int .i64 i]/\dq H1 h/\ft H1.bY 1 h vo (Tw os) os/\Tw os<=i+1/\
  ((p=false/\ez hK os (M.take i)/\∀w∈M.take i,¬cfS O u w<0)\/(p=Im/\ez hK (os++rL.drop i) (F4 O u M)))) (Tw M) ?_ ?_
 .refine⟨0,false,.sl (σ.bY+1) 0 0 (.cm 0),[],aH,rfl,rfl,zB _ _,?_,bj,.inl ⟨rfl,ez.nil _,λw S=>by simp at S⟩⟩;rw[<-nH];exact ft.cb H1.bY 1 (h:=H1) (n:=0) (cs:=[]) rfl (sB _)
 rintro r vs h ⟨i,p,vo,os,hi,rfl,rfl,U,ho,ki,yv⟩
 by_cases D:i<Tw M;rotate_left
 .obtain rfl:i=Tw M:=aH
  rcases yv with ⟨rfl,A,h2⟩|⟨rfl,A⟩
  .rw[YP]at A h2;have e:=zDG (O:=O) (u:=u) M (Tw M) (by rw[YP];exact h2);rw[YP,List.drop_length]at e;simp only[Z3,seval,-ae,D,W,J];refine ft.push (σb:=H1) (bytes:=24) U ho aH aH λv' h2 I E=>?_;refine Tq ?_;exact fB.fin (kH.trans I) (E.acc.low aH) ((A.snoc H).bels λv x hv=>hv.bel 0) λa=>hk _ ⟨Im,a,os++[vU],by rw[e];simp[F4,A.1],by rw[e];exact A.snoc H⟩
  .rw[Kz (by rw[kP.1];exact sB _),YL]at A;simp only[Z3,seval,-ae,D];exact fB.fin (kH.trans U) (ho.acc.low aH) (A.bels λv x hv=>hv.bel 0) λa=>hk _ ⟨Im,a,os,by rw[A.1],A⟩
 have V:=inb D;have wi:Tu .i64 ((i:Int)+1)=((i+1:Nat):Int):=lG D aH;obtain⟨c,A,h2⟩:=kP.at D;obtain⟨H',S⟩:=hM _ (ss D);have X:=h2.one;have R:=h2.cells;simp only[Z3,seval,-ae,D,V,A,W,J,X,R];refine zFb h2 H (by have:=S.len;omega) (λx hx=>by have:=(S.one x hx).1.len;omega) λtt ht=>?_;obtain rfl:tt=false:=by
  grind
 have et:M.take (i+1)=M.take i++[M[i]]:=YV D;have ed:M.drop i=M[i]::M.drop (i+1):=Pa D;have KX:rL.drop i=c::rL.drop (i+1):=by
  have hl:i<Tw rL:=by rw[kP.1];exact D
  rw[Pa hl];rw[na hl]at A;cases A;rfl
 rcases yv with ⟨rfl,Y,q2⟩|⟨rfl,Y⟩
 .simp only[Z3,seval,-ae,D,V,A,W,J,X,R,e3 U,g0,g1,g2];refine zIP s hR H hu h2 S ?_;have ei:=zDG (O:=O) (u:=u) M i q2;rw[ed]at ei;by_cases hb:cfS O u M[i] < 0
  .rw[decide_eq_true hb];rw[F4,Iu hb]at ei;simp only[Z3,seval,-ae,D,V,A,W,J,X,R];refine ft.push (σb:=H1) (bytes:=24) U ho aH aH λv' iC I E=>?_;have ov:=E.one;simp only[Z3,seval,-ae,D,V,A,X,R,ov];have uQ:ft H1.bY 1 iC v' (os++[vU]).length (os++[vU]):=by rw[cO];exact E
   refine ft.push (σb:=H1) (bytes:=24) I uQ (by rw[cO];simp;omega) (by rw[cO];simp;omega) λv3 h3 k3 p3=>?_;simp only[Z3,seval,-ae,wi];refine⟨_,aH,i+1,Im,v3,os++[vU]++[c],aH,rfl,rfl,k3,(by grind),(by have:=Y.1;rw[Ym]at this;simp;omega),.inr ⟨rfl,?_⟩⟩;rw[ei];have hd:ez hK (rL.drop i) (M.drop i):=kP.drop i;rw[KX,ed]at hd
   have:=(Y.snoc H).append hd
   simpa using this
  .rw[decide_eq_false hb];simp only[Z3,seval,-ae,D,V,A,W,J,X,R];refine ft.push (σb:=H1) (bytes:=24) U ho aH aH λv' iC I E=>?_;simp only[Z3,seval,-ae,wi];refine⟨_,aH,i+1,false,v',os++[c],aH,rfl,rfl,I,by rw[cO];exact E,by simp;omega,.inl ⟨rfl,by rw[et];exact Y.snoc h2,λw S=>?_⟩⟩;grind
 .simp only[Z3,seval,-ae,D,V,A,W,J,X,R];refine ft.push (σb:=H1) (bytes:=24) U ho aH aH λv' iC I E=>?_;simp only[Z3,seval,-ae,wi];refine⟨_,aH,i+1,Im,v',os++[c],aH,rfl,rfl,I,by rw[cO];exact E,by simp;omega,.inr ⟨rfl,?_⟩⟩;rw[KX]at Y;simpa using Y
def zLw(g:LG O P C)(D:eQ vO vP vC O P C)(hU:hK vU u)(R:zh O P C u)(hk:∀z:Int,K (.int .i64 z) σ):zA Tp 205 [.agg [vO,vP,vC],vU] σ K:=by
 have s:=g.s;have bB:=s.le;have H:=D.O.one;have I:=D.P.one;have J:=D.C.one;have hS:=GC.sub g.F R.1;refine To Tryz.func205 ?_;simp only[Z3,seval,-ae,H,I,J];refine Q4 g D hU R λvZ Z X hZ Ow=>?_;obtain⟨wZ,W,rZ,rfl,U⟩:=X;generalize E:σ.cb [vO,vP,vC]=H1;have kH:dq σ H1:=by rw[<-E];exact zB _ _
 have r3:H1.rd σ.bY 0 3=Ik [vO,vP,vC]:=by rw[<-E];simp only[Z3,seval,-ae]
 clear E;refine Tq ?_;refine zF (λr vs h=>∃(i:Nat) (z:Int),i<=Tw Z/\r=Tw Z-i/\vs=[.ptr σ.bY 0,.fz wZ W (Tw Z) rZ,.int .i64 z,.int .i64 i]/\h=H1) (Tw Z) ⟨0,0,aH,rfl,rfl,rfl⟩ ?_
 rintro r vs h ⟨i,z,hi,rfl,rfl,rfl⟩
 by_cases A:i<Tw Z;rotate_left
 .simp only[Z3,seval,-ae,A];exact Gh.fin0 kH trivial (hk z)
 have ku:=inb A;have wi:Tu .i64 ((i:Int)+1)=((i+1:Nat):Int):=lG A aH;obtain⟨w5,V,Y⟩:=U.rowI A;have S:gS O Z[i]:=hS.inS ((hZ _).1 (ss A));obtain⟨n1,n2⟩:=zFP s S;have hN:=ZN s;have ho:=g.pr.ord;simp only[Z3,seval,-ae,A,ku,Y,r3,H,I,J];refine qU s D S ⟨w5,V,rfl⟩ ?_;rw[<-n2];have wu:=wrapV (c:=(ja O Z[i] (Tw O)).toNat) aH;obtain⟨q,hq⟩:∃q:Int,mR .shl .other (.int .i64 1) (.int .u64 (((ja O Z[i] (Tw O)).toNat:Nat):Int))=Ik (.int .i64 q):=by
  refine⟨Tu .i64 (1*2 ^ (min (((ja O Z[i] (Tw O)).toNat:Nat):Int).toNat IntKind.i64.bits)),?_⟩;have e:Zo .shl .i64 1 (((ja O Z[i] (Tw O)).toNat:Nat):Int)=Ik (.int .i64 (Tu .i64 (1*2 ^ (min (((ja O Z[i] (Tw O)).toNat:Nat):Int).toNat IntKind.i64.bits)))):=by
   unfold Zo;rw[Iv aH]
  show(Zo .shl .i64 1 (((ja O Z[i] (Tw O)).toNat:Nat):Int)).map mQ=_
  rw[e];rfl
 simp only[Z3,seval,-ae,wu,hq,wi];exact⟨_,aH,i+1,_,aH,rfl,rfl⟩
end
end Go.Proofs
namespace Go.Ab
open Go.RowKit
variable{σ:dj}{K:PV->dj->Prop}
section
variable{P:Program}
def dj.bareO(σ:dj):dj:=⟨σ.bY,σ.top,λ_=>Option.none⟩
def zA.lendI{f:FuncId}{v:PV}{s n:Nat}{cap:nK}{cs:List PV}(hs:σ.cd s=Ik cs)(hb:ko 0 cs)(hn:(Tw cs)=n)(Y:∀c,cap=.cm c->n<=c)(hv:DA 0 v)
  (c:∀o,zA P f [v,.fz false (.sl o 0 n cap) n cs] σ.bareO λr _=>∃R z,r=.int R z/\K r σ):zA P f [v,.sl s 0 n cap] σ K:=by
 intro ι Z h r va;obtain⟨H,xf⟩:∃H:Nat->Prop,H=λo=>Z o\/∃t A,σ.cd t=Ik A/\o=ι t:=⟨_,rfl⟩
 have I:∀o,H o↔(Z o\/∃t A,σ.cd t=Ik A/\o=ι t):=λo=>by rw[xf]
 clear xf;have r2:Rel ι H σ.bareO h:=by
  refine⟨r.hwf,λo E=>?_,r.top,λt D=>rfl,λt A D=>(by cases D),λt t' A om D=>(by cases D)⟩;rcases(I o).1 E with E|⟨t,A,D,rfl⟩
  .exact r.Dy o E
  .exact r.hwf.lt (r.cd t A D).1
 have V:∀o,Z o->H o/\h.cd o=h.cd o:=λo E=>⟨(I o).2 (.inl E),rfl⟩
 obtain⟨W,q2,q3⟩:=r.cd s cs hs;have S:fQ Z h 0 cs:=fQ.of_bel q2 hb;have e1:kA ι cs=kA zj cs:=ZR S;have X:fQ H h σ.bY [v,.fz false (.sl (ι s) 0 n cap) n cs]:=by
  refine⟨(mA.of_bel va.1 hv).mono V (YQ _),⟨.inr ⟨ι s,0,cap,rfl,(I _).2 (.inr ⟨s,cs,hs,rfl⟩),.inr ?_,Y,λx=>by cases x⟩,S.mono V (sB _)⟩,Is⟩;rw[e1]at W;exact QW W rfl
 have:=c (ι s) ι H h r2 X
 refine this.mono ?_
 rintro v' h' ⟨pv,σ',ι',Z',p1,J,p3,rfl,R,z,rfl,hk⟩
 have ob:∀t A,σ.cd t=Ik A->h'.cd (ι t)=h.cd (ι t):=λt A D=>(J.z _ ((I _).2 (.inr ⟨t,A,D,rfl⟩))).2;have U:∀o,Z o->Z o/\h'.cd o=h.cd o:=λo E=>⟨E,(J.z o ((I o).2 (.inl E))).2⟩
 exact⟨.int R z,σ,ι,Z,⟨p1.hwf,λo E=>YO (r.Dy o E) J.hnext,Yv r.top J.hnext,r.wf,λt A D=>⟨by rw[ob t A D];exact(r.cd t A D).1,(r.cd t A D).2.1.mono U (sB _),(r.cd t A D).2.2⟩,r.inj⟩,⟨sB _,J.hnext,λ_ _=>rfl,U,λ_ _ h=>h,λt A D hd=>absurd (r.none_lt hd) aH⟩,Is,rfl,hk⟩
end
end Go.Ab
namespace Go.Proofs
open Go.Ab Go.Lie Go.Grp
variable{cap:nK}{c k:Int}{L:List Nat}{N a b m sL sl su t:Nat}{h hE σ:dj}{uC uO uP vC vL vO vP vU vX:PV}{K:PV->dj->Prop}{O O2 x y:V1}{P P2 u v w:V2}{C M Z:V3}
section
open Go.Lat
variable{F:List Nat}{T:Nat->Nat->Nat}{G:List (List Nat)}
def zPq(tt:Tb N T){gs:List Nat}{m x J:Nat}(E:DC N T (λj=>j∈gs) m)(S:∀g∈gs,g<N)(I:x<N)(h':DC N T (λj=>j∈gs++[x]) J):J=ext N T m x:=by
 have H:∀i,(i∈gs++[x])->i<N:=λi A=>by
  grind
 have h2:∀i,(m.testBit i=Im\/i=x)->i<N:=λi A=>by
  rcases A with A|rfl
  .exact zAP E.1 A
  .exact I
 refine h'.unique ((zKp tt E.1 I).congr λi=>⟨λA=>?_,λA=>?_⟩)
 .refine A.sub tt H λj D=>?_;rcases D with D|rfl
  .exact((E.2 j).1 D).mono λk R=>Ni _ R
  .exact Cl.of tt H bj
 .refine A.mono λj D=>?_;simp only[YZ,YW]at D;rcases D with D|rfl
  .exact .inl ((E.2 j).2 (Cl.of tt S D))
  .exact .inr rfl
structure GOK(N:Nat)(T:Nat->Nat->Nat)(L:List Nat)(G:List (List Nat)):Prop where
 len:(Tw G)=Tw L
 gen:∀(j:Nat) (gs:List Nat) (m:Nat),G[j]? = Ik gs->L[j]? = Ik m->DC N T (λi=>i∈gs) m/\(∀g∈gs,g<N)/\Tw gs<=j
def GOK.snoc(h:GOK N T L G){gs:List Nat}{m:Nat}(J:DC N T (λi=>i∈gs) m)(I:∀g∈gs,g<N)(h2:(Tw gs)<=Tw L):GOK N T (L++[m]) (G++[gs]):=by
 refine⟨by simp[h.len],λj E H A D=>?_⟩;rcases YY j (Tw L) with q|q
 .rw[YC (by rw[h.len];exact q)]at A;rw[YC q]at D;exact h.gen j E H A D
 .rw[Yz (by rw[h.len];exact q)]at A;grind
def zRD(tt:Tb N T):GOK N T [1] [[]]:=by
 refine⟨rfl,λj gs m D E=>?_⟩;have e:j=0:=by
  grind
 subst e;cases D;cases E;refine⟨⟨?_,λi=>?_⟩,λg A=>(by cases A),bj⟩
 .have:=Pk (show 1<2 by omega) tt.pos
  simpa using this
 .have h1:Nat.testBit 1 i=Im↔i=0:=by simp[Px]
  rw[h1];constructor
  .rintro rfl;exact .one
  .intro h;cases h with
   |one=>rfl
   |mul _ hb=>cases hb
def zMz{q:Nat->Bool}{i:Nat}:((Iw (i+1)).any q)=(((Iw i).any q) || q i):=by
 rw[Om,List.any_append];simp
def kn(L:List Nat)(m i:Nat):Bool:=(Iw i).any λj=>L.getD j 0 == m
def zQ9{i:Nat}(A:i<Tw L):kn L m (i+1)=(kn L m i || (L[i] == m)):=by
 unfold kn;rw[zMz,YK,na A];rfl
def zN0:kn L m (Tw L)=Im↔m∈L:=by
 unfold kn;rw[Nz];constructor
 .grind
 .intro h;obtain⟨j,A,e⟩:=YE.1 h;exact⟨j,Yd.2 A,by simp_all⟩
def RwG(s0:Nat)(c:PV)(gs:List Nat):Prop:=FI c (nl gs)\/(c=.sl s0 0 0 (.cm 0)/\gs=[])
def RwG.one{s0:Nat}{c:PV}{gs:List Nat}(h:RwG s0 c gs):c.one=Im:=by
 rcases h with h|⟨rfl,_⟩
 .exact h.one
 .rfl
structure FGs(H1 h:dj)(L:List Nat)(G:List (List Nat))(vf vg:PV):Prop where
 f:ft H1.bY 1 h vf (Tw L) (eh (nl L))
 g:∃rows,ft H1.bY 1 h vg (Tw G) rows/\ez (RwG (H1.bY+1)) rows G
 ne:∀t off l c dZ l' c',vf=.sl t off l c->vg≠.sl t dZ l' c'
 n1:∀off l c,vf≠.sl (H1.bY+1) off l c
 n2:∀off l c,vg≠.sl (H1.bY+1) off l c
 o:h.cd (H1.bY+1)=Ik []
 lt:H1.bY+1<h.bY
def FGs.c7{A h h':dj}{D E:PV}(a:FGs A h L G D E)(k:dq h h'):FGs A h' L G D E:=
 ⟨a.f.c7 k,by obtain⟨rows,H,h2⟩:=a.g;exact⟨rows,H.c7 k,h2⟩,a.ne,a.n1,a.n2,by rw[k.cd _ a.lt];exact a.o,YO a.lt k.bY⟩
def zNx{cap:nK}{s:Nat}{xs:V1}(J:σ.cd s=Ik (eh xs))(hs:s<σ.bY)(S:(Tw xs)<=1048576)(I:∀cap,full 1 cap (Tw xs)->K (.sl σ.bY 0 (Tw xs) cap) (σ.cb (eh xs))):zA Tp 66 [.sl s 0 (Tw xs) cap] σ K:=by
 refine zA.gh ?_;have E:¬s=σ.bY:=Jn hs;have A:(eh xs).length=Tw xs:=by simp[eh]
 refine Tn Tryz.func66 ?_;refine Tq ?_;refine ft.app (b:=0) (news:=eh xs) (m:=(Tw xs)) (zB σ _) (YQ _) (ft.cb _ 1 rfl (sB _)) rfl (λH=>?_) (by rw[A,KE]) aH aH λU h' R D=>?_
 .rw[qO];simp only[H,if_false,sB,if_true,KE,ZC,E];rw[zN J,Iu (by rw[A];omega),J0,YU (by rw[A];exact sB _)]
 .simp only[Z3,seval,-ae]at D ⊢;exact D.out R (zO _ _) I
def zQv{h:dj}{s0:Nat}{c:PV}{gs:List Nat}(H:RwG s0 c gs)(I:h.cd s0=Ik [])(E:s0<h.bY)(J:(Tw gs)<=4294967296){K:PV->dj->Prop}(D:∀cap,full 1 cap (Tw gs)->K (.sl h.bY 0 (Tw gs) cap) (h.cb (eh (nl gs)))):zA Tp 66 [c] h K:=by
 have e:(nl gs).length=Tw gs:=bj
 rcases H with ⟨w,a,rfl⟩|⟨rfl,rfl⟩
 .refine zl rfl aH λcap A=>?_;rw[e]at A ⊢;exact D cap A
 .exact zNx (xs:=[]) I E bj λcap A=>D cap A
set_option maxHeartbeats 6400000 in
def zLv(g:LG O P C)(hR:eQ vO vP vC O P C)(hb:iV O<=32)
  (hk:∀vS J h' M,dq σ h'->DB vS M->M.Perm ((allM (iV O) (HO O P C)).map (BQ O))->M.Pairwise (λu v=>¬ltS O v u)->K (.agg [vS,J]) h'):
  zA Tp 178 [.agg [vO,vP,vC]] σ K:=by
 have gg:=g;have s:=g.s;have bB:=s.le;obtain⟨hN,jX⟩:=ZN s;have g0:=hR.O.one;have g1:=hR.P.one;have g2:=hR.C.one;have tt:=tb g;refine To Tryz.func178 ?_;simp only[Z3,seval,-ae,g0,g1,g2];generalize hH:(σ.cb [vO,vP,vC]).cb [Tt,Tt]=H1;have kH:dq σ H1:=by rw[<-hH];exact(zB _ _).cb _
 have nH:H1.bY=σ.bY+2:=by rw[<-hH];rfl
 have oH:H1.cd σ.bY=Ik [vO,vP,vC]:=by rw[<-hH,zC,Iv (by show ¬σ.bY=σ.bY+1;omega),zC,Iu rfl]
 have oR:H1.cd (σ.bY+1)=Ik [Tt,Tt]:=by rw[<-hH,zC];exact Iu rfl
 clear hH;have e3:∀{g:dj},dq H1 g->g.rd σ.bY 0 3=Ik [vO,vP,vC]:=λk=>by rw[zN ((k.cd _ aH).trans oH)];rfl
 refine zJv g hR hb λvT hT=>?_;obtain⟨N,eN⟩:∃N,N=iV O:=⟨_,rfl⟩
 obtain⟨T,eT⟩:∃T,T=HO O P C:=⟨_,rfl⟩
 rw[<-eN,<-eT]at hk tt hT;rw[<-eN]at hb jX hN;have oT:=hT.bel 0;have Ax:∀{m:Nat},m<2 ^ N->m<2 ^ 32:=λh=>YO h (O9 aH hb);have P7:(2:Nat) ^ 32=4294967296:=by decide
 have cN:(2:Nat) ^ N<=2 ^ 32:=O9 aH hb;refine Tq ?_;refine zF (λr vs h=>∃(k:Nat) (L:List Nat) (G:List (List Nat)) (vf vg:PV),k<=Tw L/\r=2 ^ N-k/\vs=[.ptr σ.bY 0,.ptr (σ.bY+1) 0,vT,vf,vg,.int .i64 k]/\dq H1 h/\FGs H1 h L G vf vg/\LOK N T L/\GOK N T L G/\outer N T (2 ^ N-k) k L=allM N T) (2 ^ N) ?_ ?_
 .refine⟨0,[1],[[]],.sl H1.bY 0 1 (.cm 1),.sl (H1.bY+2) 0 1 (.cm 1),bj,rfl,rfl,((zB _ _).cb _).cb _,⟨?_,⟨[.sl (H1.bY+1) 0 0 (.cm 0)],?_,⟨rfl,λk a b ha hb=>?_⟩⟩,λt off l c dZ l' c' e1 e2=>?_,λoff l c e=>?_,λoff l c e=>?_,?_,?_⟩,zKa tt,zRD tt,rfl⟩
  .exact((ft.cb H1.bY 1 (h:=H1) (n:=1) (cs:=[.int .i64 1]) rfl (sB _)).c7 (zB _ _)).c7 (zB _ _)
  .exact⟨H1.bY+2,.cm 1,rfl,.inr rfl,by rw[zC];exact Iu rfl,rfl,aH,by show _<H1.bY+1+1+1;omega⟩
  .cases k with
   |zero=>cases ha;cases hb;exact .inr ⟨rfl,rfl⟩
   |succ k=>simp at ha
  .injection e1 with e1;injection e2 with e2;omega
  .injection e with e;omega
  .injection e with e;omega
  .rw[zC,Iv (by show ¬H1.bY+1=H1.bY+1+1;omega),zC];exact Iu rfl
  .show _<H1.bY+1+1+1;omega
 rintro r vs h ⟨k,L,G,vf,vg,J6,rfl,rfl,E,X,I,R,A⟩
 have uy:=I.len;have pf:=X.f.nN;by_cases H:k<Tw L;rotate_left
 .obtain rfl:k=Tw L:=aH
  rw[zLh _ (sB _)]at A;rw[<-A]at hk;simp only[Z3,seval,-ae,pf,H];clear A pf R;obtain⟨sf,cf,rfl,ff,of,lf,bf,nf⟩:=X.f;clear X;have kσ:dq σ h:=kH.trans E;have jg:=E.bY;have i0:=inb (show 0<2 by omega);have dr:=e3 (E.trans (zB h [Tt,Tt]));have ml:∀{M:V3} {k:Nat},M.Perm ((L.take k).map (BQ O))->∀w∈M,∃m∈L,w=BQ O m:=λY w hw=>by
   grind
  have DH:∀m∈L,SubM (iV O) (HO O P C) m:=λm hm=>by
   have:=I.sub m hm
   rw[eT,eN]at this;exact this
  refine zF (λr vs h'=>∃(k:Nat) (vS:PV) (M:V3),k<=Tw L/\r=Tw L-k/\vs=[.ptr σ.bY 0,.ptr (σ.bY+1) 0,.sl sf 0 (Tw L) cf,.ptr h.bY 0,.int .i64 k]/\h'=h.cb [vS,Tt]/\DB vS M/\M.Perm ((L.take k).map (BQ O))/\M.Pairwise (λu v=>¬ltS O v u)) (Tw L) ?_ ?_
  .refine⟨0,_,[],aH,rfl,rfl,rfl,⟨Im,.cU,[],rfl,ez.nil _⟩,List.Perm.refl _,List.Pairwise.nil⟩
  rintro r vs h' ⟨k,vS,M,bm,rfl,rfl,rfl,fS,Y,AL⟩
  by_cases D:k<Tw L;rotate_left
  .obtain rfl:k=Tw L:=aH
   rw[YP]at Y;simp only[Z3,seval,-ae,D];have oe:(Tw M)=Tw L:=by rw[Y.length_eq,Yj]
   obtain⟨wS,W,rS,rfl,D0⟩:=fS;refine zF (λr vs h'=>∃(k:Nat) (J:PV) (cells:List PV),k<=Tw M/\r=Tw M-k/\vs=[.ptr σ.bY 0,.ptr (σ.bY+1) 0,.ptr h.bY 0,.int .i64 k]/\dq h h'/\h.bY<h'.bY/\h'.cd h.bY=Ik [.fz wS W (Tw M) rS,J]/\fB h.bY 1 h' J k cells/\(∀off l c,J≠.sl h.bY off l c)) (Tw M) ⟨0,_,[],aH,rfl,rfl,zB _ _,YB _,by rw[zC,Iu rfl],fB.nil _ _ _,λoff l c e=>by cases e⟩ ?_;clear D bm
   rintro r vs h' ⟨k,J,cells,bm,rfl,rfl,DP,ah,oh,hA,GB⟩
   have r0:h'.gv h.bY 0=Ik (.fz wS W (Tw M) rS):=by rw[zH oh];rfl
   have r1:h'.gv h.bY 1=Ik J:=by rw[zH oh];rfl
   have r2:h'.rd h.bY 0 2=Ik [.fz wS W (Tw M) rS,J]:=by rw[zN oh];rfl
   have oM:=hA.one;by_cases D:k<Tw M;rotate_left
   .have MO:h'.cd (σ.bY+1)=Ik [Tt,Tt]:=by
     rw[DP.cd _ aH,E.cd _ aH];exact oR
    have wR:h'.wr (σ.bY+1) 0 [.fz wS W (Tw M) rS,J]=Ik (h'.set (σ.bY+1) [.fz wS W (Tw M) rS,J]):=by
     rw[zL MO];have h1:(PV.fz wS W (Tw M) rS).one=Im:=rfl;simp[h1,oM]
    simp only[Z3,seval,-ae,r0,D,r2,wR,oM];exact Gh.ret (hk _ J _ M ((kσ.trans DP).set aH _) ⟨wS,W,rS,rfl,D0⟩ Y AL)
   have S:=inb D;have wk:Tu .i64 ((k:Int)+1)=((k+1:Nat):Int):=lG (show k<4294967297 by omega) aH;obtain⟨c,iB,cK⟩:=D0.at D;have oc:=cK.one;obtain⟨m,hm,em⟩:=ml (k:=(Tw L)) (by rw[YP];exact Y) _ (ss D);have sV:=(zCE gg (DH m hm)).1;rw[<-em]at sV;simp only[Z3,seval,-ae,r0,D,S,iB,r1,e3 (E.trans DP),g0,g1,g2,oc,oM];refine zLw gg hR cK sV λz=>?_;have MS:¬h.bY=h'.bY:=aH
   simp only[Z3,seval,-ae,r0,D,S,iB,r1,oM,MS];refine fB.pushS (σb:=h) (bytes:=8) DP hA rfl aH aH λv' h4 k4 p4 q1 q2 q3=>?_;have ME:h4.cd h.bY=Ik [.fz wS W (Tw M) rS,J]:=by rw[q1 _ ah GB];exact oh
   have o4:=p4.one;have c4:=p4.cells;have w4:h4.wr h.bY 1 [v']=Ik (h4.set h.bY [.fz wS W (Tw M) rS,v']):=by
    rw[zL ME];simp[o4]
   simp only[Z3,seval,-ae,w4,c4,o4,wk];refine⟨_,aH,k+1,v',cells++[.int .i64 z],aH,rfl,rfl,k4.set (sB _) _,by show _<h4.bY;omega,rfl,?_,q2 _ ah⟩;obtain⟨sv,cv,rfl,z1,z2,z3,z4,z5⟩:=p4;exact .inr ⟨sv,cv,rfl,z1,by rw[zG,Iv (λe=>q2 _ ah 0 _ cv (by rw[e]))];exact z2,z3,z4,z5⟩
  have S:=inb D;have wk:Tu .i64 ((k:Int)+1)=((k+1:Nat):Int):=lG (show k<4294967297 by omega) aH;have bV:=DH _ (ss D);have JF:=E.trans (zB h [vS,Tt]);have rf:(h.cb [vS,Tt]).gv sf k=Ik (.int .i64 ((L[k]:Nat):Int)):=by
   rw[zH (by rw[zC,Iv aH];exact of),zCx D]
  have oS:=fS.one;simp only[Z3,seval,-ae,D,S,rf,e3 JF,g0,g1,g2,oS];refine zGI gg hR aH (by have:=bV.lt;exact this) λvu fu=>?_;have ou:=fu.one;simp only[Z3,seval,-ae,D,S,rf,e3 JF,g0,g1,g2,oS,ou];have pX:=ml Y;refine zIO s hR fS (λw hw=>by
   obtain⟨m,hm,rfl⟩:=pX w hw;exact⟨_,zET gg (DH m hm)⟩) (by have:=Y.length_eq;rw[Yj,Ym]at this;omega) fu (zET gg bV) (λhc=>?_) λv' f'=>?_
  .obtain⟨m,h1,h2⟩:=YD.1 (Y.mem_iff.1 hc);have h3:=zOn gg (DH m (Y7 h1)) bV h2;obtain⟨j,hj,e⟩:=YE.1 h1;rw[List.getElem_take]at e;rw[Ym]at hj;exact List.pairwise_iff_getElem.1 I.nd j k aH D aH (e.trans h3)
  have o':=f'.one;have c':=f'.cells;simp only[Z3,seval,-ae,o',c',wk];refine⟨_,aH,k+1,v',_,aH,rfl,rfl,?_,f',?_,zEJ AL⟩
  .rfl
  .rw[YV D,YI,PG];exact(zDH O _ M).trans ((Y.cons _).trans (List.perm_append_singleton _ _).symm)
 have S:=inb H;have wk:Tu .i64 ((k:Int)+1)=((k+1:Nat):Int):=lG (show k<4294967297 by omega) aH;have bV:=I.sub _ (ss H);have dF:=zLg (N:=N) (T:=T) (na H) (show 0<2 ^ N-k by omega);rw[dF]at A;obtain⟨m,em⟩:∃m,m=L[k]:=⟨_,rfl⟩
 rw[<-em]at bV A;have xj:L[k]? = Ik m:=by rw[em];exact na H
 obtain⟨gs,Af⟩:∃gs,G[k]? = Ik gs:=⟨_,na (by rw[R.len];exact H)⟩
 have Aq:=Ax bV.lt;have uj:inner N T m N 0 L=inner N T m (N-1) 1 L:=by
  obtain⟨q,eq⟩:∃q,N=q+1:=⟨N-1,aH⟩
  rw[eq,inner,Nat.add_sub_cancel];rw[<-eq];rw[show ins N T m L 0=L by unfold ins;rw[Iu bV.zero]]
 rw[uj]at A;obtain⟨Pp,Po,S3⟩:=R.gen k gs m Af xj;simp only[Z3,seval,-ae,pf,H,S];refine zF (λr vs h=>∃(t:Nat) (L:List Nat) (G:List (List Nat)) (vf vg:PV),1<=t/\t<=N/\L[k]? = Ik m/\G[k]? = Ik gs/\r=N-t/\vs=[.ptr σ.bY 0,.ptr (σ.bY+1) 0,vT,vf,vg,.int .i64 k,.int .i64 t]/\dq H1 h/\FGs H1 h L G vf vg/\LOK N T L/\GOK N T L G/\outer N T (2 ^ N-k-1) (k+1) (inner N T m (N-t) t L)=allM N T) (N-1) ?_ ?_
 .exact⟨1,L,G,vf,vg,sB _,jX,xj,Af,rfl,rfl,E,X,I,R,A⟩
 clear E X I R A xj Af em dF H S uy pf J6 uj
 rintro r vs h ⟨t,L,G,vf,vg,tS,Ga,xj,Af,rfl,rfl,E,X,I,R,A⟩
 have uy:=I.len;obtain⟨H,em⟩:=Yg.1 xj;simp only[Z3,seval,-ae,e3 E,g0,g1,g2];refine zb s hR ?_;rw[hN];by_cases jm:t<N;rotate_left
 .obtain rfl:t=N:=aH
  rw[Yh]at A;simp only[Z3,seval,-ae,jm,wk];exact⟨2 ^ t-(k+1),aH,k+1,L,G,vf,vg,aH,rfl,rfl,E,X,I,R,by rw[<-Nat.sub_sub];exact A⟩
 have wt:Tu .i64 ((t:Int)+1)=((t+1:Nat):Int):=lG (show t<1000 by omega) aH;have vE:(t:Int)<(N:Int):=aH
 have S:=inb H;have KG:=X;obtain⟨⟨sf,cf,rfl,ff,of,lf,bf,nf⟩,⟨rows,⟨V,cg,rfl,fg,og,lg,bg,ng⟩,dh⟩,aj,dW,mw,JX,GU⟩:=X;have rf:h.gv sf k=Ik (.int .i64 (m:Int)):=by rw[zH of,zCx H,em]
 have wu:=wrapV (c:=t) aH;have s1:=shr_i Aq (a:=t) aH;have U:=zF8 m t;obtain⟨q,ek⟩:∃q,N-t=q+1:=⟨N-t-1,aH⟩
 have IL:N-(t+1)=q:=aH
 rw[ek,inner]at A;by_cases mF:m.testBit t=Im
 .rw[show bt m t=1 from Iu mF]at U;rw[show ins N T m L t=L by unfold ins;rw[Iu mF]]at A;simp only[Z3,seval,-ae,jm,vE,H,S,rf,wu,s1,U,wt];exact⟨_,aH,t+1,L,G,_,_,aH,aH,xj,Af,rfl,rfl,E,KG,I,R,by rw[IL];exact A⟩
 rw[show bt m t=0 from Iv mF]at U;have OQ:=R.len;have D8:k<Tw G:=aH
 have G6:=inb D8;obtain⟨c,iB,cK⟩:=dh.at D8;have eg:G[k]=gs:=by
  grind
 rw[eg]at cK;have rg:h.gv V k=Ik c:=by rw[zH og];exact iB
 have oc:=cK.one;simp only[Z3,seval,-ae,jm,vE,H,S,rf,wu,s1,U,D8,G6,rg,oc];refine zQv cK JX GU aH λcap CJ=>?_;refine Tq ?_;refine ft.push (σb:=h) (bytes:=8) (zB _ _) (ft.own (b:=h.bY) CJ (by rw[zC];exact Iu rfl) (by simp[eh]) (sB _) (YB _)) aH aH λv8 h8 k8 p8=>?_;have o8:=p8.one;simp only[Z3,seval,-ae,o8];obtain⟨s8,c8,rfl,f8,DO,l8,b8,n8⟩:=p8;rw[<-zGF]at DO;have NK:(Tw gs)+1=(nl (gs++[t])).length:=bj
 rw[NK]at f8 ⊢;have CG:∀g∈gs++[t],g<N:=λg hg=>by
  grind
 refine zA.lendI DO (zO _ _) (by simp[eh]) (λc e=>by
  rcases f8 with f8|f8
  .rw[f8]at e;cases e
  .rw[f8]at e;cases e;exact sB _) oT λo=>zLu tt hb hT ⟨false,.sl o 0 _ c8,rfl⟩ CG (by simp;omega) λm' kV=>⟨.i64,m',rfl,?_⟩
 have PL:=zPq tt Pp Po jm kV;subst PL;have S8:=Ax (zSD (N:=N) (T:=T) m t);refine Tq ?_;have z1:¬sf=s8:=aH
 have z2:¬V=s8:=aH
 have z3:¬σ.bY=s8:=by have:=E.bY;omega
 have z4:¬σ.bY+1=s8:=by have:=E.bY;omega
 have z5:=hT.sb s8;have z6:kv c8 (nl (gs++[t])).length=Im:=f8.ok;refine qF (λr vs h9=>∃(o i:Nat),i<=Tw L/\r=Tw L-i/\vs=[.ptr σ.bY 0,.ptr (σ.bY+1) 0,vT,.sl sf 0 (Tw L) cf,.sl V 0 (Tw G) cg,.int .i64 k,.int .i64 t,.fz Im (.sl o 0 (nl (gs++[t])).length c8) (nl (gs++[t])).length (eh (nl (gs++[t]))),.int .i64 (ext N T m t:Nat),.bool (kn L (ext N T m t) i),.int .i64 i]/\dq h h9) (Tw L) (.fz s8 _ DO (zO _ _) λo=>.here ⟨o,0,YQ _,rfl,?_,k8.kill b8⟩) ?_
 .simp only[Z3,seval,-ae,nD,sb,z1,z2,z3,z4,z5,z6,false_and,and_self,sB,true_and];rfl
 clear k8 f8 l8 b8 n8 DO o8 z1 z2 z3 z4 z5 z6;have Ib:=I.ins tt bV.lt jm (x:=t)
 rintro r vs h9 ⟨o,i,hi,rfl,rfl,k9⟩
 have KF:=KG.c7 k9;have MH:h9.cd sf=Ik (eh (nl L)):=by rw[k9.cd _ nf];exact of
 by_cases aK:i<Tw L
 .have ku:=inb aK;have wi:Tu .i64 ((i:Int)+1)=((i+1:Nat):Int):=lG (show i<4294967297 by omega) aH;have Fa:h9.gv sf i=Ik (.int .i64 ((L[i]:Nat):Int)):=by rw[zH MH,zCx aK]
  have yJ:=zQ9 (m:=ext N T m t) aK;cases hq:kn L (ext N T m t) i with
  |true=>
   rw[hq,Bool.true_or]at yJ;simp only[Z3,seval,-ae,aK,ku,wi];exact⟨_,aH,.here ⟨o,i+1,aH,rfl,by rw[yJ],k9⟩⟩
  |false=>
   rw[hq,Bool.false_or]at yJ;by_cases he:L[i]=ext N T m t
   .rw[he]at Fa;rw[beq_iff_eq.2 he]at yJ;simp only[Z3,seval,-ae,aK,ku,Fa,wi];exact⟨_,aH,.here ⟨o,i+1,aH,rfl,by rw[yJ],k9⟩⟩
   .have Kj:¬((L[i]:Nat):Int)=((ext N T m t:Nat):Int):=aH
    rw[show(L[i] == ext N T m t)=false by simpa using he]at yJ;simp only[Z3,seval,-ae,aK,ku,Fa,wi,Kj];exact⟨_,aH,.here ⟨o,i+1,aH,rfl,by rw[yJ],k9⟩⟩
 obtain rfl:i=Tw L:=aH
 have JG:=E.trans k9;by_cases cD:ext N T m t∈L
 .rw[show ins N T m L t=L by unfold ins;rw[Iv mF,Iu cD]]at A;rw[zN0.2 cD];simp only[Z3,seval,-ae,aK,wt];exact⟨_,aH,t+1,L,G,_,_,aH,aH,xj,Af,rfl,rfl,JG,KF,I,R,by rw[IL];exact A⟩
 have ei:ins N T m L t=L++[ext N T m t]:=by unfold ins;rw[Iv mF,Iv cD]
 rw[ei]at A Ib;have Ia:=Ib.len;rw[cO,Yk]at Ia;rw[show kn L (ext N T m t) (Tw L)=false from Bool.eq_false_iff.2 λh=>cD (zN0.1 h)];obtain⟨⟨_,_,e1,PA,Fs,M4,Rd,MV⟩,⟨uK,⟨_,_,e2,Pz,RU,M3,Rc,Ju⟩,yi⟩,NI,GJ,GI,NF,GR⟩:=KF;cases e1;cases e2;simp only[Z3,seval,-ae,aK];refine fB.pushS (σb:=H1) (bytes:=8) JG (ft.acc ⟨sf,cf,rfl,PA,Fs,M4,Rd,MV⟩) rfl aH aH λRx h2 k2 p2 r1 r2 r3=>?_;have MI:=p2.one;have MF:h2.cd V=Ik uK:=by grind
 have MU:V<h2.bY:=aH
 simp only[Z3,seval,-ae,MI];refine fB.pushS (σb:=H1) (bytes:=24) k2 (ft.acc ⟨V,cg,rfl,Pz,MF,M3,Rc,MU⟩) rfl aH aH λLF h3 k3 p3 q1 q2 q3=>?_;have RT:=p2;obtain⟨U,c2,rfl,f2,o2,l2,b2,n2⟩:=p2;have JS:∀(l:Nat) (c:nK),PV.sl V 0 l c≠PV.sl U 0 l c:=λl c e=>by
  injection e with e;exact r2 V Ju 0 _ c2 (by rw[e])
 have ne2:V≠U:=λe=>r2 V Ju 0 _ c2 (by rw[e]);have o3:h3.cd U=Ik (eh (nl L)++[.int .i64 ((ext N T m t:Nat):Int)]):=by
  grind
 simp only[Z3,seval,-ae,wt];refine⟨_,aH,t+1,L++[ext N T m t],G++[gs++[t]],.sl U 0 (Tw L+1) c2,LF,aH,aH,by rw[YC H];exact xj,by rw[YC D8];exact Af,rfl,?_,k3,⟨?_,⟨uK++[_],?_,yi.snoc (.inl ⟨Im,.sl o 0 (nl (gs++[t])).length c8,rfl⟩)⟩,λt0 off l c dZ l' c' e1 e2=>?_,λoff l c e=>?_,?_,?_,?_⟩,Ib,?_,by rw[IL];exact A⟩
 .rfl
 .rw[zGF,cO];exact⟨U,c2,rfl,f2,o3,l2,b2,aH⟩
 .rw[cO];exact p3
 .grind
 .grind
 .exactλoff l c=>q2 (H1.bY+1) aH off l c
 .rw[q1 _ aH GI,r1 _ GR GJ];exact NF
 .omega
 .exact R.snoc kV CG (by simp;omega)
end
section
open Go.Lat
def latP(O:V1)(P:V2)(C:V3)(M:V3):Prop:=M.Perm ((allM (iV O) (HO O P C)).map (BQ O))/\M.Pairwise λu v=>¬ltS O v u
def latP.sub(g:LG O P C)(h:latP O P C M):∀w∈M,zh O P C w:=λw D=>by
 obtain⟨m,A,rfl⟩:=YD.1 (h.1.mem_iff.1 D);exact(zCE g ((zJH (tb g)).sub _ A)).1
noncomputable def cpl(O:V1)(P:V2)(C:V3)(u w:V2):Bool:=@decide (tR O u*tR O w=jW O (Tw O)/\TrivM O P C u w) (Classical.propDecidable _)
def zSM{t:Bool}(h:t=Im↔tR O u*tR O w=jW O (Tw O)/\TrivM O P C u w):cpl O P C u w=t:=by
 unfold cpl;cases t with
 |true=>exact @decide_eq_true _ (Classical.propDecidable _) (h.1 rfl)
 |false=>exact @decide_eq_false _ (Classical.propDecidable _) λq=>by cases h.2 q
def zHL(A:eQ vO vP vC O P C)(sz:ti O P C)(J:hK vU u)(U:CV u)(R:∀t:Bool,(t=Im↔(zI O P C/\Cons O P C)/\zh O P C u)->K (.bool t) σ):
  zA Tp 176 [.agg [vO,vP,vC],vU] σ K:=by
 have E:=A.O.one;have H:=A.P.one;have I:=A.C.one;have S:=J.one;refine To Tryz.func176 ?_;simp only[Z3,seval,-ae,E,H,I,S];refine ZB A sz λt D=>?_;cases t with
 |false=>
  refine Tq ?_;exact Gh.fin0 (zB σ _) trivial (R false ⟨λq=>(by cases q),λq=>by cases D.2 q.1⟩)
 |true=>
 have g:LG O P C:=⟨(D.1 rfl).1,(D.1 rfl).2⟩;simp only[Z3,seval,-ae,E,H,I,S];refine zPh g A J U λt h2=>?_;refine Tq ?_;exact Gh.fin0 (zB σ _) trivial (R t ⟨λq=>⟨D.1 rfl,h2.1 q⟩,λq=>h2.2 q.2⟩)
def zLy(A:eQ vO vP vC O P C)(sz:ti O P C)(D:hK vU u)(Y:CV u)
  (W:¬((zI O P C/\Cons O P C)/\zh O P C u)->K (.int .i64 1) σ) (X:∀g:LG O P C,zh O P C u->¬NorG O P C u->K (.int .i64 5) σ) (V:∀g:LG O P C,zh O P C u->NorG O P C u->K (.int .i64 0) σ):
  zA Tp 137 [.agg [vO,vP,vC],vU] σ K:=by
 have E:=A.O.one;have H:=A.P.one;have I:=A.C.one;have U:=D.one;refine To Tryz.func137 ?_;simp only[Z3,seval,-ae,E,H,I,U];refine zHL A sz D Y λt S=>?_;cases t with
 |false=>
  refine Tq ?_;exact Gh.fin0 (zB σ _) trivial (W λq=>by cases S.2 q)
 |true=>
 obtain⟨J,su⟩:=S.1 rfl;have g:LG O P C:=⟨J.1,J.2⟩;simp only[Z3,seval,-ae,E,H,I,U];refine zIQ g A D su λt R=>?_;cases t with
 |false=>
  refine Tq ?_;exact Gh.fin0 (zB σ _) trivial (X g su λq=>by cases R.2 q)
 |true=>
  refine Tq ?_;exact Gh.fin0 (zB σ _) trivial (V g su (R.1 rfl))
def zNp(g:LG O P C)(A:eQ vO vP vC O P C)(J:iV O<=32)(R:∀vS M,DB vS M->latP O P C M->K vS σ):zA Tp 138 [.agg [vO,vP,vC]] σ K:=by
 have E:=A.O.one;have H:=A.P.one;have I:=A.C.one;refine To Tryz.func138 ?_;simp only[Z3,seval,-ae,E,H,I];refine zLv g A J λvS W h' M U D S hs=>?_;have V:=D.one;simp only[Z3,seval,-ae,V];exact Gh.fin0 ((zB σ _).trans U) (D.bel _) (R vS M D ⟨S,hs⟩)
def zNo(W:DB vL M)(hl:(Tw M)<=4294967296)(R:∀w∈M,CV w)(X:∀v,DB v M->K v σ):zA Tp 140 [vL] σ K:=by
 obtain⟨wl,al,rl,rfl,V⟩:=W;refine To Tryz.func140 ?_;refine Tq ?_;refine zF (λm vs h'=>∃(i:Nat) (v:PV) (rows:List PV),i<=Tw M/\m=Tw M-i/\vs=[.fz wl al (Tw M) rl,v,.int .i64 (i:Nat)]/\dq σ h'/\ft σ.bY 1 h' v i rows/\ez hK rows (M.take i)) (Tw M) ?_ ?_
 .exact⟨0,_,[],aH,aH,rfl,zB σ _,ft.cb σ.bY 1 rfl (sB _),(by simpa using ez.nil _)⟩
 rintro m vs h' ⟨i,v,rows,hi,rfl,rfl,H,J,D⟩
 by_cases A:i<Tw M;rotate_left
 .obtain rfl:i=Tw M:=aH
  rw[YP]at D;simp only[Z3,seval,-ae,A];exact ft.fin H J (D.bels λv x Y=>Y.bel 0) λo cap=>X _ ⟨Im,_,rows,rfl,D⟩
 obtain⟨c,iB,I⟩:=V.at A;have S:=inb A;have wi:Tu .i64 ((i:Int)+1)=((i+1:Nat):Int):=lG (show i<4294967297 by omega) aH;have oc:=I.one;simp only[Z3,seval,-ae,A,S,iB,oc];refine Zh I (R _ (ss A)) λv2 E=>?_;have o2:=E.one;have U:=E.cells;simp only[Z3,seval,-ae,o2,U];refine ft.push (bytes:=24) (σb:=σ) H J aH aH λv3 h3 k3 a3=>?_;simp only[Z3,seval,-ae,wi];exact⟨_,aH,i+1,v3,_,aH,rfl,rfl,k3,a3,by rw[YV A];exact D.snoc E⟩
end
section
open Go.Lat
def CplR(O:V1)(P:V2)(C:V3)(u:V2)(Z:V3)(c:Int):Prop:=
 (¬((zI O P C/\Cons O P C)/\zh O P C u)/\Z=[]/\c=1)\/(∃_:LG O P C,zh O P C u/\((¬NorG O P C u/\Z=[]/\c=5)\/(NorG O P C u/\32<iV O/\Z=[]/\c=3)\/(NorG O P C u/\iV O<=32/\(∃M,latP O P C M/\Z=M.filter (cpl O P C u))/\c=0)))
def CplR.sub{Z:V3}(h:CplR O P C u Z 0):∃_:LG O P C,zh O P C u/\∀w∈Z,zh O P C w:=by
 rcases h with ⟨_,_,h⟩|⟨g,A,a⟩
 .cases h
 .refine⟨g,A,?_⟩;rcases a with ⟨_,_,h⟩|⟨_,_,_,h⟩|⟨_,_,⟨M,D,rfl⟩,_⟩
  .cases h
  .cases h
  .exactλw E=>D.sub g w (ND.1 E).1
end
section
open Go.Lat
def zh.sz(g:LG O P C)(h:zh O P C w):CV w:=by
 have D:=g.s.le;have E:=h.len;exact⟨aH,λy A=>by have:=(h.2.one y A).1.len;omega⟩
def latP.len(D:iV O<=32)(g:LG O P C)(h:latP O P C M):(Tw M)<=4294967296:=by
 have A:=h.1.length_eq;rw[Yj]at A;have h2:=(zJH (tb g)).len;have E:(2:Nat) ^ iV O<=2 ^ 32:=O9 aH D;have H:(2:Nat) ^ 32=4294967296:=by decide
 omega
def zHM(E:eQ vO vP vC O P C)(sz:ti O P C)(hU:hK vU u)(mc:CV u)(hk:∀vZ Z c,CplR O P C u Z c->DB vZ Z->K (.tup [vZ,.int .i64 c]) σ):zA Tp 80 [.agg [vO,vP,vC],vU] σ K:=by
 have S:=E.O.one;have U:=E.P.one;have V:=E.C.one;have oU:=hU.one;have dK:∀{c:Int} {g:dj},dq σ g->CplR O P C u [] c->Gh σ K (.tup [Tt,.int .i64 c]) g:=λ{c g} kk h=>
  Gh.fin0 kk ⟨Is,Is,Is⟩ (hk _ [] c h ⟨Im,.cU,[],rfl,ez.nil _⟩)
 refine To Tryz.func80 ?_;simp only[Z3,seval,-ae,S,U,V,oU];have J:dq σ (σ.cb [vO,vP,vC]):=zB _ _;have nH:(σ.cb [vO,vP,vC]).bY=σ.bY+1:=rfl;have e0:(σ.cb [vO,vP,vC]).cd σ.bY=Ik [vO,vP,vC]:=by simp only[Z3,seval,-ae]
 generalize σ.cb [vO,vP,vC]=H at *
 have e3:∀{g:dj},dq H g->g.rd σ.bY 0 3=Ik [vO,vP,vC]:=λk=>by rw[zN ((k.cd _ aH).trans e0)];rfl
 refine zLy E sz hU mc (λn=>?_) (λg su n=>?_) λg su n=>?_
 .refine Tq ?_;exact dK J (.inl ⟨n,rfl,rfl⟩)
 .refine Tq ?_;exact dK J (.inr ⟨g,su,.inl ⟨n,rfl,rfl⟩⟩)
 obtain⟨hN,jX⟩:=ZN g.s;simp only[Z3,seval,-ae,e3 (dq.refl H),S,U,V];refine zb g.s E ?_;rw[hN];by_cases hb:iV O<=32;rotate_left
 .have wN:(32:Int)<(iV O:Int):=aH
  simp only[Z3,seval,-ae,wN];exact dK J (.inr ⟨g,su,.inr (.inl ⟨n,aH,rfl,rfl⟩)⟩)
 have wN:¬(32:Int)<(iV O:Int):=aH
 simp only[Z3,seval,-ae,wN,e3 (dq.refl H),S,U,V];refine zNp g E hb λvS M fS W=>?_;have oS:=fS.one;have hl:=W.len hb g;obtain⟨wS,aS,rS,rfl,D0⟩:=fS;simp only[Z3,seval,-ae,oS];refine zF (λr vs h=>∃(i:Nat) (v:PV) (A:List PV),i<=Tw M/\r=Tw M-i/\vs=[vU,.ptr σ.bY 0,.fz wS aS (Tw M) rS,v,.int .i64 i]/\dq H h/\ft H.bY 1 h v (Tw A) A/\ez hK A ((M.take i).filter (cpl O P C u))/\Tw A<=i) (Tw M) ?_ ?_
 .refine⟨0,_,[],aH,rfl,rfl,zB _ _,ft.cb H.bY 1 rfl (sB _),(by simpa using ez.nil _),bj⟩
 rintro r vs h ⟨i,v,A,hi,rfl,rfl,Y,X,I,nQ⟩
 by_cases D:i<Tw M;rotate_left
 .obtain rfl:i=Tw M:=aH
  rw[YP]at I;have C9:=X;obtain⟨s,c,rfl,f,o,l,b,n'⟩:=X;simp only[Z3,seval,-ae,D];refine zA.frz (s:=s) (cs:=A) o (I.bels λv x hv=>hv.bel 0) λo3=>?_;have hc:kv c (Tw A)=Im:=f.ok;simp only[nD,sb,hc,and_self,if_true,decide_true,sB,mr];have k3:dq H (h.kill s):=Y.kill b;generalize h.kill s=H3 at *
  refine zNo (M:=M.filter (cpl O P C u)) ⟨Im,_,A,by rw[I.1],I⟩ (by rw[<-I.1];omega) (λw hw=>zh.sz g (W.sub g w (ND.1 hw).1)) λvZ fZ=>?_;have oZ:=fZ.one;simp only[Z3,seval,-ae,oZ];exact Gh.fin0 (J.trans k3) ⟨fZ.bel _,Is,Is⟩ (hk vZ _ 0 (.inr ⟨g,su,.inr (.inr ⟨n,hb,⟨M,W,rfl⟩,rfl⟩)⟩) fZ)
 have aK:=inb D;have wi:Tu .i64 ((i:Int)+1)=((i+1:Nat):Int):=lG (show i<4294967297 by omega) aH;obtain⟨c,iB,R⟩:=D0.at D;have oc:=R.one;have cc:=R.cells;have tk:=YV D;simp only[Z3,seval,-ae,D,aK,iB,oc,cc,e3 Y,S,U,V,oU];refine zEf g E hU su R (W.sub g _ (ss D)) λt ht=>?_;have hq:=zSM ht;cases t with
 |false=>
  simp only[Z3,seval,-ae,wi];refine⟨_,aH,i+1,v,A,aH,rfl,rfl,Y,X,?_,aH⟩;rw[tk,P0,List.filter_cons_of_neg (by rw[hq];decide),List.filter_nil,YL];exact I
 |true=>
  simp only[Z3,seval,-ae,D,aK,iB,oc,cc];refine ft.push (bytes:=24) (σb:=H) Y X aH aH λv2 h2 k2 a2=>?_;simp only[Z3,seval,-ae,wi];refine⟨_,aH,i+1,v2,A++[c],aH,rfl,rfl,k2,(by rw[cO];exact a2),?_,by rw[cO];simp;omega⟩;rw[tk,P0,List.filter_cons_of_pos hq,List.filter_nil];exact I.snoc R
end
section
open Go.Lat
variable{rows:List PV}
def SplR(O:V1)(P:V2)(C:V3)(u:V2)(k:Int)(G:List sg)(Z:V2)(c:Int):Prop:=
 ∃Y A,CplR O P C u Y A/\((A≠0/\(k=0/\G=[]/\Z=[])/\c=A)\/(A=0/\Y=[]/\(k=0/\G=[]/\Z=[])/\c=4)\/(A=0/\∃w D,Y=w::D/\(k=6/\G=[(O,P,C)]/\Z=[[(Tw u:Int)]]++(u++w))/\c=0))
def zOF{g:Nat}{D E A vL:PV}{L:V2}(S:dq σ hE)(W:hE.cd g=Ik [D,E,A])(J:σ.bY<=g)(H:eQ D E A O P C)(I:hK vL L)
  (k:∀o,σ.top<=o->o∉z8 [D,E,A]->o∉mP vL->σ.top<=max hE.top (o+1)->K (.tup [.agg [.int .i64 6,.fz Im (.sl o 0 1 (.cm 1)) 1 [D,E,A],vL],.int .i64 0]) (σ.up (max hE.top (o+1)))):Gh σ K (.tup [.agg [.int .i64 6,.sl g 0 1 (.cm 1),vL],.int .i64 0]) hE:=by
 refine Gh.freeze (s:=g) (cs:=[D,E,A]) W J ⟨H.O.bel 0,H.P.bel 0,H.C.bel 0,Is⟩ λo X V R=>?_;have sL:sb g o [D,E,A] vL=vL:=I.sb _ _ _;simp only[sb,nD,sL,kv,and_self,if_true,decide_true,sB];have U:o∉mP vL:=by
  simp only[mP,z8,Yn,YL]at R;exact R
 exact Gh.fin0T (t:=max hE.top (o+1)) ((S.kill J).up (by simp only[dj.kill];omega)) (sB _) ⟨⟨Is,Is,I.bel _,Is⟩,Is,Is⟩ λ_=>k o X V U (by have:=S.top;omega)
def zRE{R H I E:PV}{rows:List PV}{M:V2}{s1 g m:Nat}{z:Int}(kk:dq σ hE)(a:ft σ.bY 1 hE R m ([.sl s1 0 1 (.cm 1)]++rows))(h1:hE.cd s1=Ik [.int .i64 z])(S:σ.bY<=s1)(hg:hE.cd g=Ik [H,I,E])(kD:σ.bY<=g)(Ge:g≠s1)
  (n1:∀off l c,R≠.sl s1 off l c) (n2:∀off l c,R≠.sl g off l c) (J:eQ H I E O P C) (hr:ez FI rows M) (hm:m=Tw M+1)
  (k:∀vG vL t,FG vG [(O,P,C)]->hK vL ([[z]]++M)->σ.top<=t->(kz σ.top hE.top ([H,I,E]++rows)->kz σ.top t [vG,vL])->K (.tup [.agg [.int .i64 6,vG,vL],.int .i64 0]) (σ.up t)):
  Gh σ K (.tup [.agg [.int .i64 6,.sl g 0 1 (.cm 1),R],.int .i64 0]) hE:=by
 refine Gh.pwf λw=>?_;obtain⟨t,c,rfl,q1,q2,q3,U,q5⟩:=a;have ts:¬t=s1:=λe=>n1 0 m c (by rw[e]);have tg:¬t=g:=λe=>n2 0 m c (by rw[e]);have gt:¬g=t:=λe=>tg e.symm;have gs:¬g=s1:=Ge;have V:ko 0 [H,I,E]:=⟨J.O.bel 0,J.P.bel 0,J.C.bel 0,Is⟩;have W:=hr.bI 0;refine Gh.freezeH h1 S ⟨Is,Is⟩ λA i1 X _=>?_;simp only[sb,nD,gs,ts,false_and,if_false];have mN:dq σ (((hE.kill s1).sub s1 A [.int .i64 z]).up (max hE.top (A+1))):=(dq.sub w (kk.kill S) S).up (by simp only[dj.sub,dj.kill];omega);have wV:(((hE.kill s1).sub s1 A [.int .i64 z]).up (max hE.top (A+1))).cd g=Ik [H,I,E]:=by
  simp only[dj.up,dj.sub,dj.kill,Iv gs,hg,Kc];rw[qc (YQ _) V]
 have tS:(((hE.kill s1).sub s1 A [.int .i64 z]).up (max hE.top (A+1))).cd t=Ik ([.fz Im (.sl A 0 1 (.cm 1)) 1 [.int .i64 z]]++rows):=by
  simp only[dj.up,dj.sub,dj.kill,Iv ts,q2,Kc];rw[zAX,qc (YQ _) W];simp only[nD];rw[sb,Iu (by simp[kv])]
 have bc:ko 0 ([.fz Im (.sl A 0 1 (.cm 1)) 1 [.int .i64 z]]++rows):=⟨Is,W⟩;have LR:(((hE.kill s1).sub s1 A [.int .i64 z]).up (max hE.top (A+1))).top=max hE.top (A+1):=rfl;generalize ((hE.kill s1).sub s1 A [.int .i64 z]).up (max hE.top (A+1))=H1 at *
 refine Gh.freezeH tS U bc λD i2 Y _=>?_;have cV:kv c m=Im:=q1.ok;simp only[sb,nD,gt,false_and,if_false,and_self,true_and,cV,if_true];have jA:=(dq.sub (s:=t) (o:=D) (cs:=[.fz Im (.sl A 0 1 (.cm 1)) 1 [.int .i64 z]]++rows) w (mN.kill U) U).up (t:=max H1.top (D+1)) (by simp only[dj.sub,dj.kill];omega);have lj:(((H1.kill t).sub t D ([.fz Im (.sl A 0 1 (.cm 1)) 1 [.int .i64 z]]++rows)).up (max H1.top (D+1))).cd g=Ik [H,I,E]:=by
  simp only[dj.up,dj.sub,dj.kill,Iv gt,wV,Kc];rw[qc (YQ _) V]
 have Jg:(((H1.kill t).sub t D ([.fz Im (.sl A 0 1 (.cm 1)) 1 [.int .i64 z]]++rows)).up (max H1.top (D+1))).top=max H1.top (D+1):=rfl;generalize ((H1.kill t).sub t D ([.fz Im (.sl A 0 1 (.cm 1)) 1 [.int .i64 z]]++rows)).up (max H1.top (D+1))=H2 at *
 have fL:hK (.fz Im (.sl D 0 m c) m ([.fz Im (.sl A 0 1 (.cm 1)) 1 [.int .i64 z]]++rows)) ([[z]]++M):=by
  refine⟨Im,.sl D 0 m c,[.fz Im (.sl A 0 1 (.cm 1)) 1 [.int .i64 z]]++rows,by rw[hm];simp,?_⟩;exact ez.append ((ez.nil FI).snoc ⟨Im,_,rfl⟩) hr
 refine zOF jA lj kD J fL λo3 i3 f3 f4 BX=>k _ _ _ (zFk J) fL BX λow=>?_;have a1:A∉lH ([H,I,E]++rows):=by
  rw[zU,YZ]
  rintro(hm|hm)
  .exact X g _ hg (zf hm)
  .refine X t _ q2 (zf ?_);simp only[lH,YZ,Yy,Yn]at hm ⊢;exact .inr hm
 have Fy:kz σ.top (max hE.top (A+1)) ([H,I,E]++([.fz Im (.sl A 0 1 (.cm 1)) 1 [.int .i64 z]]++rows)):=
  kz.ins (a:=[H,I,E]) (b:=rows) (xs:=[z]) ow i1 aH aH a1
 have a2:D∉lH ([H,I,E]++([.fz Im (.sl A 0 1 (.cm 1)) 1 [.int .i64 z]]++rows)):=by
  rw[zU,YZ]
  rintro(hm|hm)
  .exact Y g _ wV (zf hm)
  .exact Y t _ tS (zf hm)
 have By:=kz.last (l:=m) (cap:=c) Fy i2 (hi':=max H1.top (D+1)) aH aH a2;have Bz:=kz.comm By;have a3:o3∉lH ([.fz Im (.sl D 0 m c) m ([.fz Im (.sl A 0 1 (.cm 1)) 1 [.int .i64 z]]++rows)]++[H,I,E]):=by
  rw[zU,YZ]
  rintro(hm|hm)
  .refine f4 (zAM ?_);simpa only[lH,YL]using hm
  .exact f3 (zf hm)
 have Bx:=kz.last (l:=1) (cap:=.cm 1) Bz i3 (hi':=max H2.top (o3+1)) aH aH a3;exact kz.comm (a:=[_]) (b:=[_]) Bx
end
section
open Go.Lat
variable{rows:List PV}
def zHJ(sz:ti O P C)(E:eQ vO vP vC O P C)(hU:hK vU u)(mc:CV u)
  (hk:∀k G Z vG vZ c t,SplR O P C u k G Z c->FG vG G->hK vZ Z->σ.top<=t->K (.tup [.agg [.int .i64 k,vG,vZ],.int .i64 c]) (σ.up t)):zA Tp 31 [.agg [vO,vP,vC],vU] σ K:=by
 have U:=E.O.one;have V:=E.P.one;have W:=E.C.one;have S:dq σ ((σ.cb [vO,vP,vC]).cb [.int .i64 0,Tt,Tt]):=(zB _ _).cb _;have dK:∀{c:Int} {g:dj},dq σ g->SplR O P C u 0 [] [] c->Gh σ K (.tup [.agg [.int .i64 0,Tt,Tt],.int .i64 c]) g:=λ{c g} kk h=>
  Gh.fin0T kk kk.top ⟨⟨Is,Is,Is,Is⟩,Is,Is⟩ λ_=>hk 0 [] [] _ _ c σ.top h zA2 ⟨Im,.cU,[],rfl,ez.nil _⟩ (sB _)
 have n9:=hU;obtain⟨wl,al,rl,rfl,dR⟩:=hU;refine To Tryz.func31 ?_;simp only[Z3,seval,-ae,U,V,W];refine zHM E sz n9 mc λvY Y cc I fY=>?_;obtain⟨wz,az,rz,rfl,tW⟩:=fY;by_cases X:cc=0;rotate_left
 .simp only[Z3,seval,-ae,X,U,V,W];exact dK S ⟨Y,cc,I,.inl ⟨X,⟨rfl,rfl,rfl⟩,rfl⟩⟩
 subst X;cases Y with
 |nil=>
  have z0:((([]:V3).length:Nat):Int)=0:=rfl;simp only[Z3,seval,-ae,z0];exact dK S ⟨[],0,I,.inr (.inl ⟨rfl,rfl,⟨rfl,rfl,rfl⟩,rfl⟩)⟩
 |cons w Y'=>
 have z0:¬(((w::Y').length:Nat):Int)=0:=by rw[YF];omega
 have z1:0<(w::Y').length:=by rw[YF];omega
 have z2:(0:Int)<(((w::Y').length:Nat):Int):=aH
 obtain⟨lg,su,bV⟩:=I.sub;have sw:=bV w bj;have iu:=su.len;have mi:=sw.len;have bB:=lg.s.le;obtain⟨vw,Me,fw⟩:=tW.at z1;have ew:(w::Y')[0]=w:=rfl;rw[ew]at fw;clear ew;generalize hn:(w::Y').length=n at *
 simp only[Z3,seval,-ae,z0];refine Zh n9 mc λvg fg=>?_;obtain⟨wg,ag,rg,rfl,sW⟩:=fg;generalize D:(((σ.cb [vO,vP,vC]).cb [PV.int .i64 0,Tt,Tt]).cb [PV.int .i64 ↑(Tw u)]).cb [PV.sl (σ.bY+2) 0 1 (nK.cm 1)]=H at *
 have kH:dq σ H:=by rw[<-D];exact((S.cb _).cb _)
 have nH:H.bY=σ.bY+4:=by rw[<-D];rfl
 have e0:H.cd σ.bY=Ik [vO,vP,vC]:=by rw[<-D];simp only[Z3,seval,-ae]
 have e1:H.cd (σ.bY+1)=Ik [.int .i64 0,Tt,Tt]:=by rw[<-D];simp only[Z3,seval,-ae]
 have e2:H.cd (σ.bY+2)=Ik [.int .i64 (Tw u)]:=by rw[<-D];simp only[Z3,seval,-ae]
 have e3:H.cd (σ.bY+3)=Ik [.sl (σ.bY+2) 0 1 (.cm 1)]:=by rw[<-D];simp only[Z3,seval,-ae]
 refine Tq ?_;refine ft.catK (bytes:=24) (σb:=σ) (n:=1) kH ⟨_,_,rfl,.inr rfl,e3,rfl,aH,aH⟩ (by rw[sW.1]) aH aH λv2 h2 k2 a2 s2 n2 t2=>?_;have nn:∀{t:Nat},t<3->∀off l c,PV.sl (σ.bY+3) 0 1 (nK.cm 1)≠.sl (σ.bY+t) off l c:=λht off l c e=>by
  simp only[PV.sl.injEq]at e;omega
 obtain⟨f0,m0⟩:=s2 σ.bY aH (nn (t:=0) aH);obtain⟨f1,m1⟩:=s2 (σ.bY+1) aH (nn (t:=1) aH);obtain⟨f2,m2⟩:=s2 (σ.bY+2) aH (nn (t:=2) aH);obtain⟨ww,aw,Mc,rfl,eE⟩:=fw;simp only[Z3,seval,-ae,a2.one,z1,z2,Me,J0];refine ft.catK (bytes:=24) (σb:=σ) k2 a2 (by rw[eE.1]) aH aH λR A k3 a3 s3 n3 t3=>?_;obtain⟨q0,p0⟩:=s3 σ.bY aH m0;obtain⟨q1,p1⟩:=s3 (σ.bY+1) aH m1;obtain⟨q2,p2⟩:=s3 (σ.bY+2) aH m2;have r0:A.rd σ.bY 0 3=Ik [vO,vP,vC]:=by rw[zN (q0.trans (f0.trans e0))];rfl
 have z3:gH (jE [.cU,.cU,.cU] 1)=[Tt,Tt,Tt]:=rfl;simp only[Z3,seval,-ae,a3.one,r0,U,V,W];refine Z9 E sz λwO wP wC J=>?_;have c3:R.cells=[R]:=by obtain⟨s,cap,rfl,_⟩:=a3;rfl
 have AY:A.cd (σ.bY+1)=Ik [.int .i64 0,Tt,Tt]:=q1.trans (f1.trans e1);have sM:=k3.bY;have BD:¬σ.bY+1=A.bY:=aH
 have MT:σ.bY<=A.bY:=aH
 have Ds:A.wr (σ.bY+1) 0 [.int .i64 6,.sl A.bY 0 1 (.cm 1),R]=Ik (A.set (σ.bY+1) [.int .i64 6,.sl A.bY 0 1 (.cm 1),R]):=zEP AY rfl (by obtain⟨s,cap,rfl,_⟩:=a3;rfl);simp only[Z3,seval,-ae,a3.one,c3,BD,Ds,z3,J.O.one,J.P.one,J.C.one];obtain⟨s4,lY,rfl,c4,o4,l4,b4,b5⟩:=a3;have BA:¬s4=σ.bY+1:=λe=>p1 0 _ _ (by rw[e]);have eS:∀t,t<A.bY->t≠σ.bY+1->((A.set (σ.bY+1) [PV.int .i64 6,PV.sl A.bY 0 1 (nK.cm 1),.sl s4 0 (1+Tw u+Tw w) lY]).cb [wO,wP,wC]).cd t=A.cd t:=λt h1 h2=>by
  rw[zC,Iv (show ¬t=(A.set _ _).bY from Jn h1),zG,Iv h2]
 refine zRE (rows:=rg++Mc) (M:=u++w) (s1:=σ.bY+2) (z:=(Tw u)) ((k3.set (Yb _) _).cb _) ⟨s4,lY,rfl,c4,?_,?_,b4,Lk b5⟩ ?_ aH ?_ aH aH p2 (λoff l c e=>?_) J (ez.append sW eE) (by rw[cO];omega) λvG vL t fG fL ht _=>hk 6 _ _ vG vL 0 t ⟨_,0,I,.inr (.inr ⟨rfl,w,Y',rfl,⟨rfl,rfl,rfl⟩,rfl⟩)⟩ fG fL ht
 .rw[eS _ b5 BA,o4,YH]
 .rw[<-YH];exact l4
 .rw[eS _ aH aH];exact q2.trans (f2.trans e2)
 .rw[zC];exact Iu rfl
 .simp only[PV.sl.injEq]at e;omega
def zJL(sz:ti O P C)(H:eQ vO vP vC O P C)(I:hK vU u)(U:CV u)
  (J:∀k G Z vG A c,SplR O P C u k G Z c->FG vG G->hK A Z->K (.tup [.agg [.int .i64 k,vG,A],.int .i64 c]) σ):zA Tp 31 [.agg [vO,vP,vC],vU] σ K:=
 zA.notop (p:=λv _=>∃k G Z vG A c,v=.tup [.agg [.int .i64 k,vG,A],.int .i64 c]/\SplR O P C u k G Z c/\FG vG G/\hK A Z)
  (λK' S=>zHJ sz H I U λk G Z vG A c t E h2 D R=>S _ t ⟨⟨Is,h2.bel _,D.bel _,Is⟩,Is,Is⟩ ⟨k,G,Z,vG,A,c,rfl,E,h2,D⟩ R)
  λv t ⟨k,G,Z,vG,A,c,e,E,h2,D⟩=>by rw[e];exact J k G Z vG A c E h2 D
end
section
variable{M L Z:V2}{C2:V3}{G:List sg}
def PvW(σ:dj)(K:PV->dj->Prop):Prop:=∀k G L vG vL c,CM G L->FG vG G->hK vL L->K (.tup [.agg [.int .i64 k,vG,vL],.int .i64 c]) σ
def CM.one(sz:ti O P C)(A:(Tw Z)<=900)(h2:∀x∈Z,(Tw x)<=1000):CM [(O,P,C)] Z:=⟨bj,λg D=>by rw[YW.1 D];exact sz,A,h2⟩
def zKt{p q:sg}(E:ti p.1 p.2.1 p.2.2)(H:ti q.1 q.2.1 q.2.2):∀{l:List sg} {k c:Int} {G:List sg},(∀r∈l,ti r.1 r.2.1 r.2.2)->Db p q l=(k,G,c)->CM G []
 |[],k,c,G,_,e=>by rw[Db]at e;cases e;exact CM.nil
 |r::l,k,c,G,hl,e=>by
  rw[Db]at e;split at e
  .cases e;exact CM.nil
  .split at e
   .exact zKt E H (λx A=>hl x (Yc _ A)) e
   .cases e;refine⟨sB 3,λg D=>?_,Tx,λx A=>by cases A⟩;simp only[Yq,Ya,or_false]at D;rcases D with rfl|rfl|rfl
    .exact E
    .exact H
    .exact hl _ (Yp ..)
def zD1(sz:ti O P C)(E:eQ vO vP vC O P C)(H:PvW σ K):zA Tp 25 [.agg [vO,vP,vC]] σ K:=by
 refine zD2 sz E λk G L vG vL c h A D=>H k G L vG vL c ?_ A D;rcases h with ⟨_,⟨_,rfl,rfl⟩,_⟩|⟨_,_,⟨_,rfl,rfl⟩,_⟩|⟨_,_,_,⟨_,rfl,rfl⟩,_⟩|⟨I,S,_,⟨_,rfl,rfl⟩,_⟩
 .exact CM.nil
 .exact CM.nil
 .exact CM.nil
 .have s:=I.shp;have R:=s.le;refine CM.one sz (by simp[FY];omega) λx J=>?_;obtain⟨i,_,rfl⟩:=YD.1 J
  have:=(ZN s).1
  simp[zBp];omega
def zCf(sz:ti O P C)(J:eQ vO vP vC O P C)(I:hK vL L)(W:(Tw L)<=6)(D:∀y∈L,(Tw y)<=6)(S:FI vX x)(V:(Tw x)<=6)(R:PvW σ K):zA Tp 26 [.agg [vO,vP,vC],vL,vX] σ K:=by
 refine zHK sz J I ⟨aH,λy A=>by have:=D y A;omega⟩ S aH λk G Z vG U c h E H=>R k G Z vG U c ?_ E H;rcases h with ⟨_,⟨_,rfl,rfl⟩,_⟩|⟨_,_,⟨_,rfl,rfl⟩,_⟩|⟨_,m,w,_,_,⟨_,⟨_,rfl,rfl⟩,_⟩|⟨X,⟨_,rfl,rfl⟩,_⟩⟩
 .exact CM.nil
 .exact CM.nil
 .exact CM.nil
 .refine CM.one sz (by rw[cO];simp;omega) λy A=>?_;rcases YZ.1 A with h|h
  .simp only[Yq,Ya,or_false]at h;rcases h with rfl|rfl<;>omega
  .have:=D y h;omega
def zGP(sz:ti O P C)(R:eQ vO vP vC O P C)(J:hK vL L)(Y:(Tw L)<=6)(D:∀y∈L,(Tw y)<=6)(V:FI vX x)(X:(Tw x)<=6)(S:PvW σ K):zA Tp 27 [.agg [vO,vP,vC],vL,vX] σ K:=by
 refine zGQ sz R J ⟨aH,λy A=>by have:=D y A;omega⟩ V aH λk G Z vG W c h H I=>S k G Z vG W c ?_ H I;rcases h with ⟨_,⟨_,rfl,rfl⟩,_⟩|⟨_,_,⟨_,rfl,rfl⟩,_⟩|⟨U,_,⟨_,rfl,u,E,rfl⟩,_⟩
 .exact CM.nil
 .exact CM.nil
 .have bB:=U.lg.s.le;have iu:=E.len;refine CM.one sz (by simp only[cO,YF,Ov];omega) λy A=>?_;rcases YZ.1 A with h|h
  .simp only[Yq,Ya,or_false]at h;rcases h with rfl|rfl
   .omega
   .simp
  .rcases YZ.1 h with h|h
   .have:=D y h;omega
   .have:=(E.one y h).1.len;omega
def zEy(sz:ti O P C)(I:eQ vO vP vC O P C)(A:ti O2 P2 C2)(D:eQ uO uP uC O2 P2 C2)(J:PvW σ K):zA Tp 30 [.agg [vO,vP,vC],.agg [uO,uP,uC]] σ K:=by
 refine zEz sz I A D λk G vG vL c h E H=>J k G [] vG vL c ?_ E H;rcases h with ⟨_,_,rfl,_⟩|⟨_,_,e⟩
 .exact CM.nil
 .exact zKt (p:=(O,P,C)) (q:=(O2,P2,C2)) sz A (λr R=>by
   obtain⟨t,S,rfl⟩:=YD.1 R;exact zI.sz (zHW S).2.2.1) e
def zJK(sz:ti O P C)(R:eQ vO vP vC O P C)(S:hK vU u)(hl:(Tw u)<=6)(E:∀y∈u,(Tw y)<=6)(V:PvW σ K):zA Tp 31 [.agg [vO,vP,vC],vU] σ K:=by
 refine zJL sz R S ⟨aH,λy D=>by have:=E y D;omega⟩ λk G Z vG W c h H I=>V k G Z vG W c ?_ H I;obtain⟨Y,cc,U,h⟩:=h;rcases h with ⟨_,⟨_,rfl,rfl⟩,_⟩|⟨_,_,⟨_,rfl,rfl⟩,_⟩|⟨_,w,X,rfl,⟨_,rfl,rfl⟩,_⟩
 .exact CM.nil
 .exact CM.nil
 .have A:∃_:LG O P C,zh O P C w:=by
   rcases U with ⟨_,e,_⟩|⟨g,_,⟨_,e,_⟩|⟨_,_,e,_⟩|⟨_,_,⟨M,J,e⟩,_⟩⟩
   .cases e
   .cases e
   .cases e
   .have:w∈M:=(ND.1 (e ▸ Yp ..)).1
    exact⟨g,J.sub g w this⟩
  obtain⟨g,A⟩:=A;have bB:=g.s.le;have mi:=A.len;refine CM.one sz (by simp only[cO,YF,Ov];omega) λy D=>?_;rcases YZ.1 D with h|h
  .rw[YW.1 h];simp
  .rcases YZ.1 h with h|h
   .have:=E y h;omega
   .have:=(A.1 y h).len;omega
end
end Go.Proofs
namespace Go.Ab
section
variable{P:Program}
def zBh{a b:IC}{Q:Exit->gr->dj->Prop}{e:gr}{h:dj}(J:gr->dj->Prop)(D:vp P a (λx e' h'=>x=.normal/\J e' h') e h)(E:∀e' h',J e' h'->vp P b Q e' h'):vp P (.seq a b) Q e h:=by
 show vp P a _ e h;refine QD a (λx e' h' A=>?_) D;obtain⟨rfl,A⟩:=A;exact E e' h' A
def vp_js{a b c:IC}{Q:Exit->gr->dj->Prop}{e:gr}{h:dj}{J:gr->dj->Prop}(H:∀e h,vp P b (λx e' h'=>x=.normal/\J e' h') e h->vp P c Q e h)(A:vp P (.seq a b) (λx e' h'=>x=.normal/\J e' h') e h):vp P (.seq a c) Q e h:=
 QD a (λx e h k=>by cases x<;>first|exact H _ _ k|exact absurd k.1 bj) A
def zOe{a1 a2 a3 A D b:IC}{Q:Exit->gr->dj->Prop}{e:gr}{h:dj}(J:gr->dj->Prop)(E:vp P (.seq a1 (.seq a2 (.seq a3 (.seq A D)))) (λx e' h'=>x=.normal/\J e' h') e h)(H:∀e' h',J e' h'->vp P b Q e' h'):
  vp P (.seq a1 (.seq a2 (.seq a3 (.seq A (.seq D b))))) Q e h:=
 vp_js (λ_ _=>vp_js λ_ _=>vp_js λ_ _=>vp_js λ_ _ h=>zBh J h H) E
end
end Go.Ab
namespace Go.Proofs
open Go.Ab Go.Lie Go.Grp
variable{k0:Int}{b k n r s0 tc tp:Nat}{h σ:dj}{v vC vG vL vO vP vS:PV}{K:PV->dj->Prop}{O bs:V1}{Ls P:V2}{C:V3}
abbrev tD:List PV:=[.int .i64 0,Tt,Tt]
structure SmJ(σ:dj)(s0:Nat)(vS:PV)(bs:V1)(h:dj)(r tp tc:Nat)(vO vP vC:PV):Prop where
 km:KM σ s0 h
 so:So h s0 vS bs
 r0:h.cd r=Ik tD
 p0:h.cd tp=Ik [vO,vP,vC]
 n1:σ.bY<=r
 n2:r<tp
 n3:tp<tc
 n4:tc<h.bY
def SmJ.ns(a:SmJ σ s0 vS bs h r tp tc vO vP vC)(hs:s0<σ.bY):s0≠r/\s0≠tp/\s0≠tc:=by
 have:=a.n1;have:=a.n2;have:=a.n3;omega
def SmJ.mv{h':dj}(a:SmJ σ s0 vS bs h r tp tc vO vP vC)(hs:s0<σ.bY)(m:Mv h s0 h')(E:So h' s0 vS bs):SmJ σ s0 vS bs h' r tp tc vO vP vC:=by
 obtain⟨A,D,H⟩:=a.ns hs;exact⟨a.km.mv hs m,E,by rw[m.cd (Ne.symm A)];exact a.r0,by rw[m.cd (Ne.symm D)];exact a.p0,a.n1,a.n2,a.n3,by rw[m.bY];exact a.n4⟩
def SmJ.set(a:SmJ σ s0 vS bs h r tp tc vO vP vC)(hs:s0<σ.bY)(cs:List PV):SmJ σ s0 vS bs (h.set tc cs) r tp tc vO vP vC:=by
 have q:=a.n1;have A:=a.n2;have D:=a.n3;exact⟨a.km.set aH _,a.so.set aH _,by rw[zG,Iv aH];exact a.r0,by rw[zG,Iv aH];exact a.p0,a.n1,a.n2,a.n3,a.n4⟩
def SmJ.rp(a:SmJ σ s0 vS bs h r tp tc vO vP vC):h.rd tp 0 3=Ik [vO,vP,vC]:=by rw[zN a.p0];rfl
def CtS(h:dj)(tc:Nat):Prop:=∃k G L vG vL,h.cd tc=Ik [.int .i64 k,vG,vL]/\CM G L/\FG vG G/\hK vL L
def CtS.put{k:Int}{G:List sg}{L:V2}{vG vL:PV}(H:CM G L)(A:FG vG G)(D:hK vL L){cs:List PV}(I:h.cd tc=Ik cs)(E:(Tw cs)=3):h.wr tc 0 [.int .i64 k,vG,vL]=Ik (h.set tc [.int .i64 k,vG,vL])/\CtS (h.set tc [.int .i64 k,vG,vL]) tc:=by
 refine⟨?_,k,G,L,vG,vL,by rw[zG,Iu rfl],H,A,D⟩;rw[zL I,Iu ⟨by simp[E],by simp[A.one,D.one];rfl⟩];congr 2;simp[E]
set_option maxHeartbeats 1600000 in
def zLn(so:So σ s0 vS bs)(hk:∀k G L vG vL σ',CM G L->FG vG G->hK vL L->Mv σ s0 σ'->So σ' s0 vS bs->K (.agg [.int .i64 k,vG,vL]) σ'):zA Tp 13 [.ptr s0 0] σ K:=by
 have bD:=so.lt;refine zA.gh ?_;refine ZY mix Tryz.func13 ?_;refine zOe (λe h=>∃(tp tc:Nat) (vO vP vC vg:PV) (O:V1) (P:V2) (C:V3) (L:V2),eQ vO vP vC O P C/\zI O P C/\hK vg L/\Tw L<=4/\(∀y∈L,gS O y)/\SmJ σ s0 vS bs h σ.bY tp tc vO vP vC/\h.cd tc=Ik tD/\e 0=.ptr s0 0/\e 2=.ptr σ.bY 0/\e 3=.ptr tp 0/\e 4=vg/\e 6=.ptr tc 0/\e 7=.int .i64 4) ?_ ?_
 .refine Tq ?_;generalize hH:σ.cb [.int .i64 0,Tt,Tt]=H;have eG:H.bY=σ.bY+1:=by rw[<-hH];rfl
  have dP:s0<H.bY:=aH
  have bK:H.cd σ.bY=Ik tD:=by rw[<-hH];simp only[Z3,seval,-ae]
  have kK:KM σ s0 H:=by rw[<-hH];exact so.kmK (zB _ _)
  have jG:So H s0 vS bs:=by rw[<-hH];exact so.c7 (zB _ _)
  clear hH;refine Tq ?_;refine zBZ jG λvO vP vC O P C g1 V hp m1 fC=>?_;have s:=hp.shp;have bB:=s.le;have Y:=V.O.one;have o2:=V.P.one;have o3:=V.C.one;have AQ:=m1.bY;have iR:=jG.km.mv dP m1;simp only[Z3,seval,-ae,Y,o2,o3];have mL:(g1.cb [vO,vP,vC]).cd g1.bY=Ik [vO,vP,vC]:=by rw[zC,Iu rfl]
  have xV:KM H s0 (g1.cb [vO,vP,vC]):=iR.cb _;have xu:So (g1.cb [vO,vP,vC]) s0 vS bs:=fC.c7 (zB _ _);have A3:(g1.cb [vO,vP,vC]).bY=H.bY+1:=by show g1.bY+1=_;omega
  rw[AQ]at mL ⊢;generalize g1.cb [vO,vP,vC]=T at *
  have pz:s0<T.bY:=aH
  have H5:H.bY+1=T.bY:=A3.symm;rw[H5];have rT:∀{g:dj},KM T s0 g->g.rd H.bY 0 3=Ik [vO,vP,vC]:=λ{g} km=>by rw[zN (by rw[km.cd aH aH];exact mL)];rfl
  have I:∃I:Nat->List PV->dj->Prop,I=λm vs h=>∃(x:Nat) (v:PV) (rows:List PV) (L:V2),m=x/\vs=[.ptr s0 0,.ptr σ.bY 0,.ptr H.bY 0,v,.int .i64 x]/\Tw L+x<=4/\(∀y∈L,gS O y)/\ez FI rows L/\KM T s0 h/\So h s0 vS bs/\(x=0/\hK v L\/x≠0/\ft T.bY 1 h v (Tw L) rows):=⟨_,rfl⟩
  obtain⟨I,hI⟩:=I;have enter:∀{g:dj} {x:Nat} {v:PV} {rows:List PV} {L:V2},(Tw L)+x<=4->(∀y∈L,gS O y)->ez FI rows L->KM T s0 g->So g s0 vS bs->ft T.bY 1 g v (Tw L) rows->GL (I x) [.ptr s0 0,.ptr σ.bY 0,.ptr H.bY 0,v,.int .i64 x] g:=λ{g x v rows L} h1 h2 h3 h4 h5 h6=>by
   by_cases hx:x=0
   .subst hx;obtain⟨s,cap,rfl,q1,q2,q3,q4,q5⟩:=h6;refine .fz s rows q2 (h3.bI 0) λo=>.here ?_;rw[hI];refine⟨0,.fz Im (.sl o 0 (Tw L) cap) (Tw L) rows,rows,L,rfl,?_,h1,h2,h3,h4.kill q4,h5.kill aH,.inl ⟨rfl,⟨Im,_,rows,rfl,h3⟩⟩⟩;simp only[nD,sb,q1.ok,and_self,if_true]
   .refine .here ?_;grind
  have FK:=xu.km.cb [];have ES:=xu.c7 (zB T []);have Fi:ft T.bY 1 (T.cb []) (.sl T.bY 0 0 (.cm 0)) 0 []:=ft.own (n:=0) (.inr rfl) (by rw[zC,Iu rfl]) rfl (sB _) (YB _);refine zQ (n:=3) ES Tx λc g X m2 ca=>?_;have de:=FK.mv pz m2;have xA:=ft.mv' Fi pz m2;have c0:=X.1;have c4:=X.lt Tx;obtain⟨d,rfl⟩:∃d:Nat,c=(d:Int):=⟨c.toNat,aH⟩
  refine Tq ?_;refine qF I d (by exact enter (L:=[]) (by simp;omega) (λy hy=>by cases hy) (ez.nil _) de ca xA) ?_;intro m vs g xm;rw[hI]at xm;obtain⟨x,v,rows,L,rfl,rfl,du,jk,ai,km,nL,hv⟩:=xm;rcases hv with ⟨cQ,hL⟩|⟨cQ,pa⟩;rotate_left
  .have p1:=pa.one;have aM:(0:Int)<((m:Nat):Int):=aH
   have wx:Tu .i64 ((m:Int)-1)=((m-1:Nat):Int):=WQ
   simp only[Z3,seval,-ae,aM,p1,rT km];refine Qo nL V s λvy y g3 jB u5 m7 sH=>?_;have uZ:=km.mv pz m7;have Fj:=ft.mv' pa pz m7;have y1:=jB.one;have y2:vy.cells=[vy]:=by obtain⟨w5,a5,rfl⟩:=jB;rfl
   simp only[Z3,seval,-ae,p1,y1,y2];refine ft.pushR Fj aH uZ sH pz λv2 h2 FM Bm Bu=>?_;have p2:=Bu.one;simp only[Z3,seval,-ae,p2,wx];have mC:(L++[y]).length=Tw L+1:=bj
   refine⟨m-1,aH,enter (L:=L++[y]) aH (λz hz=>?_) (ai.snoc jB) FM Bm (by rw[mC];exact Bu)⟩;grind
  subst cQ;have l1:=hL.one;have eY:¬((0:Int)<((0:Nat):Int)):=by decide
  have gn:=km.bY;simp only[Z3,seval,-ae,l1,eY];have M8:=kK.trans bD (xV.trans dP km);refine⟨H.bY,g.bY,vO,vP,vC,v,O,P,C,L,V,hp,hL,aH,jk,⟨M8.cb _,nL.c7 (zB _ _),?_,?_,sB _,aH,aH,YB _⟩,?_,?_⟩
  .rw[zC,Iv aH,km.cd aH aH,xV.cd aH aH];exact bK
  .rw[zC,Iv aH,km.cd aH aH];exact mL
  .exact Iu rfl
  .repeat' apply se
   all_goals rfl
 rintro e h ⟨tp,tc,vO,vP,vC,vg,O,P,C,L,V,hp,hL,NS,Ie,sj,oc,E0,A,E,W,D,J⟩
 have s:=hp.shp;have bB:=s.le;have sz:=hp.sz;have lI:∀o∈O,pR o:=zI.isp hp;have Y:=V.O.one;have o2:=V.P.one;have o3:=V.C.one;have L1:=hL.one;have td:∀{y:V1},gS O y->(Tw y)<=6:=λh=>by have:=h.len;omega
 have xJ:=(sj.ns bD).2.2
 -- a xn is stored
 have put:∀{g:dj} {cs:List PV} {k:Int} {G:List sg} {L:V2} {vG vL:PV},SmJ σ s0 vS bs g σ.bY tp tc vO vP vC->g.cd tc=Ik cs->(Tw cs)=3->CM G L->FG vG G->hK vL L->
   g.wr tc 0 [.int .i64 k,vG,vL]=Ik (g.set tc [.int .i64 k,vG,vL])/\CtS (g.set tc [.int .i64 k,vG,vL]) tc/\SmJ σ s0 vS bs (g.set tc [.int .i64 k,vG,vL]) σ.bY tp tc vO vP vC:=λ{g cs k G L vG vL} j ho hl X hG hL=>by
  obtain⟨q1,q2⟩:=CtS.put (k:=k) X hG hL ho hl;exact⟨q1,q2,j.set bD _⟩
 have r3:=sj.rp;refine zBh (λe h=>∃c:Int,SmJ σ s0 vS bs h σ.bY tp tc vO vP vC/\CtS h tc/\e 0=.ptr s0 0/\e 2=.ptr σ.bY 0/\e 3=.ptr tp 0/\e 6=.ptr tc 0/\e 7=.int .i64 c) ?_ ?_
 .simp only[Z3,seval,-ae,E0,A,E,W,D,J];refine zQ (n:=6) sj.so Tx λy g hy m2 ca=>?_;have xv:=sj.mv bD m2 ca;have Ay:g.cd tc=Ik tD:=by rw[m2.cd (Ne.symm xJ)];exact oc
  have y0:=hy.1;have y6:=hy.lt Tx;have AG:y=0\/y=1\/y=2\/y=3\/y=4\/y=5:=aH
  have r2:=xv.rp;rcases AG with rfl|rfl|rfl|rfl|rfl|rfl
  .simp only[Z3,seval,-ae,E0,A,E,W,D,J,r2,Y,o2,o3,L1];refine zD1 sz V λk G Z vG vZ c X S U=>?_;obtain⟨w,ct,R⟩:=put (k:=k) xv Ay rfl X S U;simp only[Z3,seval,-ae,E0,A,E,W,D,J,S.one,U.one,w];exact⟨c,R,ct,rfl⟩
  .simp only[Z3,seval,-ae,E0,A,E,W,D,J,r2,Y,o2,o3,L1];refine Qo ca V s λvx x g2 fx xS m3 cX=>?_;have R:=xv.mv bD m3 cX;have oG:g2.cd tc=Ik tD:=by rw[m3.cd (Ne.symm xJ)];exact Ay
   simp only[Z3,seval,-ae,E0,A,E,W,D,J,R.rp,Y,o2,o3,L1,fx.one];refine zCf sz V hL aH (λy hy=>td (Ie y hy)) fx (td xS) λk G Z vG vZ c X S U=>?_;obtain⟨w,ct,ot⟩:=put (k:=k) R oG rfl X S U;simp only[Z3,seval,-ae,E0,A,E,W,D,J,R.rp,S.one,U.one,w];exact⟨c,ot,ct,rfl⟩
  .simp only[Z3,seval,-ae,E0,A,E,W,D,J,r2,Y,o2,o3,L1];refine Qo ca V s λvx x g2 fx xS m3 cX=>?_;have R:=xv.mv bD m3 cX;have oG:g2.cd tc=Ik tD:=by rw[m3.cd (Ne.symm xJ)];exact Ay
   simp only[Z3,seval,-ae,E0,A,E,W,D,J,R.rp,Y,o2,o3,L1,fx.one];refine zGP sz V hL aH (λy hy=>td (Ie y hy)) fx (td xS) λk G Z vG vZ c X S U=>?_;obtain⟨w,ct,ot⟩:=put (k:=k) R oG rfl X S U;simp only[Z3,seval,-ae,E0,A,E,W,D,J,R.rp,S.one,U.one,w];exact⟨c,ot,ct,rfl⟩
  .simp only[Z3,seval,-ae,E0,A,E,W,D,J,r2,Y,o2,o3,L1];refine zLr ca V s λwO wP wC P' C' g2 bH hq m3 cX=>?_;have R:=xv.mv bD m3 cX;have oG:g2.cd tc=Ik tD:=by rw[m3.cd (Ne.symm xJ)];exact Ay
   have sm:SmP O P' C':=hq.sm aH aH (λa ha=>by
    obtain⟨i,hi,rfl⟩:=YE.1 ha
    have:=s.pr i hi
    rw[gj hi]at this;omega) aH aH λi _=>by omega
   simp only[Z3,seval,-ae,E0,A,E,W,D,J,R.rp,Y,o2,o3,L1,bH.O.one,bH.P.one,bH.C.one];refine zDX sz V sm.sz bH λk G Z vG vZ c X S U=>?_;obtain⟨w,ct,ot⟩:=put (k:=k) R oG rfl X S U;simp only[Z3,seval,-ae,E0,A,E,W,D,J,R.rp,S.one,U.one,w];exact⟨c,ot,ct,rfl⟩
  .simp only[Z3,seval,-ae,E0,A,E,W,D,J,r2,Y,o2,o3,L1];refine zBZ ca λwO wP wC O' P' C' g2 bH mq m3 cX=>?_;have R:=xv.mv bD m3 cX;have oG:g2.cd tc=Ik tD:=by rw[m3.cd (Ne.symm xJ)];exact Ay
   simp only[Z3,seval,-ae,E0,A,E,W,D,J,R.rp,Y,o2,o3,L1,bH.O.one,bH.P.one,bH.C.one];refine zEy sz V mq.sz bH λk G Z vG vZ c X S U=>?_;obtain⟨w,ct,ot⟩:=put (k:=k) R oG rfl X S U;simp only[Z3,seval,-ae,E0,A,E,W,D,J,R.rp,S.one,U.one,w];exact⟨c,ot,ct,rfl⟩
  .simp only[Z3,seval,-ae,E0,A,E,W,D,J,r2,Y,o2,o3,L1];refine zL1 ca V s lI λvu u g2 fu hu m3 cX=>?_;have R:=xv.mv bD m3 cX;have oG:g2.cd tc=Ik tD:=by rw[m3.cd (Ne.symm xJ)];exact Ay
   simp only[Z3,seval,-ae,E0,A,E,W,D,J,R.rp,Y,o2,o3,L1,fu.one];refine zBW V bB λvW fW=>?_;have WS:∀y∈qj O,gS O y:=λy hy=>by
    obtain⟨i,hi,rfl⟩:=YD.1 hy;exact s.unit (Yd.1 hi) (YQ _)
   simp only[Z3,seval,-ae,E0,A,E,W,D,J,R.rp,Y,o2,o3,L1,fu.one,fW.one];refine zJx s lI V fu hu fW WS (by simp[qj];omega) λvT T fT hT=>?_;have SO:=hT.le;simp only[Z3,seval,-ae,E0,A,E,W,D,J,R.rp,Y,o2,o3,L1,fT.one];refine zJK sz V fT aH (λy hy=>td (hT.mem y hy).1) λk G Z vG vZ c X S U=>?_;obtain⟨w,ct,ot⟩:=put (k:=k) R oG rfl X S U;simp only[Z3,seval,-ae,E0,A,E,W,D,J,R.rp,S.one,U.one,w];exact⟨c,ot,ct,rfl⟩
 clear sj oc E0 A E W D J r3 hL L1 NS Ie e h
 rintro e h ⟨c,sj,ct,E0,A,E,D,J⟩
 refine zBh (λe h=>SmJ σ s0 vS bs h σ.bY tp tc vO vP vC/\CtS h tc/\e 2=.ptr σ.bY 0/\e 6=.ptr tc 0) ?_ ?_
 .by_cases c0:c=0
  .simp only[Z3,seval,-ae,E0,A,E,D,J,c0];exact⟨sj,ct⟩
  simp only[Z3,seval,-ae,E0,A,E,D,J,c0,sj.rp,Y,o2,o3];refine zBW V bB λvW fW=>?_;have WS:∀y∈qj O,gS O y:=λy hy=>by
   obtain⟨i,hi,rfl⟩:=YD.1 hy;exact s.unit (Yd.1 hi) (YQ _)
  simp only[Z3,seval,-ae,E0,A,E,D,J,sj.rp,Y,o2,o3,fW.one];refine Qo sj.so V s λvx x g2 fx xS m3 cX=>?_;have R:=sj.mv bD m3 cX;obtain⟨k0,G0,Z0,LO,LM,bK,_⟩:=ct;have oG:g2.cd tc=Ik [.int .i64 k0,LO,LM]:=by rw[m3.cd (Ne.symm xJ)];exact bK
  simp only[Z3,seval,-ae,E0,A,E,D,J,R.rp,Y,o2,o3,fW.one,fx.one];refine zCf sz V fW (by simp[qj];omega) (λy hy=>td (WS y hy)) fx (td xS) λk G Z vG vZ c X S U=>?_;obtain⟨w,ct,ot⟩:=put (k:=k) R oG rfl X S U;simp only[Z3,seval,-ae,E0,A,E,D,J,R.rp,S.one,U.one,w];exact⟨ot,ct⟩
 clear sj ct E0 A E D J e h
 rintro e h ⟨sj,⟨k,G,Z,vG,vZ,ob,X,S,U⟩,A,D⟩
 have rc:h.rd tc 0 3=Ik [.int .i64 k,vG,vZ]:=by rw[zN ob];rfl
 have w:h.wr σ.bY 0 [.int .i64 k,vG,vZ]=Ik (h.set σ.bY [.int .i64 k,vG,vZ]):=by rw[zL sj.r0,Iu ⟨bj,by simp[S.one,U.one];rfl⟩];rfl
 have rr:(h.set σ.bY [.int .i64 k,vG,vZ]).rd σ.bY 0 3=Ik [.int .i64 k,vG,vZ]:=by rw[zZ,Iu rfl];rfl
 simp only[Z3,seval,-ae,A,D,rc,S.one,U.one,w,rr];exact Gh.km (sj.km.set (sB _) _) (sj.so.set (sj.ns bD).1 _) bD λσ' m' jH kp=>Gh.fin0 kp ⟨Is,S.bel _,U.bel _,Is⟩ (hk k G Z vG vZ σ' X S U m' jH)
section
variable{g:dj}{L:Nat->Nat}{G:List sg}
structure CtV(G:List sg)(L:V2):Prop where
 g:(Tw G)<=3
 gs:∀g∈G,ti g.1 g.2.1 g.2.2
 l:(Tw L)<=1000
 r:∀x∈L,(Tw x)<=1000
def CM.big(h:CM G Ls):CtV G Ls:=⟨h.g,h.gs,by have:=h.l;omega,h.r⟩
def CtK(σ:dj)(K:PV->dj->Prop)(s0:Nat)(vS:PV)(bs:V1):Prop:=∀k G L vG vL σ',CtV G L->FG vG G->hK vL L->Mv σ s0 σ'->So σ' s0 vS bs->K (.agg [.int .i64 k,vG,vL]) σ'
def LsT(h:dj)(b:Nat)(v:PV):Prop:=∃(t:TR) (M:V2),t.okF h b/\t.pv=v/\(∀A,hK (t.fz A) M)/\Tw M<=1000/\∀x∈M,(Tw x)<=1000
def gD.lst(a:gD L h b (λm=>m<=1000) k n v)(I:n<=1000):LsT h b v:=by
 obtain⟨t,M,⟨E,h2,A⟩,H⟩:=a.tree;exact⟨t,M,ql E,h2,λD=>(A D).1,aH,(A λ_=>0).2⟩
def gD.cut1(a:gD L h b (λm=>m<=1000) k n v)(hn:0<n/\n<=1000):∃s cap E,v=.sl s 0 n cap/\Ql 1 v (Ik (.int .i64 1)) none none=Ik E/\E.one=Im/\E.cells=[E]/\LsT h b E:=by
 obtain⟨s,cap,cs,rfl,h1,h2,h3,X,Y,h6,h7⟩:=a;obtain⟨ts,xs,W,H,I⟩:=trees (R:=RowQ (λm=>m<=1000)) (cs:=cs) (h:=h) (b:=b) λc J=>by
  obtain⟨x,q,a⟩:=h7 c J;obtain⟨t,k1,k2,k3⟩:=a.tree;exact⟨t,x,k1,k2,λA=>⟨k3 A,q⟩⟩
 have e1:(Tw ts)=n:=by rw[<-h3,<-H,Zf]
 have e2:(Tw xs)=n:=by
  have:=(I λ_=>0).1
  rw[TR.fzs_length]at this;omega
 have key:∀D:nK,(∀c,D=.cm c->n-1<=c)->LsT h b (.sl s 1 (n-1) D):=λD J=>by
  obtain⟨q1,q2⟩:=zJI (I λ_=>0);refine⟨.cut s 1 (n-1) D ts,xs.drop 1,⟨⟨J,by rw[H];exact h2,X,Y,aH⟩,zAg W⟩,rfl,λA=>?_,by rw[Ys];omega,λx S=>q2 x (Jx S)⟩;obtain⟨q1,_⟩:=zJI (I A);refine⟨false,.sl (A s) 1 (n-1) D,((TR.fzs A ts).drop 1).take (n-1),by simp only[TR.fz,Ys,e2],?_⟩
  have:=(q1.drop 1).take (n-1)
  rwa[YU (l:=xs.drop 1) (by rw[Ys];omega)]at this
 have hz:(1:Int)<=(n:Int):=aH
 have V:1<=n:=aH
 rcases h1 with rfl|rfl
 .refine⟨s,_,.sl s 1 (n-1) (.grown 1),rfl,?_,rfl,rfl,key _ λc e=>by cases e⟩;simp only[Z3,seval,-ae,hz,V]
 .by_cases U:n=1
  .subst U;refine⟨s,_,.sl s 0 0 (.cm 0),rfl,rfl,rfl,rfl,.cut s 0 0 (.cm 0) ts,[],⟨⟨λc e=>YQ _,by rw[H];exact h2,X,Y,aH⟩,zAg W⟩,rfl,λA=>⟨false,.sl (A s) 0 0 (.cm 0),[],by simp only[TR.fz,UO,Ov],ez.nil _⟩,Tx,λx S=>by cases S⟩
  .refine⟨s,_,.sl s 1 (n-1) (.cm (n-1)),rfl,?_,rfl,rfl,key _ λc e=>by cases e;exact sB _⟩;simp only[Z3,seval,-ae,hz,V,U];rfl
def zPs(kk:CtK σ K s0 vS bs)(km:KM σ s0 g)(so:So g s0 vS bs)(H:s0<σ.bY)(X:σ.bY<=b)(A:FG vG G)(Y:(Tw G)<=3)(yU:∀g∈G,ti g.1 g.2.1 g.2.2)(W:LsT g b vL):Gh σ K (.agg [.int .i64 k0,vG,vL]) g:=by
 obtain⟨t,M,R,rfl,S,U,V⟩:=W;refine Gh.km km so H λσ' D I kp=>?_;have J:(TR.agg [.leaf (.int .i64 k0),.leaf vG,t]).pv=.agg [.int .i64 k0,vG,t.pv]:=by simp only[TR.pv,TR.pvs]
 rw[<-J];refine Gh.treeF kp ⟨Is,A.bel _,QL (by rw[D.bY];exact X) R,Is⟩ λE=>?_;simp only[TR.fz,TR.fzs];exact kk k0 G M vG _ σ' ⟨Y,yU,U,V⟩ A (S E) D I
def zOI{rows:List (PV×PV×PV)}{cap:nK}(kk:CtK σ K s0 vS bs)(km:KM σ s0 g)(so:So g s0 vS bs)(I:s0<σ.bY)(hb:σ.bY<=b)(s9:g.cd tp=Ik (re rows))(D4:b<=tp)(J:full 3 cap (Tw G))(D:ez FI3 rows G)(hg:(Tw G)<=3)(yU:∀g∈G,ti g.1 g.2.1 g.2.2)
  (Y:∀T,LsT ((g.kill tp).up T) b vL) (E:∀o cs,sb tp o cs vL=vL):Gh σ K (.agg [.int .i64 k0,.sl tp 0 (Tw G) cap,vL]) g:=by
 refine Gh.km km so I λσ' A R kp=>?_;refine Gh.freeze (s:=tp) (cs:=re rows) s9 (by rw[A.bY];omega) (zBy D) λo _ _ _=>?_;simp only[sb,nD,E,J.ok,and_self,if_true];obtain⟨t,M,U,rfl,V,W,X⟩:=Y (max g.top (o+1));have S:(TR.agg [.leaf (.int .i64 k0),.leaf (.fz Im (.sl o 0 (Tw G) cap) (Tw G) (re rows)),t]).pv=.agg [.int .i64 k0,.fz Im (.sl o 0 (Tw G) cap) (Tw G) (re rows),t.pv]:=by simp only[TR.pv,TR.pvs]
 rw[<-S];refine Gh.treeF ((kp.kill (by rw[A.bY];omega)).up (by simp only[dj.kill];omega)) ⟨Is,Is,QL (by rw[A.bY];exact hb) U,Is⟩ λH=>?_;simp only[TR.fz,TR.fzs];exact kk k0 G M _ _ σ' ⟨hg,yU,W,X⟩ ⟨Im,_,rows,rfl,D⟩ (V H) A R
end
end Go.Proofs
namespace Go.Ab
section
variable{P:Program}
def zOf{a1 a2 a3 b:IC}{Q:Exit->gr->dj->Prop}{e:gr}{h:dj}(J:gr->dj->Prop)(A:vp P (.seq a1 (.seq a2 a3)) (λx e' h'=>x=.normal/\J e' h') e h)(D:∀e' h',J e' h'->vp P b Q e' h'):
  vp P (.seq a1 (.seq a2 (.seq a3 b))) Q e h:=vp_js (λ_ _=>vp_js λ_ _ h=>zBh J h D) A
end
end Go.Ab
namespace Go.Proofs
open Go.Ab
variable{k0:Int}{b k n r s0 t tp:Nat}{h h' σ:dj}{a1 a2 a3 v vG vL vS x:PV}{K:PV->dj->Prop}{O bs:V1}{Ls P:V2}{C:V3}
section
open Go.Ab Go.Lie Go.Grp
variable{g:dj}{L L':Nat->Nat}{Q:Nat->Prop}{G:List sg}
mutual
def zHY(A:h.bY<=h'.bY)(D:∀t,b<=t->t<h.bY->h'.cd t=h.cd t):∀{t:TR},t.okF h b->t.okF h' b
 | .leaf v,a=>a
 | .nil,_=>trivial
 | .lst s cap kids,a=>⟨⟨a.1.1,by rw[D s a.1.2.2.1 a.1.2.2.2];exact a.1.2.1,a.1.2.2.1,YO a.1.2.2.2 A⟩,zAA A D a.2⟩
 | .cut s off l cap kids,a=>⟨⟨a.1.1,by rw[D s a.1.2.2.1 a.1.2.2.2.1];exact a.1.2.1,a.1.2.2.1,YO a.1.2.2.2.1 A,a.1.2.2.2.2⟩,zAA A D a.2⟩
 | .agg kids,a=>zAA (ts:=kids) A D a
 | .tup kids,a=>zAA (ts:=kids) A D a
def zAA(A:h.bY<=h'.bY)(D:∀t,b<=t->t<h.bY->h'.cd t=h.cd t):∀{ts:List TR},TR.okFs h b ts->TR.okFs h' b ts
 |[],_=>trivial
 |t::ts,a=>⟨zHY A D a.1,zAA A D a.2⟩
end
def LsT.c7(a:LsT h b v)(I:h.bY<=h'.bY)(J:∀t,b<=t->t<h.bY->h'.cd t=h.cd t):LsT h' b v:=by
 obtain⟨t,M,A,h2,D,E,H⟩:=a;exact⟨t,M,zHY I J A,h2,D,E,H⟩
def KM.base(km:KM σ s0 g)(k:dq (⟨b,g.top,g.cd⟩:dj) h)(D:σ.bY<=b)(E:b<=g.bY):KM σ s0 h:=by
 obtain⟨σ',m,q⟩:=km;refine⟨σ',m,⟨?_,Yv q.top k.top,λt A=>?_⟩⟩
 .have:=m.bY
  have:b<=h.bY:=k.bY
  omega
 .have:=m.bY
  rw[k.cd t (by show t<b;omega)];exact q.cd t A
def So.base(E:So g s0 vS bs)(e:h.cd s0=g.cd s0)(A:s0<h.bY):So h s0 vS bs:=by
 obtain⟨a,D,S⟩:=E;exact⟨a,D,by rw[e];exact S.cd,A,S.fb,S.byt,S.le,S.sd⟩
def zGr(A:b<=g.bY):dq (⟨b,g.top,g.cd⟩:dj) g:=⟨A,sB _,λ_ _=>rfl⟩
def w3_0(A:g.cd t=Ik [a1,a2,a3])(D:x.one=Im):g.wr t 0 [x]=Ik (g.set t [x,a2,a3]):=by rw[zL A,Iu ⟨bj,by simp[D]⟩];rfl
def w3_1(A:g.cd t=Ik [a1,a2,a3])(D:x.one=Im):g.wr t 1 [x]=Ik (g.set t [a1,x,a3]):=by rw[zL A,Iu ⟨bj,by simp[D]⟩];rfl
def w3_2(A:g.cd t=Ik [a1,a2,a3])(D:x.one=Im):g.wr t 2 [x]=Ik (g.set t [a1,a2,x]):=by rw[zL A,Iu ⟨bj,by simp[D]⟩];rfl
structure GO(σ:dj)(s0:Nat)(vS:PV)(bs:V1)(h:dj)(k0:Int)(vG vl:PV):Prop where
 km:KM σ s0 h
 so:So h s0 vS bs
 r0:h.cd (σ.bY+1)=Ik tD
 q0:h.cd (σ.bY+2)=Ik [.int .i64 k0,vG,vl]
 nx:σ.bY+3<=h.bY
def GO.mv{A:PV}(a:GO σ s0 vS bs h k0 vG A)(hs:s0<σ.bY)(m:Mv h s0 h')(D:So h' s0 vS bs):GO σ s0 vS bs h' k0 vG A:=
 ⟨a.km.mv hs m,D,by rw[m.cd aH];exact a.r0,by rw[m.cd aH];exact a.q0,by rw[m.bY];exact a.nx⟩
def GO.cb{A:PV}(a:GO σ s0 vS bs h k0 vG A)(cs:List PV):GO σ s0 vS bs (h.cb cs) k0 vG A:=
 ⟨a.km.cb _,a.so.c7 (zB _ _),by rw[zC,Iv (by have:=a.nx;omega)];exact a.r0,by rw[zC,Iv (by have:=a.nx;omega)];exact a.q0,Nat.le_succ_of_le a.nx⟩
def GO.set{H A D:PV}{E:Int}(a:GO σ s0 vS bs h k0 vG H)(hs:s0<σ.bY):GO σ s0 vS bs (h.set (σ.bY+2) [.int .i64 E,A,D]) E A D:=
 ⟨a.km.set aH _,a.so.set aH _,by rw[zG,Iv aH];exact a.r0,by rw[zG,Iu rfl],a.nx⟩
def GO.base{D:PV}(a:GO σ s0 vS bs g k0 vG D)(hs:s0<σ.bY)(k:dq (⟨σ.bY+3,g.top,g.cd⟩:dj) h):GO σ s0 vS bs h k0 vG D:=by
 have kn:σ.bY+3<=h.bY:=k.bY;have A:∀t,t<σ.bY+3->h.cd t=g.cd t:=k.cd;exact⟨a.km.base k aH a.nx,a.so.base (A _ aH) aH,by rw[A _ aH];exact a.r0,by rw[A _ aH];exact a.q0,kn⟩
def GO.fin{A:PV}(a:GO σ s0 vS bs h k0 vG A)(hs:s0<σ.bY)(I:CtK σ K s0 vS bs)(D:FG vG G)(H:(Tw G)<=3)(J:∀g∈G,ti g.1 g.2.1 g.2.2)(E:LsT h (σ.bY+3) A):Gh σ K (.agg [.int .i64 k0,vG,A]) (h.set (σ.bY+1) [.int .i64 k0,vG,A]):=
 zPs (b:=σ.bY+3) I (a.km.set aH _) (a.so.set aH _) hs aH D H J (E.c7 (sB _) λt R _=>by rw[zG,Iv aH])
set_option maxHeartbeats 1600000 in
def zLp(so:So σ s0 vS bs)(hc:CM G Ls)(hG:FG vG G)(hL:hK vL Ls)(hk:CtK σ K s0 vS bs):zA Tp 15 [.ptr s0 0,.agg [.int .i64 k0,vG,vL]] σ K:=by
 have U:=so.lt;have G1:=hG.one;have L1:=hL.one;have uy:=hc.l;refine To Tryz.func15 ?_;refine zOf (λe h=>∃(L:Nat->Nat) (A:PV) (kk:Int),gD L h (σ.bY+3) (λm=>m<=1000) 2 (Tw Ls) A/\GO σ s0 vS bs h k0 vG A/\Nx (Tw Ls) kk/\e 0=.ptr s0 0/\e 4=.ptr (σ.bY+1) 0/\e 5=.ptr (σ.bY+2) 0/\e 6=.int .i64 kk) ?_ ?_
 .simp only[Z3,seval,-ae,G1,L1];generalize hH:((σ.cb [.int .i64 k0,vG,vL]).cb [.int .i64 0,Tt,Tt]).cb [.int .i64 0,Tt,Tt]=H;have eG:H.bY=σ.bY+3:=by rw[<-hH];rfl
  have bK:H.cd σ.bY=Ik [.int .i64 k0,vG,vL]:=by rw[<-hH];simp only[Z3,seval,-ae]
  have cM:H.cd (σ.bY+1)=Ik tD:=by rw[<-hH];simp only[Z3,seval,-ae]
  have eA:H.cd (σ.bY+2)=Ik tD:=by rw[<-hH];simp only[Z3,seval,-ae]
  have kK:KM σ s0 H:=by rw[<-hH];exact so.kmK (((zB _ _).cb _).cb _)
  have jG:So H s0 vS bs:=by rw[<-hH];exact so.c7 (((zB _ _).cb _).cb _)
  clear hH;refine zDB (L:=λ_=>0) (k:=2) (b:=σ.bY+3) (Q:=λm=>m<=1000) hL aH hc.r (λr hr=>by have:=hc.r r hr;omega) Tx aH λL' h1 A mN _ ml=>?_;have f0:∀i,h1.gv σ.bY i=H.gv σ.bY i:=λi=>by rw[zH (by rw[mN.cd _ aH];exact bK),zH bK]
  have c0:h1.gv σ.bY 0=Ik (.int .i64 k0):=by rw[f0,zH bK];rfl
  have c1:h1.gv σ.bY 1=Ik vG:=by rw[f0,zH bK];rfl
  have c2:h1.gv σ.bY 2=Ik vL:=by rw[f0,zH bK];rfl
  have q1:h1.cd (σ.bY+2)=Ik tD:=by rw[mN.cd _ aH];exact eA
  have m1:=ml.one;have m2:=ml.cells;have w:h1.wr (σ.bY+2) 0 [.int .i64 k0,vG,A]=Ik (h1.set (σ.bY+2) [.int .i64 k0,vG,A]):=by rw[zL q1,Iu ⟨bj,by simp[G1,m1];rfl⟩];rfl
  have G2:=hG.cells;have Y:GO σ s0 vS bs (h1.set (σ.bY+2) [.int .i64 k0,vG,A]) k0 vG A:=
   ⟨(kK.c7 mN).set aH _,(jG.c7 mN).set aH _,by rw[zG,Iv aH,mN.cd _ aH];exact cM,by rw[zG,Iu rfl],by have:=mN.bY;show σ.bY+3<=h1.bY;omega⟩
  have me:gD L' (h1.set (σ.bY+2) [.int .i64 k0,vG,A]) (σ.bY+3) (λm=>m<=1000) 2 (Tw Ls) A:=ml.c7 (sB _) (λt ht _=>by rw[zG,Iv aH]) λ_ _=>rfl;simp only[Z3,seval,-ae,G1,G2,m1,m2,c0,c1,c2,w];generalize h1.set (σ.bY+2) [.int .i64 k0,vG,A]=h2 at *
  have d2:h2.gv (σ.bY+2) 2=Ik A:=by rw[zH Y.q0];rfl
  have hlen:nN A=Ik (.int .i64 (Tw Ls)):=by obtain⟨s,cap,cs,rfl,_⟩:=ml;rfl
  simp only[Z3,seval,-ae,d2,hlen];refine zQ (n:=(Tw Ls)) Y.so aH λy g hy J cX=>?_;refine Tq ?_;exact⟨L',A,y,me.c7 (by rw[J.bY];exact sB _) (λt ht _=>J.cd aH) λ_ _=>rfl,Y.mv U J cX,hy,rfl⟩
 rintro e h ⟨L,A,kk,ml,Y,jN,E0,R,S,V⟩
 refine zBh (λe h=>∃(k:Int) (X A:PV),GO σ s0 vS bs h k X A/\X.one=Im/\A.one=Im/\e 4=.ptr (σ.bY+1) 0/\e 5=.ptr (σ.bY+2) 0/\Gh σ K (.agg [.int .i64 k,X,A]) (h.set (σ.bY+1) [.int .i64 k,X,A])) ?_ ?_
 .simp only[Z3,seval,-ae,E0,R,S,V];refine zQ (n:=8) Y.so Tx λy g hy m2 ca=>?_;have E:=Y.mv U m2 ca;have me:gD L g (σ.bY+3) (λm=>m<=1000) 2 (Tw Ls) A:=ml.c7 (by rw[m2.bY];exact sB _) (λt ht _=>m2.cd aH) λ_ _=>rfl;clear Y ml;have y0:=hy.1;have y8:=hy.lt Tx;have AG:y=0\/y=1\/y=2\/(y=3\/y=4\/y=5)\/y=6\/y=7:=aH
  have d2:∀{g:dj} {k:Int} {X A:PV},GO σ s0 vS bs g k X A->g.gv (σ.bY+2) 2=Ik A:=λ{g k X A} Y=>by rw[zH Y.q0];rfl
  have d1:∀{g:dj} {k:Int} {X A:PV},GO σ s0 vS bs g k X A->g.gv (σ.bY+2) 1=Ik X:=λ{g k X A} Y=>by rw[zH Y.q0];rfl
  have m1:=me.one;have hlen:nN A=Ik (.int .i64 (Tw Ls)):=by obtain⟨s,cap,cs,rfl,_⟩:=me;rfl
  -- nothing more is EA
  have done:∀{g:dj} {k:Int} {A:PV},GO σ s0 vS bs g k vG A->LsT g (σ.bY+3) A->Gh σ K (.agg [.int .i64 k,vG,A]) (g.set (σ.bY+1) [.int .i64 k,vG,A]):=λY l=>Y.fin U hk hG hc.g hc.gs l;have mM:∀{g:dj} {A:PV} {cs:List PV},LsT g (σ.bY+3) A->LsT (g.set (σ.bY+2) cs) (σ.bY+3) A:=λ{g A cs} l=>l.c7 (sB _) λt ht _=>by rw[zG,Iv aH]
  rcases AG with rfl|rfl|rfl|FZ|rfl|rfl
  .simp only[Z3,seval,-ae,E0,R,S,V];refine zQ (n:=8) ca Tx λz W hz J cX=>?_;have D:=E.mv U J cX;have l3:LsT W (σ.bY+3) A:=(me.lst aH).c7 (by rw[J.bY];exact sB _) λt ht _=>J.cd aH;simp only[Z3,seval,-ae,E0,R,S,V,w3_0 D.q0 (x:=.int .i64 z) rfl];exact⟨z,vG,A,D.set U,G1,m1,done (D.set U) (mM l3)⟩
  .simp only[Z3,seval,-ae,E0,R,S,V,d2 E];refine zQ (n:=3) ca Tx λz W hz J cX=>?_;have D:=E.mv U J cX;have oK:gD L W (σ.bY+3) (λm=>m<=1000) 2 (Tw Ls) A:=me.c7 (by rw[J.bY];exact sB _) (λt ht _=>J.cd aH) λ_ _=>rfl;have Az:=D.nx;have ne1:¬σ.bY+2=W.bY:=aH
   have ne2:¬σ.bY+2=W.bY+1:=aH
   simp only[Z3,seval,-ae,E0,R,S,V,d2 D,ne1,ne2];have aE:gw (l6 L W.bY 1) (W.cb (eh [z])) (σ.bY+3) (λm=>m<=1000) (.sl W.bY 0 [z].length (.cm 1)):=gw.fresh (x:=[z]) Az bj (.inr rfl);have BG:gD (l6 L W.bY 1) (W.cb (eh [z])) (σ.bY+3) (λm=>m<=1000) 2 (Tw Ls) A:=oK.c7 (Yb _) (λt ht hn=>by rw[zC,Iv aH]) (zk (sB _));have mJ:=D.cb (eh [z]);refine DF.push (.inr BG) Tx aE (zGr mJ.nx) (sB _) mJ.nx aH λv' h' L' k1 tJ _ _ _ _=>?_;have lx:=mJ.base U k1;have v1:=tJ.one;have v2:=tJ.cells;simp only[Z3,seval,-ae,E0,R,S,V,v1,v2,w3_2 lx.q0 v1];exact⟨k0,vG,v',lx.set U,G1,v1,done (lx.set U) (mM (tJ.lst aH))⟩
  .by_cases hn:0<Tw Ls;rotate_left
   .have jM:¬(0:Int)<(Tw Ls:Int):=aH
    simp only[Z3,seval,-ae,E0,R,S,V,d2 E,hlen,jM,hn];exact⟨k0,vG,A,E,G1,m1,done E (me.lst aH)⟩
   have jM:(0:Int)<(Tw Ls:Int):=aH
   obtain⟨s,cap,v',e1,e2,e3,e4,e5⟩:=me.cut1 ⟨hn,aH⟩;have S9:=e1;subst e1;simp only[Z3,seval,-ae,E0,R,S,V,d2 E,hlen,jM,hn,e3,e4];refine qo e2 ?_;simp only[Z3,seval,-ae,E0,R,S,V,e3,e4,w3_2 E.q0 e3];exact⟨k0,vG,v',E.set U,G1,e3,done (E.set U) (mM e5)⟩
  .rcases FZ with rfl|rfl|rfl
   all_goals
    by_cases hn:0<Tw Ls;rotate_left
    .have jM:¬(0:Int)<(Tw Ls:Int):=aH
     simp only[Z3,seval,-ae,E0,R,S,V,d2 E,hlen,jM,hn,decide_false];exact⟨k0,vG,A,E,G1,m1,done E (me.lst aH)⟩
    have jM:(0:Int)<(Tw Ls:Int):=aH
    have R8:=jN.1;have DS:=jN.lt aH;obtain⟨kn,rfl⟩:∃kn:Nat,kk=(kn:Int):=⟨kk.toNat,aH⟩
    have iJ:kn<Tw Ls:=aH
    have BH:=me;obtain⟨s,cap,cs,rfl,q1,q2,q3,q4,q5,q6,q7⟩:=me;have J5:kn<Tw cs:=aH
    obtain⟨x,qx,t,aq,ec,r1,r2,r3,r4,r5⟩:=q7 _ (ss J5);have rk:∀{g':dj},g'.cd s=Ik cs->g'.gv s kn=Ik (.sl t 0 (Tw x) aq):=λ{g'} h=>by rw[zH h,na J5,ec]
    by_cases hx:0<Tw x;rotate_left
    .have eM:¬(0:Int)<(Tw x:Int):=aH
     simp only[Z3,seval,-ae,E0,R,S,V,d2 E,hlen,jM,hn,decide_true,decide_false,iJ,DS,rk q2,eM,hx];exact⟨k0,vG,_,E,G1,rfl,done E (BH.lst aH)⟩
    have eM:(0:Int)<(Tw x:Int):=aH
    simp only[Z3,seval,-ae,E0,R,S,V,d2 E,hlen,jM,hn,decide_true,iJ,DS,rk q2,eM,hx];refine zQ (n:=(Tw x)) ca aH λj W hj J cX=>?_;have D:=E.mv U J cX;have oK:gD L W (σ.bY+3) (λm=>m<=1000) 2 (Tw Ls) (.sl s 0 (Tw Ls) cap):=BH.c7 (by rw[J.bY];exact sB _) (λt ht _=>J.cd aH) λ_ _=>rfl;have DM:W.cd s=Ik cs:=by rw[J.cd aH];exact q2
    have tG:W.cd t=Ik (eh x):=by rw[J.cd aH];exact r2
    have j0:=hj.1;have j1:=hj.lt aH;obtain⟨jn,rfl⟩:∃jn:Nat,j=(jn:Int):=⟨j.toNat,aH⟩
    have dU:jn<Tw x:=aH
    have Az:=D.nx;have n2:=J.bY;have ne1:¬σ.bY+2=W.bY:=aH
    have ne2:¬s=W.bY:=aH
    simp only[Z3,seval,-ae,E0,R,S,V,d2 D,iJ,DS,rk DM,ne1,ne2];have mJ:=D.cb (eh [0,1,2,-1,1000000,1000001]);have BG:gD L (W.cb (eh [0,1,2,-1,1000000,1000001])) (σ.bY+3) (λm=>m<=1000) 2 (Tw Ls) (.sl s 0 (Tw Ls) cap):=oK.c7 (Yb _) (λt ht hn=>by rw[zC,Iv aH]) λ_ _=>rfl;refine QY (xs:=[0,1,2,-1,1000000,1000001]) (t:=W.bY) mJ.so aH (by rw[zC,Iu rfl];rfl) Tx λy I hy m4 fK=>?_;have lx:=mJ.mv U m4 fK;have tJ:gD L I (σ.bY+3) (λm=>m<=1000) 2 (Tw Ls) (.sl s 0 (Tw Ls) cap):=BG.c7 (by rw[m4.bY];exact sB _) (λt ht _=>m4.cd aH) λ_ _=>rfl;have nM:I.cd s=Ik cs:=by rw[m4.cd aH,zC,Iv aH];exact DM
    have Jm:I.cd t=Ik (eh x):=by rw[m4.cd aH,zC,Iv aH];exact tG
    have hw:=zAm (y:=y) Jm dU;have FD:=tJ.wrR (y:=x.set jn y) Jm (by rw[Yx]) r5 Tx;simp only[Z3,seval,-ae,E0,R,S,V,d2 lx,iJ,DS,rk nM,j1,dU,hw];have K5:GO σ s0 vS bs (I.set t (eh (x.set jn y))) k0 vG (.sl s 0 (Tw Ls) cap):=
     ⟨lx.km.set aH _,lx.so.set aH _,by rw[zG,Iv aH];exact lx.r0,by rw[zG,Iv aH];exact lx.q0,lx.nx⟩
    exact⟨k0,vG,_,K5,G1,rfl,done K5 (FD.lst aH)⟩
  .by_cases hn:0<Tw G;rotate_left
   .have jM:¬(0:Int)<(Tw G:Int):=aH
    have Ag:=hG;obtain⟨wG,aG,rG,rfl,gZ⟩:=Ag;simp only[Z3,seval,-ae,E0,R,S,V,d1 E,jM,hn];exact⟨k0,_,A,E,rfl,m1,done E (me.lst aH)⟩
   have jM:(0:Int)<(Tw G:Int):=aH
   have dW:(1:Int)<=(Tw G:Int):=aH
   have mw:1<=Tw G:=hn;have Ag:=hG;obtain⟨wG,aG,rG,rfl,gZ⟩:=Ag;simp only[Z3,seval,-ae,E0,R,S,V,d1 E,jM,hn,dW,mw];refine zL7 ca λwO wP wC O P C I hR sm J cX=>?_;have D:=E.mv U J cX;have oK:gD L I (σ.bY+3) (λm=>m<=1000) 2 (Tw Ls) A:=me.c7 (by rw[J.bY];exact sB _) (λt ht _=>J.cd aH) λ_ _=>rfl;have Az:=D.nx;have ne1:¬σ.bY+2=I.bY:=aH
   have p1:=hR.O.one;have p2:=hR.P.one;have p3:=hR.C.one;have z3:gH (jE [.cU,.cU,.cU] 1)=[Tt,Tt,Tt]:=rfl;simp only[Z3,seval,-ae,E0,R,S,V,d1 D,ne1,p1,p2,p3,z3];have rl:(Tw rG)=Tw G:=gZ.1;have S7:(re rG).length=Tw G*3:=by rw[qV,rl];omega
   have IN:O0 ((Tw G-1)*3) (Kf 3 (re rG))=re (rG.drop 1):=by
    have e:Kf 3 (re rG)=re (rG.drop 1):=by
     rcases rG with _|⟨q,rG⟩
     .rfl
     .rfl
    rw[e,YU];rw[qV,Ys,rl];omega
   rw[IN];have ai:ez FI3 ((wO,wP,wC)::rG.drop 1) ((O,P,C)::G.drop 1):=ez.cons (gZ.drop 1) hR;have gl:((O,P,C)::G.drop 1).length=1+(Tw G-1):=by rw[YF,Ys];omega
   have D7:(re (rG.drop 1)).length=(Tw G-1)*3:=by rw[qV,Ys,rl];omega
   have Es:=hc.g;have uN:ft I.bY 3 (I.cb [wO,wP,wC]) (.sl I.bY 0 1 (.cm 1)) 1 [wO,wP,wC]:=ft.cb (h:=I) (n:=1) (cs:=[wO,wP,wC]) I.bY 3 rfl (sB _);have hf:(Tw G)-1≠0->q8 3 (I.cb [wO,wP,wC]) (.fz false (pslA 3 aG 1 (Tw G)) (Tw G-1) (re (rG.drop 1))) (Tw G-1)=Ik (re (rG.drop 1)):=λh0=>by
    rw[zBI,Iv h0,Iu ⟨sB _,aH,aH⟩,YU aH]
   refine ft.app (b:=0) (bytes:=72) (news:=re (rG.drop 1)) (m:=(Tw G)-1) (zB I [wO,wP,wC]) (YQ _) uN rfl hf D7 aH aH λv' h' k1 a1=>?_;obtain⟨tp,cap,rfl,c1,c2,c3,c4,c5⟩:=a1;have R7:=k1.bY;have mJ:GO σ s0 vS bs h' k0 (.fz wG aG (Tw G) (re rG)) A:=⟨D.km.c7 k1,D.so.c7 k1,by rw[k1.cd _ aH];exact D.r0,by rw[k1.cd _ aH];exact D.q0,aH⟩
   have o1:(PV.sl tp 0 (1+(Tw G-1)) cap).one=Im:=rfl;simp only[Z3,seval,-ae,E0,R,S,V,w3_1 mJ.q0 o1];refine⟨k0,_,A,mJ.set U,rfl,m1,?_⟩;rw[<-gl];have lx:GO σ s0 vS bs (h'.set (σ.bY+2) [.int .i64 k0,.sl tp 0 ((O,P,C)::G.drop 1).length cap,A]) k0 (.sl tp 0 ((O,P,C)::G.drop 1).length cap) A:=mJ.set U;refine zOI (rows:=(wO,wP,wC)::rG.drop 1) (G:=(O,P,C)::G.drop 1) (b:=σ.bY+3) hk (lx.km.set aH _) (lx.so.set aH _) U aH ?_ aH (by rw[gl];exact c1) ai (by rw[gl];omega) (λq hq=>?_) (λT=>?_) λo cs=>?_
   .rw[zG,Iv aH,zG,Iv aH,c2];rfl
   .rcases Yq.1 hq with rfl|hq
    .exact sm.sz
    .exact hc.gs q (Jx hq)
   .refine(oK.lst aH).c7 (by show I.bY<=h'.bY;omega) λt ht mU=>?_
    show((((h'.set (σ.bY+2) _).set (σ.bY+1) _).kill tp).cd t)=_
    rw[zBH,Iv aH,zG,Iv aH,zG,Iv aH,k1.cd _ mU]
   .obtain⟨s,aq,dc,rfl,_,_,_,_,q5,_⟩:=oK
    have:¬s=tp:=aH
    simp only[sb,this,false_and,if_false]
  .simp only[Z3,seval,-ae,E0,R,S,V];refine zF (λm vs h=>∃(n:Nat) (L:Nat->Nat) (A:PV),n<=1000/\m=1000-n/\vs=[.ptr (σ.bY+1) 0,.ptr (σ.bY+2) 0]/\gD L h (σ.bY+3) (λm=>m<=1000) 2 n A/\GO σ s0 vS bs h k0 vG A) (1000-Tw Ls) ?_ ?_
   .exact⟨(Tw Ls),L,A,aH,rfl,rfl,me,E⟩
   rintro m vs I ⟨n,L3,EK,hn,rfl,rfl,oK,D⟩
   have o3:=oK.one;have wF:nN EK=Ik (.int .i64 n):=by obtain⟨s,cap,cs,rfl,_⟩:=oK;rfl
   by_cases Ai:n<=32;rotate_left
   .have Ah:¬(n:Int)<=32:=aH
    simp only[Z3,seval,-ae,d2 D,wF,Ah];exact⟨k0,vG,EK,D,G1,o3,done D (oK.lst hn)⟩
   have Ah:(n:Int)<=32:=aH
   have Az:=D.nx;have ne1:¬σ.bY+2=I.bY:=aH
   have ne2:¬σ.bY+2=I.bY+1:=aH
   simp only[Z3,seval,-ae,d2 D,wF,Ah,ne1,ne2];have aE:gw (l6 L3 I.bY 1) (I.cb (eh [])) (σ.bY+3) (λm=>m<=1000) (.sl I.bY 0 ([]:V1).length (.cm 0)):=gw.fresh (x:=[]) Az bj (.inr rfl);have BG:gD (l6 L3 I.bY 1) (I.cb (eh [])) (σ.bY+3) (λm=>m<=1000) 2 n EK:=oK.c7 (Yb _) (λt ht hn=>by rw[zC,Iv aH]) (zk (sB _));have mJ:=D.cb (eh []);refine DF.push (.inr BG) Tx aE (zGr mJ.nx) (sB _) mJ.nx aH λv' h' L' k1 tJ _ _ _ _=>?_;have lx:=mJ.base U k1;have v1:=tJ.one;have v2:=tJ.cells;have FD:gD L' (h'.set (σ.bY+2) [.int .i64 k0,vG,v']) (σ.bY+3) (λm=>m<=1000) 2 (n+1) v':=tJ.c7 (sB _) (λt ht _=>by rw[zG,Iv aH]) λ_ _=>rfl;simp only[Z3,seval,-ae,v1,v2,w3_2 lx.q0 v1];exact⟨_,aH,n+1,L',v',aH,rfl,FD,lx.set U⟩
 rintro e h ⟨k,X,A,Y,o1,o2,R,S,fin⟩
 have rc:h.rd (σ.bY+2) 0 3=Ik [.int .i64 k,X,A]:=by rw[zN Y.q0];rfl
 have w:h.wr (σ.bY+1) 0 [.int .i64 k,X,A]=Ik (h.set (σ.bY+1) [.int .i64 k,X,A]):=by rw[zL Y.r0,Iu ⟨bj,by simp[o1,o2];rfl⟩];rfl
 have rr:(h.set (σ.bY+1) [.int .i64 k,X,A]).rd (σ.bY+1) 0 3=Ik [.int .i64 k,X,A]:=by rw[zZ,Iu rfl];rfl
 simp only[Z3,seval,-ae,R,S,rc,o1,o2,w,rr];exact fin
end
section
open Go.RowKit Go.Lie Go.Grp
def Tryz.WriteString_f(B b:Nat)(bs:List Value)(s:ByteArray)(w:World)(h:Lib.IsBuilderF 72 5 B b bs w)(hlen:(Tw bs)+s.size<=140737488355328)(A:B<=w.heap.size):
  Calls Tp 41 #[.pointer (Ik ⟨b,0,none⟩),.string s] w λe w'=>e=.returned (.tuple #[.int .i64 s.size,.nilIface])/\(Lib.BuilderAtF 72 5 B b (.pointer (Ik ⟨b,0,none⟩)) (bs++Lib.strCells s) w'/\Below B w w'):=Any.Builder_WriteString_f { Tryz.lays156 with } Tryz.Builder_Extra_156 B b bs s w h hlen A
def Tryz.String_f(B b:Nat)(l:List UInt8)(w:World)(h:Lib.IsBuilderF 72 5 B b (Lib.byteCells l) w)(A:B<=w.heap.size):
  Calls Tp 44 #[.pointer (Ik ⟨b,0,none⟩)] w λe w'=>e=.returned (.string ⟨l.toArray⟩)/\(Lib.IsBuilderF 72 5 B b (Lib.byteCells l) w'/\Below B w w'):=Any.Builder_String_any_f { Tryz.lays156 with } Tryz.Builder_Extra_156 B b l w h A
def Says(P:Program)(f:FuncId)(args:Array Value)(w:World)(q:List UInt8):Prop:=Calls P f args w λe w'=>e=.returned (.string ⟨q.toArray⟩)/\Below w.heap.size w w'
def Bld(B:Nat)(q:List UInt8)(w:World):Prop:=Lib.IsBuilderF 72 5 B B (Lib.byteCells q) w
def zDU{w w':World}(A:Below w.heap.size w w'){b:Nat}{o:Obj}(h:w.heap[b]? = Ik o):w'.heap[b]? = Ik o:=by
 rw[A.block _ (YA.1 h).1];exact h
def zED{w w':World}{B e n:Nat}{v:Value}{xs:List Value}(E:Below w.heap.size w w')(h:w.ownsRowF B e 1 v n xs):w'.ownsRowF B e 1 v n xs:=by
 refine⟨h.1,?_⟩;rcases h.2 with q|⟨g,cap,cur,fz,A,h2,D,rest⟩
 .exact .inl q
 .exact .inr ⟨g,cap,cur,fz,A,h2,zDU E D,rest⟩
def Bld.below{B:Nat}{q:List UInt8}{w w':World}(h:Bld B q w)(A:Below w.heap.size w w'):Bld B q w':=by
 rcases h with ⟨D,v,h2,E,H⟩|⟨D,v,h2,E,H⟩
 .exact .inl ⟨D,v,zDU A h2,zED A E,H⟩
 .exact .inr ⟨D,v,zDU A h2,zED A E,H⟩
def ws{B:Nat}(q t:List UInt8)(W:World)(h:Bld B q W)(H:B<=W.heap.size)(I:(Tw q)+Tw t<=1000000):
  Calls Tp 41 #[.pointer (Ik ⟨B,0,none⟩),.string ⟨t.toArray⟩] W λe A=>e=.returned (.tuple #[.int .i64 (Tw t),.nilIface])/\Bld B (q++t) A/\Below B W A:=by
 have D:(⟨t.toArray⟩:ByteArray).size=Tw t:=by simp[ByteArray.size]
 refine(Tryz.WriteString_f B B (Lib.byteCells q) ⟨t.toArray⟩ W h (by rw[Lib.byteCells_length,D];omega) H).mono ?_
 rintro e A ⟨rfl,E,b1⟩
 refine⟨by rw[D],?_,b1⟩;rw[Lib.strCells_eq,<-Lib.byteCells_append]at E;exact .inr E
def zIH(a b:List UInt8):(⟨a.toArray⟩:ByteArray)++⟨b.toArray⟩=⟨(a++b).toArray⟩:=by
 apply ByteArray.ext;simp[ByteArray.data_append]
set_option maxHeartbeats 1600000
set_option maxRecDepth 100000
def LiAt(w:World)(v:Value)(L:V2):Prop:=
 ∃p c,v=.slice p (Tw L) c/\∀i,i<Tw L->∃b o,p=Ik ⟨b,o,none⟩/\∃D E,w.cell? ⟨b,o+i,none⟩=Ik (.slice D (L.getD i []).length E)/\b<w.heap.size/\
  ∀j,j<(L.getD i []).length->∃b1 A,D=Ik ⟨b1,A,none⟩/\b1<w.heap.size/\w.cell? ⟨b1,A+j,none⟩=Ik (.int .i64 (at_ (L.getD i []) j))
def zMV(k:Int)(n I J gb g0 gc:Nat)(vL:Value)(w:World)(T D:Nat->List UInt8)(L:V2)
  (c0:w.cell? ⟨I,J,none⟩=Ik (.int .i64 k)) (c1:w.cell? ⟨I,J+1,none⟩=Ik (.slice (Ik ⟨gb,g0,none⟩) n gc)) (c2:w.cell? ⟨I,J+2,none⟩=Ik vL) (hn:n<=3)
  (hF:∀z:Int,-1000000<=z->z<=1000000->∀W,Below w.heap.size w W->Says Tp 42 #[.int .i64 z,.int .i64 10] W (Lib.itoa z)) (Ij:∀z:Int,-1000000<=z->z<=1000000->(Lib.itoa z).length<=8) (hk:-1000000<=k) (cB:k<=1000000)
  (hT:∀q,q<n->∀W,Below w.heap.size w W->Says Tp 43 #[.pointer (Ik ⟨gb,g0+q*3,none⟩)] W (T q)) (uu:∀q,q<n->(T q).length<=3000)
  (Iy:D 0=Lib.itoa k++[10]) (Ps:∀q,D (q+1)=D q++(T q++[10]))
  (hL:LiAt w vL L) (uy:(Tw L)<=32) (Ic:∀i,(L.getD i []).length<=128) (Ep:∀i j,-1000000<=at_ (L.getD i []) j/\at_ (L.getD i []) j<=1000000):
  Calls Tp 17 #[.pointer (Ik ⟨I,J,none⟩)] w λe w'=>e=.returned (.string ⟨(F5 (D n) L (Tw L)).toArray⟩)/\Below w.heap.size w w':=by
 obtain⟨lp,lc,rfl,hL⟩:=hL;have M7:=Ij k hk cB;obtain⟨S,ug⟩:∃S,S=Lib.itoa k:=⟨_,rfl⟩
 rw[<-ug]at Iy M7;have af:I<w.heap.size:=World.block_lt_of_cell? _ _ c0;have gl:∀q,q<=n->(D q).length<=101+3001*q:=λq=>by
  induction q with
  |zero=>intro _;rw[Iy];simp;omega
  |succ q ih=>grind
 have h0:Bld w.heap.size [] (w.alloc (.cells #[.pointer none,.slice none 0 0] 72)):=Lib.IsBuilderF.of (Lib.fresh_isBuilder 72 5 w);have b0:Below w.heap.size w (w.alloc (.cells #[.pointer none,.slice none 0 0] 72)):=(Below.refl _ w).alloc (sB _) _;have f0:=hF k hk cB _ b0;unfold Says at f0;rw[<-ug]at f0;clear ug
 go_enter Tryz.func17,Tryz.ntmps17
 go_wp2_with (go_at_call 42;refine f0.mono ?_)
 rintro e W1 ⟨rfl,b1⟩
 have h1:Bld w.heap.size [] W1:=h0.below b1;have I2:Below w.heap.size w W1:=b0.trans (b1.mono b0.size);clear f0 h0 b0 b1;have E:=ws [] (S++[10]) W1 h1 I2.size (by simp;omega)
 go_wp2_with fail
 rw[show(⟨S.toArray⟩:ByteArray)++⟨#[10]⟩=⟨(S++[10]).toArray⟩ from zIH S [10]];refine E.mono ?_
 rintro e W2 ⟨rfl,h2,b2⟩
 have IZ:Below w.heap.size w W2:=I2.trans b2;rw[Yn,<-Iy]at h2;clear E b2 I2 h1;have P9:W2.cell? ⟨I,J+1,none⟩=Ik (.slice (Ik ⟨gb,g0,none⟩) n gc):=(IZ.cell (p:=⟨I,J+1,none⟩) af).trans c1
 go_wp2
 go_loopw [21] (λi wr=>∃q:Nat,q<=n/\i=.int .i64 q/\Bld w.heap.size (D q) wr/\Below w.heap.size w wr) (λi _=>n-(intOf i).toNat)
 case atStart=>exact⟨0,YQ _,rfl,h2,IZ⟩
 case round=>
  obtain⟨q,hq,rfl,H,A⟩:=hrel;clear P9 h2 IZ;by_cases JW:q<n
  .have Tf:wr.cell? ⟨I,J+1,none⟩=Ik (.slice (Ik ⟨gb,g0,none⟩) n gc):=(A.cell (p:=⟨I,J+1,none⟩) af).trans c1;have fT:=hT q JW wr A;unfold Says at fT
   go_wp2_with fail
   refine fT.mono ?_
   rintro e W3 ⟨rfl,b3⟩
   have h3:Bld w.heap.size (D q) W3:=H.below b3;have IY:Below w.heap.size w W3:=A.trans (b3.mono A.size);have gq:=gl q aH;have tq:=uu q JW;have E:=ws (D q) (T q++[10]) W3 h3 IY.size (by simp;omega);clear fT b3 H A
   go_wp2_with fail
   rw[show(⟨(T q).toArray⟩:ByteArray)++⟨#[10]⟩=⟨(T q++[10]).toArray⟩ from zIH (T q) [10]];refine E.mono ?_
   rintro e W4 ⟨rfl,h4,b4⟩
   rw[<-Ps]at h4;have Rh:=IY.trans b4;clear E b4 IY h3
   go_wp2
   go_roundw
   case rel=>exact⟨q+1,aH,by go_num,h4,Rh⟩
   case measure=>simp[intOf];omega
  .obtain rfl:q=n:=aH
   have P8:wr.cell? ⟨I,J+2,none⟩=Ik (.slice lp (Tw L) lc):=(A.cell (p:=⟨I,J+2,none⟩) af).trans c2;have gq:=gl q (sB _);have liL:∀i,i<=32->(F5 (D q) L i).length<=(D q).length+1200*i/\∀j,j<=128->(enT (F5 (D q) L i++[58]) (L.getD i []) j).length<=(D q).length+1200*i+1+9*j:=by
    have en:∀q x j,(∀z,-1000000<=at_ x z/\at_ x z<=1000000)->(enT q x j).length<=Tw q+9*j:=λq x j Y=>by
     induction j with
     |zero=>simp[enT]
     |succ j ih=>have:=Ij _ (Y j).1 (Y j).2;rw[enT];grind
    have li:∀i,i<=32->(F5 (D q) L i).length<=(D q).length+1200*i:=λi=>by
     induction i with
     |zero=>intro _;simp[F5]
     |succ i ih=>
      intro hi
      have:=ih aH
      have e2:=en (F5 (D q) L i++[58]) (L.getD i []) (L.getD i []).length (Ep i)
      have:=Ic i
      rw[F5];simp only[cO,Yk]at e2 ⊢;omega
    intro i hi;refine⟨li i hi,λj hj=>?_⟩;have e1:=li i hi;have e2:=en (F5 (D q) L i++[58]) (L.getD i []) j (Ep i);grind
   go_wp2_with fail
   clear P8 c2 c1 c0 hT;have jq:(intOf (.int .i64 (Tw L:Int))).toNat=Tw L:=by simp[intOf]
   go_loopw [39] (λi wr=>∃q2:Nat,q2<=Tw L/\i=.int .i64 q2/\Bld w.heap.size (F5 (D q) L q2) wr/\Below w.heap.size w wr) (λi _=>(Tw L)-(intOf i).toNat)
   case atStart=>exact⟨0,YQ _,rfl,H,A⟩
   case round=>
    clear H A;obtain⟨i,hi,rfl,H,A⟩:=hrel;by_cases aK:i<Tw L
    .obtain⟨lb,l0,rfl,xp,xc,cx,NR,Y⟩:=hL i aK;have K3:wr.cell? ⟨lb,l0+i,none⟩=Ik (.slice xp (L.getD i []).length xc):=(A.cell (p:=⟨lb,l0+i,none⟩) NR).trans cx;have R4:=(liL i aH).1;have Jz:=(liL i aH).2;have le:=Ic i;have Dg:=Ep i;have fA:∀j,∃z,z=at_ (L.getD i []) j:=λj=>⟨_,rfl⟩
     obtain⟨X,hX⟩:∃X,X=L.getD i []:=⟨_,rfl⟩
     rw[<-hX]at K3 Y le Dg Jz;have HX:Hid (X=L.getD i []):=Lib.hid hX;clear hX fA cx hL Ic Ep;have E:=ws (F5 (D q) L i) [58] wr H A.size (by simp;omega)
     go_wp2_with fail
     refine E.mono ?_
     rintro e W5 ⟨rfl,h5,U⟩
     have EC:Below w.heap.size w W5:=A.trans U;clear E U A H K3
     go_wp2_with fail
     go_loopw [46] (λv wr=>∃j:Nat,j<=Tw X/\v=.int .i64 j/\Bld w.heap.size (enT (F5 (D q) L i++[58]) X j) wr/\Below w.heap.size w wr) (λv _=>(Tw X)-(intOf v).toNat)
     case atStart=>exact⟨0,YQ _,rfl,h5,EC⟩
     case round=>
      clear h5 EC;obtain⟨j,hj,rfl,H,A⟩:=hrel;have ll:=Jz j aH;by_cases dU:j<Tw X
      .obtain⟨xb,x0,rfl,DX,cy⟩:=Y j dU;have K2:wr.cell? ⟨xb,x0+j,none⟩=Ik (.int .i64 (at_ X j)):=(A.cell (p:=⟨xb,x0+j,none⟩) DX).trans cy;have lv:=Dg j;obtain⟨z,hz⟩:∃z,z=at_ X j:=⟨_,rfl⟩
       rw[<-hz]at K2 lv;have HZ:Hid (z=at_ X j):=Lib.hid hz;clear hz cy;have fz:=hF _ lv.1 lv.2 wr A;have fl:=Ij _ lv.1 lv.2;unfold Says at fz;obtain⟨R,yI⟩:∃R,R=Lib.itoa z:=⟨_,rfl⟩
       rw[<-yI]at fz fl;have HK:Hid (R=Lib.itoa z):=Lib.hid yI;clear yI
       go_wp2_with fail
       refine fz.mono ?_
       rintro e W6 ⟨rfl,b6⟩
       have h6:=H.below b6;have IW:Below w.heap.size w W6:=A.trans (b6.mono A.size);clear fz b6 A H K2;have E:=ws (enT (F5 (D q) L i++[58]) X j) ([32]++R) W6 h6 IW.size (by simp only[cO,Yk];omega)
       go_wp2_with fail
       rw[show(⟨#[32]⟩:ByteArray)++⟨R.toArray⟩=⟨([32]++R).toArray⟩ from zIH [32] R];refine E.mono ?_
       rintro e W7 ⟨rfl,h7,V⟩
       have IV:Below w.heap.size w W7:=IW.trans V;rw[<-YH,(show R=_ from HK),(show z=_ from HZ)]at h7;clear E V IW h6
       go_wp2
       go_roundw
       case rel=>exact⟨j+1,aH,by go_num,h7,IV⟩
       case measure=>simp[intOf];omega
      .obtain rfl:j=Tw X:=aH
       have E:=ws _ [10] wr H A.size (by simp only[cO,Yk];omega)
       go_wp2_with fail
       refine E.mono ?_
       rintro e W7 ⟨rfl,h7,V⟩
       have IV:Below w.heap.size w W7:=A.trans V;clear E V A H
       go_wp2
       go_roundw
       case rel=>exact⟨i+1,aH,by go_num,by rw[F5,<-(show X=_ from HX)];exact h7,IV⟩
       case measure=>simp[intOf];omega
    .obtain rfl:i=Tw L:=aH
     have sw:=Tryz.String_f w.heap.size w.heap.size (F5 (D q) L (Tw L)) wr H A.size
     go_wp2_with fail
     refine sw.mono ?_
     rintro e W5 ⟨rfl,h5,U⟩
     have EC:Below w.heap.size w W5:=A.trans U;clear sw U A H
     go_wp2_with fail
     go_ret
     exact⟨rfl,EC⟩
end
section
open Go.Ab Go.Lie Go.Grp
variable{σ:dj}{K:PV->dj->Prop}{B s:Nat}{w0 w:World}{j:jv}{h:dN}{ι:Nat->Nat}{Z:Nat->Prop}{vO vP vC v vG vL:PV}{O:V1}{P:V2}{C:V3}
def zKX(D:zI O P C):(u0 O P C).length<=3000:=by
 have A:=D.shp;have H:=A.le;have U:=A.pl;have S:=A.cl;have ent:∀{k:Nat} {y:V1},TT O k y->∀a∈y,0<=a/\a<=7:=λ{k y} h a I=>by
  obtain⟨j,R,rfl⟩:=YE.1 I;have b:=h.bd j (by have:=h.len;omega);rw[gj R]at b;have o:=A.pr j (by have:=h.len;omega);omega
 have one:∀{k:Nat} {y:V1},TT O k y->(kx (Mx.nw y)).length<=43:=λh=>Zy (Zc (by have:=h.len;omega) (ent h)).1;have nil:(kx (Mx.nw [])).length<=43:=Zy (Zc (x:=[]) bj bj).1;have D:∀i,(kx (Mx.nw (jt P i))).length<=43:=λi=>by
  rcases YY i (Tw P) with h|h
  .exact one (A.pw i aH)
  simp_all
 have J:∀i j,(kx (Mx.nw (iD C i j))).length<=43:=λi j=>by
  rcases YY i (Tw C) with h|h
  .have hl:=A.row i aH;rcases YY (j-i-1) (C.getD i []).length with h2|h2
   .have e:iD C i j=iD C i (i+1+(j-i-1)):=by grind
    rw[e];exact one (A.cj i (i+1+(j-i-1)) aH aH)
   simp_all
  simp_all
 have E:∀i,(Lib.decDigits (at_ O i).toNat).length<=6:=λi=>by
  rcases YY i (Tw O) with h|h
  .have:=A.pr i h
   exact Yv (Zv 0 _ aH) aH
  .unfold at_;rw[YK,YN h];exact Yv (Zv 0 _ bj) aH
 unfold u0;split
 .simp
 .have a1:=zEa E (Tw O);have a2:=zEY (q:=pW O (Tw O)) E D (Tw O);have a3:=zEv (q:=uc O P (pW O (Tw O)) (Tw O)) H J (Tw O);omega
def zIl{b:Bool}{a:AV}{H:Value}{len:Nat}{ws:List AV}(m:MR B w0 j h w)(v:VI j a H)(f:FzAt Z h b a len ws):
  ∃p c,H=.slice p len c/\(0<len->ws≠[]->∃blk o,p=Ik ⟨blk,o,none⟩/\blk<w.heap.size/\(∀i x,ws[i]? = Ik x->∃cx,w.cell? ⟨blk,o+i,none⟩=Ik cx/\VI j x cx)/\
   ∀i,i<=Tw ws->∃a',VI j a' (.pointer (Ik ⟨blk,o+i,none⟩))/\FpAt Z h a' (ws.drop i)):=by
 rcases f with ⟨rfl,rfl,rfl⟩|⟨o,off,cap,rfl,X,E,cV,_⟩
 .exact⟨none,0,v,λh=>absurd h aH⟩
 .obtain⟨A,p,c,D,e,hp⟩:∃A p c,j o=Ik A/\H=.slice p len c/\(0<len->p=Ik ⟨A.blk,A.base+off,none⟩):=by
   cases cap with
   |cm c=>
    obtain⟨A,a,D,e,ha⟩:=v;grind
   |grown e=>
    obtain⟨A,c,f,D,e1,hle,hf,_⟩:=v;grind
  refine⟨p,c,e,λV R=>⟨A.blk,A.base+off,hp V,?_⟩⟩;have E:=E.resolve_left R;obtain⟨Y,W,hle,J⟩:=dN.rd_some E;obtain⟨cur,ty,fz,r1,r2,r3,r4⟩:=(m.cd _ _ _ W D).row;refine⟨(YA.1 r1).1,λi x I=>?_,λi hi=>⟨.ptr o (off+i),⟨A,D,by rw[Y9]⟩,rfl,.inr ⟨o,off+i,rfl,X,?_⟩⟩⟩
  .have aK:i<Tw ws:=(Yg.1 I).1
   have:Y.cells[off+i]? = Ik x:=by
    rw[J,Y3,Iu aH,Y0]at I;exact I
   obtain⟨cx,S,U⟩:=r2 _ _ this;exact⟨cx,by rw[Lib.cell_of_heap r1,Y9];exact S,U⟩
  .rw[Ys,zBq E (a:=i) (b:=(Tw ws)-i) aH,YU (by rw[Ys];omega)]
def zFT(cs:List PV):mg cs=cs.map loose:=by
 induction cs with
 |nil=>rfl
 |cons c cs ih=>rw[mg,ih];rfl
def zLk(l:V1):mg (eh l)=eh l:=by
 induction l with
 |nil=>rfl
 |cons c cs ih=>exact congrArg (PV.int .i64 c::·) ih
def zE2{v:PV}{xs:V1}(h:FI v xs):FI (Ab.loose v) xs:=by
 obtain⟨w,a,rfl⟩:=h;exact⟨false,a,by rw[Ab.loose,zLk]⟩
def zE1{α:Type}{R:PV->α->Prop}(H:∀v x,R v x->R (Ab.loose v) x){v:PV}{xs:List α}(h:FL R v xs):FL R (Ab.loose v) xs:=by
 obtain⟨w,a,rows,rfl,E,h2⟩:=h;refine⟨false,a,mg rows,rfl,by rw[zFT,Yj,E],λk x y A I=>?_⟩;rw[zFT,Yl,YJ]at A;obtain⟨J,D,rfl⟩:=A;exact H _ _ (h2 k _ _ D I)
def zMc(h:eQ vO vP vC O P C):eQ (Ab.loose vO) (Ab.loose vP) (Ab.loose vC) O P C:=
 ⟨zE2 h.O,zE1 (λ_ _ h=>zE2 h) h.P,zE1 (λ_ _ h=>zE1 (λ_ _ h=>zE2 h) h) h.C⟩
def zEj{z:Int}(A:-1000000<=z)(h2:z<=1000000):(Lib.itoa z).length<=8:=by
 unfold Lib.itoa;split
 .have:=Zv 6 z.natAbs aH
  simp only[YF];omega
 .have:=Zv 6 z.toNat aH
  omega
def zOA:∀{rows:List (PV×PV×PV)} {k:Nat} (A:k<Tw rows),∃rest,(re rows).drop (k*3)=rows[k].1::rows[k].2.1::rows[k].2.2::rest
 |q::r,0,_=>⟨_,rfl⟩
 |q::r,k+1,A=>by
  rw[show(k+1)*3=k*3+1+1+1 by omega];simp only[re,List.drop_succ_cons,List.getElem_cons_succ];exact zOA (rows:=r) (by simpa using A)
def grT_s(q:List UInt8)(G:List sg)(i:Nat):grT q G (i+1)=grT q G i++(u0 (G.getD i ([],[],[])).1 (G.getD i ([],[],[])).2.1 (G.getD i ([],[],[])).2.2++[10]):=by rw[grT,YH]
def zAO{k:Int}{G:List sg}{L:V2}(ho:σ.cd s=Ik [.int .i64 k,vG,vL])(hG:FG vG G)(hL:hK vL L)(V:zm k G L)(hk:K (.str (lV k G L)) σ):zA Tp 17 [.ptr s 0] σ K:=by
 obtain⟨wG,aG,D,rfl,gZ⟩:=hG;obtain⟨wL,aL,Y,rfl,kP⟩:=hL;obtain⟨A,S,c3,c4⟩:=V;have G9:1<=k/\k<=6:=by
  unfold Bh at A;by_cases H:k=5
  .omega
  by_cases I:k=4
  .omega
  rw[Iv H,Iv I]at A;split at A<;>omega
 have Es:(Tw G)<=3/\0<Tw G:=by
  unfold Bh at A;by_cases H:k=5
  .rw[Iu H]at A;omega
  by_cases I:k=4
  .rw[Iv H,Iu I]at A;omega
  .rw[Iv H,Iv I,Iu G9]at A;omega
 refine zA.quietS (q:=lV k G L) (λι Z h r va B w0 j w cargs m vi=>?_) hk;obtain⟨cv,_,rfl,⟨lo,J,rfl⟩,rfl⟩:=vi;obtain⟨q1,⟨_,⟨q2,Mw⟩,⟨q3,Mu⟩,_⟩,q4⟩:=r.cd s _ ho;obtain⟨cur,ty,fz,r1,r2,r3,r4⟩:=(m.cd _ _ _ q1 J).row;obtain⟨_,e0,rfl⟩:=r2 0 _ rfl;obtain⟨cG,e1,vG⟩:=r2 1 _ rfl;obtain⟨cL,e2,vL⟩:=r2 2 _ rfl;obtain⟨pG,gc,rfl,gM⟩:=zIl m vG q2;have dR:(Tw D)=Tw G:=gZ.1;obtain⟨gb,g0,rfl,S4,gM,gP⟩:=gM Es.2 (λe=>by
  have:=congrArg Nh e
  rw[qP,Yj,qV]at this;simp at this;omega)
 have LL:LiAt w cL L:=by
  obtain⟨pL,lc,rfl,X⟩:=zIl m vL q3;refine⟨pL,lc,rfl,λi E=>?_⟩;have R:i<Tw Y:=by rw[kP.1];exact E
  obtain⟨lb,l0,rfl,M5,X,_⟩:=X aH (λe=>by
   have:=congrArg Nh e
   simp only[qP,Yj,Ov]at this;omega)
  obtain⟨wx,ax,ex⟩:FI Y[i] L[i]:=kP.2 i _ _ (na R) (na E);obtain⟨cx,A,S⟩:=X i ax (by rw[qP,Yl,na R,ex];rfl);have hv:mA Z h 0 Y[i]:=ZW.1 Mu _ (ss R);rw[ex]at hv;obtain⟨px,xc,rfl,xM⟩:=zIl m S hv.1;have ge:L.getD i []=L[i]:=by grind
  rw[ge];refine⟨lb,l0,rfl,px,xc,A,M5,λj J=>?_⟩;obtain⟨xb,x0,rfl,Le,xM,_⟩:=xM aH (λe=>by
   have:=congrArg Nh e
   simp only[qP,Yj,eh,Ov]at this;omega)
  obtain⟨cy,y1,rfl⟩:=xM j (.int .i64 (at_ L[i] j)) (by rw[qP,Yl,zJ,gi J,gj J];rfl);exact⟨xb,x0,rfl,Le,y1⟩
 have bd:∀x,x∈L->∀j,-1000000<=at_ x j/\at_ x j<=1000000:=λx hx j=>by
  rcases YY j (Tw x) with h|h
  .rw[gj h];exact(c4 x hx).2 _ (ss h)
  .unfold at_;rw[YK,YN h];simp
 have:=zMV k (Tw G) lo.blk lo.base gb g0 gc cL w (λi=>u0 (G.getD i ([],[],[])).1 (G.getD i ([],[],[])).2.1 (G.getD i ([],[],[])).2.2) (grT (Lib.itoa k++[10]) G) L
  (by rw[Lib.cell_of_heap r1];exact e0) (by rw[Lib.cell_of_heap r1];exact e1) (by rw[Lib.cell_of_heap r1];exact e2) Es.1
  (λz z1 z2 W U=>(Tryz.strconv_FormatInt_10 z aH aH W (zMl (m.quiet U))).mono λe w' ⟨he,k,os,hw⟩=>⟨he,hw ▸ Go.Lib.below_grow _ W (sB _) k os⟩)
  (λz z1 z2=>zEj z1 z2) aH aH (λi E W U=>?_) (λi E=>?_) rfl (grT_s _ _) LL S (λi=>?_) (λi j=>?_)
 .exact this
 .have mD:i<Tw D:=aH
  obtain⟨rest,er⟩:=zOA mD;obtain⟨a',LK,KR⟩:=gP (i*3) (by rw[qP,Yj,qV];omega);have hp:eQ D[i].1 D[i].2.1 D[i].2.2 G[i].1 G[i].2.1 G[i].2.2:=gZ.2 i _ _ (na mD) (na E);have ge:G.getD i ([],[],[])=G[i]:=by simp_all
  rw[ge];rw[qP,<-List.map_drop,er,<-qP]at KR;have vv:fQ Z h 0 ((re D).drop (i*3)):=ZW.2 λc V=>ZW.1 Mw c (Jx V);rw[er]at vv;refine zA.quietC (args:=[.fp a' (D[i].1::D[i].2.1::D[i].2.2::rest)]) (Z4 (zMc hp) (c3 _ (ss E)) rfl) r ⟨⟨KR,vv⟩,Is⟩ (m.quiet U) ⟨_,_,rfl,LK,rfl⟩
 .have ge:G.getD i ([],[],[])=G[i]:=by rw[YK,na E];rfl
  rw[ge];exact zKX (c3 _ (ss E))
 .grind
 grind
end
end Go.Proofs
