/- . -/
import Derived.Test.YtjcghjopopohiaaGreatDoorQP9
import Derived.WalkSmall
import Derived.WalkKit
import Derived.BigCall
import Derived.LoopTactic
import Derived.Outline
import Derived.IntWalk
import Derived.Lib.Hide
import Derived.Lib.ConvBytes
import Derived.Maps.AppendAt
set_option linter.all false
set_option linter.defProp false
open Go.IntKind renaming wrap->Tu
open List renaming length->Tw
open Go.Proofs.Tryz renaming prog->Tp
open Bool renaming false_eq_true->JM,true->Im
open Int renaming mul_le_mul->Oq,toNat_natCast->KH,toNat_one->OZ,toNat_zero->OD
open List renaming all_eq_true->Mi,drop->Kf,drop_zero->J0,getElem?_cons_succ->IU,getElem?_cons_zero->Og,getElem?_range->O6,length_nil->Ov,map_congr_left->JI,mem_or_eq_of_mem_set->O3,range->Iw,range_succ->Om,replicate->Jf,replicate_succ'->Oj,take->O0
open Nat renaming lt_succ_of_lt->Lk,min_eq_left->Oh,mul_one->KE,ne_of_lt->Jn,not_lt_zero->Jv,pow_le_pow_right->O9
open Option renaming isSome_none->Kx,some->Ik
open True renaming intro->Is
open Int renaming reduceNatCast'->ae
set_option maxRecDepth 100000
namespace Go.Proofs
open Go.Ab Go.Lie Go.Grp
variable{cs:List PV}{b i j k n r s0 t:Nat}{h h' σ:dj}{c v vC vL vO vP vX:PV}{K:PV->dj->Prop}{O x xs:V1}{M P:V2}{C:V3}
section
variable{s:Nat}{L L':Nat->Nat}
structure EZ(σ h:dj)(O:V1)(L:Nat->Nat)(P:V2)(C:V3)(r s:Nat)(vO vP vC:PV):Prop where
 c7:dq σ h
 res:h.cd r=Ik [Tt,Tt,Tt]
 ob:h.cd s=Ik [vO,vP,vC]
 pw:PX L σ.bY h O P C vO vP vC
 lr:L r=7
 ls:L s=7
 ne:r≠s
 nr:σ.bY<=r/\r<h.bY
 ns:σ.bY<=s/\s<h.bY
def EZ.r1(a:EZ σ h O L P C r s vO vP vC):h.gv s 1=Ik vP:=by rw[zH a.ob];rfl
def EZ.r2(a:EZ σ h O L P C r s vO vP vC):h.gv s 2=Ik vC:=by rw[zH a.ob];rfl
def EZ.r3(a:EZ σ h O L P C r s vO vP vC):h.rd s 0 3=Ik [vO,vP,vC]:=by rw[zN a.ob];rfl
def EZ.fin(a:EZ σ h O L P C r s vO vP vC):h.wr r 0 [vO,vP,vC]=Ik (h.set r [vO,vP,vC])/\(h.set r [vO,vP,vC]).rd r 0 3=Ik [vO,vP,vC]/\dq σ (h.set r [vO,vP,vC])/\PX L σ.bY (h.set r [vO,vP,vC]) O P C vO vP vC:=by
 refine⟨by rw[zL a.res,Iu ⟨bj,by simp[a.pw.hO.one,a.pw.hP.one,a.pw.hC.one]⟩];rfl,by rw[zZ,Iu rfl];rfl,a.c7.set a.nr.1 _,a.pw.set7 a.lr _⟩
def EZ.keepL(a:EZ σ h O L P C r s vO vP vC)(A:dq σ h')(D:h.bY<=h'.bY)(u:∀t,σ.bY<=t->t<h.bY->h'.cd t=h.cd t)(m:∀t,t<h.bY->L' t=L t):EZ σ h' O L' P C r s vO vP vC:=
 ⟨A,by rw[u r a.nr.1 a.nr.2];exact a.res,by rw[u s a.ns.1 a.ns.2];exact a.ob,a.pw.keepL D u m,by rw[m r a.nr.2];exact a.lr,by rw[m s a.ns.2];exact a.ls,a.ne,⟨a.nr.1,by have:=a.nr.2;omega⟩,⟨a.ns.1,by have:=a.ns.2;omega⟩⟩
def EZ.fresh(a:EZ σ h O L P C r s vO vP vC)(cs:List PV)(k:Nat):EZ σ (h.cb cs) O (l6 L h.bY k) P C r s vO vP vC:=a.keepL (a.c7.cb cs) (Yb _) (λt _ m=>by rw[zC,Iv aH]) (zk (sB _))
def EZ.step(a:EZ σ h O L P C r s vO vP vC){P':V2}{C':V3}{uO uP uC:PV}(D:dq σ h')(E:PX L' σ.bY h' O P' C' uO uP uC)(H:h.bY<=h'.bY)(m:∀t,t<h.bY->L t=7->h'.cd t=h.cd t/\L' t=L t):EZ σ (h'.set s [uO,uP,uC]) O L' P' C' r s uO uP uC:=by
 have hs:=m s a.ns.2 a.ls;have u:=m r a.nr.2 a.lr;have A:L' s=7:=by rw[hs.2];exact a.ls
 have:=a.nr.2
 have:=a.ns.2
 exact⟨D.set a.ns.1 _,by rw[zG,Iv a.ne,u.1];exact a.res,by rw[zG,Iu rfl],E.set7 A _,by rw[u.2];exact a.lr,A,a.ne,⟨a.nr.1,by show r<h'.bY;omega⟩,⟨a.ns.1,by show s<h'.bY;omega⟩⟩
def EZ.old(a:EZ σ h O L P C r s vO vP vC)(m:∀t,t<h.bY->L t=7->h'.cd t=h.cd t/\L' t=L t):h'.cd s=Ik [vO,vP,vC]:=by
 rw[(m s a.ns.2 a.ls).1];exact a.ob
def EZ.keepM(a:EZ σ h O L P C r s vO vP vC)(X:dq σ h')(J:h.bY<=h'.bY){i:Nat}(Q:∀t,t<h.bY->L t≠1000*(10+i)->h'.cd t=h.cd t)(I:∀t,t<h.bY->L t≠8->L' t=L t)(Y:(Tw C)<=i):EZ σ h' O L' P C r s vO vP vC:=by
 have H:=a.lr;have h2:=a.ls;have S:=a.nr;have ns:=a.ns;have D:∀t,σ.bY<=t->t<h.bY->¬(L t=8\/L t=1000*(10+i))->h'.cd t=h.cd t:=λt _ R u=>Q t R aH;have A:∀t,t<h.bY->¬(L t=8\/L t=1000*(10+i))->L' t=L t:=λt R u=>I t R aH;refine⟨X,by rw[Q r S.2 aH];exact a.res,by rw[Q s ns.2 aH];exact a.ob,⟨a.pw.hO.keepE (E:=λm=>m=8\/m=1000*(10+i)) aH J D A,a.pw.hP.keepE (E:=λm=>m=8\/m=1000*(10+i)) (λm _ _=>aH) J D A,a.pw.hC.imp id λ⟨s,cap,cs,e,H,h2,T,U,V,W⟩=>?_⟩,by rw[I r S.2 aH];exact H,by rw[I s ns.2 aH];exact h2,a.ne,⟨S.1,aH⟩,⟨ns.1,aH⟩⟩;have u:¬(L s=8\/L s=1000*(10+i)):=aH
 exact⟨s,cap,cs,e,H,by rw[D s T U u];exact h2,T,aH,by rw[A s U u];exact V,qZ W λk c M hk a=>a.keepE (E:=λm=>m=8\/m=1000*(10+i)) (λm _ _=>aH) J D A⟩
def E5(n i:Nat):V2:=Jf i (Jf n 0)
def trJ(n i m:Nat):V2:=(Iw m).map λk=>iS n (i+1+k)
def Ed(n i:Nat):V3:=(Iw i).map λi=>trJ n i (n-1-i)
def zHZ(n i:Nat):E5 n i++[Jf n 0]=E5 n (i+1):=by unfold E5;rw[Oj]
def zHa(n i m:Nat):trJ n i m++[iS n (i+1+m)]=trJ n i (m+1):=by unfold trJ;rw[Om,YI];rfl
def zHb(n i:Nat):Ed n i++[trJ n i (n-1-i)]=Ed n (i+1):=by unfold Ed;rw[Om,YI];rfl
def zF3(n i:Nat):(E5 n i).length=i:=by simp[E5]
def zF4(n i m:Nat):(trJ n i m).length=m:=by simp[trJ]
def Qy(n i:Nat):(Ed n i).length=i:=by simp[Ed]
def kI.fresh{cap:nK}(m:b<=h.bY)(u:full 1 cap (Tw x)):kI (l6 L h.bY k) (h.cb (eh x)) b k x (.sl h.bY 0 (Tw x) cap):=
 ⟨h.bY,cap,rfl,u,by rw[zC,Iu rfl],m,YB _,qG⟩
def kI.freshN{cap:nK}{n:Nat}(A:(Tw x)=n)(m:b<=h.bY)(u:full 1 cap n):kI (l6 L h.bY k) (h.cb (eh x)) b k x (.sl h.bY 0 n cap):=by
 subst A;exact kI.fresh m u
def kI.low{m:Nat}(a:kI L h m k x v)(H:b<=m):kI L h b k x v:=by
 obtain⟨s,cap,e,u,h2,E,A,D⟩:=a;exact⟨s,cap,e,u,h2,aH,A,D⟩
def DE.keepF(a:DE L h b k M v)(cs:List PV)(j:Nat):DE (l6 L h.bY j) (h.cb cs) b k M v:=
 a.keepE (E:=λ_=>False) (λ_ _ _ h=>h) (Yb _) (λt _ m _=>by rw[zC,Iv aH]) λt m _=>zk (sB _) t m
def MX.low{m:Nat}(a:MX L h m k M v)(I:b<=m):MX L h b k M v:=by
 obtain⟨s,cap,cs,e,u,h2,J,A,D,H,E⟩:=a;exact⟨s,cap,cs,e,u,h2,aH,A,D,H,qZ E λ_ _ _ _ r=>r.low I⟩
def zIV(hlen:nN vX=Ik (.int .i64 (Tw O)))(hb:(Tw O)<=900)
  (dD:∀{g:dj} {K':PV->dj->Prop},dq σ g->(∀cap,full 1 cap (Tw O)->K' (.sl g.bY 0 (Tw O) cap) (g.cb (eh O)))->zA Tp 66 [vX] g K')
  (hk:∀L h vO vP vC,dq σ h->PX L σ.bY h O (E5 (Tw O) (Tw O)) (Ed (Tw O) (Tw O)) vO vP vC->K (.agg [vO,vP,vC]) h):zA Tp 57 [vX] σ K:=by
 refine Tn Tryz.func57 ?_;simp only[Z3,seval,-ae,hlen];refine dD (zB _ _) λcap hc=>?_;refine Tq ?_;generalize hn:(Tw O)=n at *
 refine zF (λm vs h=>∃(i:Nat) (L:Nat->Nat) (vO vP vC:PV),i<=n/\m=n-i/\vs=[.ptr σ.bY 0,.int .i64 n,.ptr (σ.bY+2) 0,.int .i64 i]/\EZ σ h O L (E5 n i) (Ed n i) σ.bY (σ.bY+2) vO vP vC) n ?_ ?_
 .refine⟨0,λt=>if t=σ.bY+1 then 5 else 7,.sl (σ.bY+1) 0 n cap,_,_,YQ _,rfl,rfl,((zB _ _).cb _).cb _,by simp only[Z3,seval,-ae],by simp only[Z3,seval,-ae],⟨.inr ⟨σ.bY+1,cap,by rw[hn],by rw[hn];exact hc,by simp only[Z3,seval,-ae],aH,by show σ.bY+1<σ.bY+3;omega,Iu rfl⟩,.inl ⟨rfl,rfl⟩,.inl ⟨rfl,rfl⟩⟩,Iv aH,Iv aH,aH,⟨sB _,by show σ.bY<σ.bY+3;omega⟩,⟨aH,by show σ.bY+2<σ.bY+3;omega⟩⟩
 rintro m vs h ⟨i,L,vO,vP,vC,hi,rfl,rfl,a⟩
 have jg:=a.ns.2;refine Tq ?_;refine Tr (λan=>?_) λaf=>?_
 .have e:i=n:=aH
  subst e;obtain⟨e1,e2,e3,e4⟩:=a.fin;simp only[Z3,seval,-ae,a.r3,e1,e2];exact hk L _ _ _ vC e3 e4
 have n1:¬σ.bY+2=h.bY:=aH
 have n2:¬σ.bY+2=h.bY+1:=aH
 simp only[Z3,seval,-ae,a.r1,n1,n2,zi,E4 (n:=n) aH,Go.Ab.zx (n:=n) aH];have u:=a.fresh (eh (Jf n 0)) 8;have Q:kI (l6 L h.bY 8) (h.cb (eh (Jf n 0))) σ.bY 8 (Jf n 0) (.sl h.bY 0 n (.cm n)):=kI.freshN bj aH (by simp[full]);refine PX.pushP u.pw Q u.c7 (sB _) (by show σ.bY<=h.bY+1;omega) (by rw[zF3];omega) λH E L1 k1 I T o1 W=>?_;rw[zHZ]at I;have iI:=u.old W;have w1:E.wr (σ.bY+2) 1 [H]=Ik (E.set (σ.bY+2) [vO,H,vC]):=by rw[zL iI,Iu ⟨bj,by simp[I.hP.one]⟩];rfl
 have J:=u.step k1 I (Ye T) W;simp only[Z3,seval,-ae,w1,I.hP.cells];have xR:h.bY+1<E.bY:=T;have wi:Tu .i64 ((i:Int)+1)=((i+1:Nat):Int):=WQ
 rw[wi];generalize V:E.set (σ.bY+2) [vO,H,vC]=g2 at *
 rw[show E.bY=g2.bY by rw[<-V];rfl];have jS:σ.bY+2<g2.bY:=by rw[<-V];show _<E.bY;omega
 clear iI w1 W o1 I k1 Q u a;have Y:=J.fresh [] (1000*(10+i));have A:DE (l6 L1 g2.bY (1000*(10+i))) (g2.cb []) σ.bY (10+i) (trJ n i 0) (.sl g2.bY 0 0 (.cm 0)):=.inr ⟨g2.bY,.cm 0,[],rfl,.inr rfl,by rw[zC,Iu rfl],aH,YB _,qG,YQ _,zB6⟩;refine zF (λm vs h=>∃(j:Nat) (L:Nat->Nat) (X:PV),i+1<=j/\j<=n/\m=n-j/\vs=[.ptr σ.bY 0,.int .i64 n,.ptr (σ.bY+2) 0,.int .i64 i,X,.int .i64 j]/\EZ σ h O L (E5 n (i+1)) (Ed n i) σ.bY (σ.bY+2) vO H vC/\DE L h σ.bY (10+i) (trJ n i (j-(i+1))) X) (n-(i+1)) ?_ ?_
 .exact⟨i+1,_,_,sB _,af,rfl,rfl,Y,by rw[Yh];exact A⟩
 clear Y A J V T xR
 rintro m vs h ⟨j,L,X,tu,hj,rfl,rfl,a,A⟩
 have jg:=a.ns.2;have n1:¬σ.bY+2=h.bY:=aH
 refine Tq ?_;refine Tr (λan=>?_) λjO=>?_
 .have e:j=n:=aH
  subst e;simp only[Z3,seval,-ae,a.r2,A.one,A.cells];refine PX.pushC a.pw (by rw[Qy];exact A) a.c7 (sB _) aH (by rw[Qy];omega) λv2 h2 R S D U o2 m2=>?_;rw[show j-(i+1)=j-1-i by omega,zHb]at D;have w2:h2.wr (σ.bY+2) 2 [v2]=Ik (h2.set (σ.bY+2) [vO,H,v2]):=by rw[zL (a.old m2),Iu ⟨bj,by simp[D.hC.one]⟩];rfl
  have J:=a.step S D (Ye U) m2;simp only[Z3,seval,-ae,w2,D.hC.cells,wi];exact⟨_,aH,i+1,R,vO,H,v2,aH,rfl,rfl,J⟩
 refine Tq ?_;refine Qp aH jO λbG cK=>?_;have u:=a.fresh (eh (iS n j)) 8;have Q:kI (l6 L h.bY 8) (h.cb (eh (iS n j))) σ.bY 8 (iS n j) (.sl h.bY 0 n bG):=kI.freshN (zg n j) aH cK;refine Tq ?_;refine DE.push (k:=10+i) (A.keepF _ 8) aH Q u.c7 (sB _) (by show σ.bY<=h.bY+1;omega) (by rw[zF4];omega) λv2 h2 R S D U lQ vK _=>?_;have e:iS n j=iS n (i+1+(j-(i+1))):=by rw[show i+1+(j-(i+1))=j by omega]
 rw[e,zHa]at D;have wj:Tu .i64 ((j:Int)+1)=((j+1:Nat):Int):=WQ
 simp only[Z3,seval,-ae,wj];refine⟨_,aH,j+1,R,v2,aH,aH,rfl,rfl,u.keepM S (Ye U) (i:=i) vK lQ (by rw[Qy];exact sB _),?_⟩;rw[show j+1-(i+1)=j-(i+1)+1 by omega];exact .inr D
def zHB(E:FI vX O)(H:(Tw O)<=900)(I:∀u A m,eQ u A m O (E5 (Tw O) (Tw O)) (Ed (Tw O) (Tw O))->K (.agg [u,A,m]) σ):zA Tp 57 [vX] σ K:=by
 obtain⟨w,a,rfl⟩:=E;exact zA.gh (zIV rfl H (λ_ D=>zl rfl aH D) λL h vO vP vC J a=>a.fin J (sB _) I)
def zFc(V:hK vL M)(hm:(Tw M)<=900)(hr:∀r∈M,(Tw r)<=1048576)(U:1<=k)(W:b<=σ.bY)
  (Y:∀L' h v,dq σ h->(∀t,t<σ.bY->L t≠8->L' t=L t)->MX L' h b k M v->K v h):zA Tp 35 [vL] σ K:=by
 obtain⟨w,a,rows,rfl,T⟩:=V;refine Tn Tryz.func35 ?_;refine Tq ?_;refine zF (λm vs h=>∃(i:Nat) (L':Nat->Nat) (v:PV),i<=Tw M/\m=Tw M-i/\vs=[.fz w a (Tw M) rows,v,.int .i64 i]/\dq σ h/\(∀t,t<σ.bY->L t≠8->L' t=L t)/\MX L' h σ.bY k (M.take i) v) (Tw M) ?_ ?_
 .exact⟨0,l6 L σ.bY (1000*k),.sl σ.bY 0 0 (.cm 0),YQ _,rfl,rfl,zB _ _,λt A _=>zk (sB _) t A,σ.bY,.cm 0,[],rfl,.inr rfl,by rw[zC,Iu rfl],sB _,YB _,qG,YQ _,zB6⟩
 rintro m vs h ⟨i,L',v,hi,rfl,rfl,H,E,I⟩
 have bZ:=H.bY;refine Tq ?_;refine Tr (λan=>?_) λu=>?_
 .have e:i=Tw M:=aH
  rw[e,YP]at I;exact Y L' h v H E (I.low W)
 obtain⟨w1,a1,jo⟩:=T.rowI u;have S:(i:Int)<(Tw M:Int):=aH
 simp only[Z3,seval,-ae,u,S,jo];refine zl rfl (by have:=hr _ (ss u);omega) λcap X=>?_;have R:kI (l6 L' h.bY 8) (h.cb (eh M[i])) σ.bY 8 M[i] (.sl h.bY 0 M[i].length cap):=kI.fresh aH X;refine Tq ?_;refine DE.push (σ:=σ) (b:=σ.bY) (k:=k) (DE.keepF (.inr I) _ 8) U R (H.cb _) (sB _) (by show σ.bY<=h.bY+1;omega) (by rw[Ym];omega) λv2 h2 Q k2 J l2 lQ vK _=>?_;have BN:h.bY+1<h2.bY:=l2;rw[<-YV u]at J;simp only[Z3,seval,-ae,WX u];exact⟨_,aH,i+1,Q,v2,aH,rfl,rfl,k2,λt A D=>by rw[lQ t (by show t<h.bY+1;omega) (by rw[zk (sB _) t aH,E t A D];exact D),zk (sB _) t aH];exact E t A D,J⟩
def zPi(hR:eQ vO vP vC O P C)(hO:(Tw O)<=1000)(hP:(Tw P)<=900)(hC:(Tw C)<=900)(uA:∀q∈C,(Tw q)<=900)(D2:∀r∈P,(Tw r)<=1048576)(D3:∀q∈C,∀r∈q,(Tw r)<=1048576)
  (hk:∀L h Q wP wC,dq σ h->PX L σ.bY h O P C Q wP wC->K (.agg [Q,wP,wC]) h):zA Tp 60 [.agg [vO,vP,vC]] σ K:=by
 have g0:=hR.O.one;have g1:=hR.P.one;obtain⟨⟨Q,aO,rfl⟩,jU,jV⟩:=hR;obtain⟨w2,u,X,rfl,pM⟩:=jV;refine Tn Tryz.func60 ?_;simp only[Z3,seval,-ae,g0,g1];refine zl rfl aH λcap hc=>?_;simp only[Z3,seval,-ae,g0,g1];generalize I:(((((σ.cb [PV.fz Q aO (Tw O) (eh O),vP,PV.fz w2 u (Tw C) X]).cb [Tt,Tt,Tt]).cb [Tt,Tt,Tt]).cb (eh O)))=H;have eG:H.bY=σ.bY+4:=by rw[<-I];rfl
 have kH:dq σ H:=by rw[<-I];exact(((zB _ _).cb _).cb _).cb _
 have bK:H.cd σ.bY=Ik [PV.fz Q aO (Tw O) (eh O),vP,PV.fz w2 u (Tw C) X]:=by rw[<-I];simp only[Z3,seval,-ae]
 have cM:H.cd (σ.bY+1)=Ik [Tt,Tt,Tt]:=by rw[<-I];simp only[Z3,seval,-ae]
 have eA:H.cd (σ.bY+2)=Ik [Tt,Tt,Tt]:=by rw[<-I];simp only[Z3,seval,-ae]
 have tI:H.cd (σ.bY+3)=Ik (eh O):=by rw[<-I];simp only[Z3,seval,-ae]
 clear I;obtain⟨R,jb⟩:∃R:Nat->Nat,R=λt=>if t=σ.bY+3 then 5 else 7:=⟨_,rfl⟩
 have l5:R (σ.bY+3)=5:=by rw[jb];simp
 have l7:∀t,t≠σ.bY+3->R t=7:=λt ht=>by rw[jb];simp[ht]
 clear jb;refine zFc (L:=R) (k:=2) (b:=σ.bY) jU hP D2 Tx aH λY A J D V U=>?_;have dW:=D.bY;have r2:A.gv σ.bY 1=Ik vP:=by rw[zH (by rw[D.cd _ aH];exact bK)];rfl
 have o2:A.cd (σ.bY+2)=Ik [Tt,Tt,Tt]:=by rw[D.cd _ aH];exact eA
 have Bi:A.wr (σ.bY+2) 0 [.sl (σ.bY+3) 0 (Tw O) cap,J,Tt]=Ik (A.set (σ.bY+2) [.sl (σ.bY+3) 0 (Tw O) cap,J,Tt]):=by
  rw[zL o2,Iu ⟨bj,by simp[U.one];exact⟨rfl,rfl⟩⟩];rfl
 simp only[Z3,seval,-ae,U.one,U.cells,Bi];have pw1:PX Y σ.bY A O P [] (.sl (σ.bY+3) 0 (Tw O) cap) J (Tt):=
  ⟨.inr ⟨σ.bY+3,cap,rfl,hc,by rw[D.cd _ aH];exact tI,aH,aH,by rw[V _ aH aH];exact l5⟩,.inr U,.inl ⟨rfl,rfl⟩⟩
 have t1:EZ σ (A.set (σ.bY+2) [.sl (σ.bY+3) 0 (Tw O) cap,J,Tt]) O Y P [] (σ.bY+1) (σ.bY+2) (.sl (σ.bY+3) 0 (Tw O) cap) J (Tt):=
  ⟨(kH.trans D).set aH _,by rw[zG,Iv aH,D.cd _ aH];exact cM,by rw[zG,Iu rfl],pw1.set7 (by simp_all) _,by simp_all,by simp_all,aH,⟨aH,by show _<A.bY;omega⟩,⟨aH,by show _<A.bY;omega⟩⟩
 refine zF (λm vs h=>∃(i:Nat) (L:Nat->Nat) (vC:PV),i<=Tw C/\m=Tw C-i/\vs=[.ptr σ.bY 0,.ptr (σ.bY+1) 0,.ptr (σ.bY+2) 0,.int .i64 i]/\EZ σ h O L P (C.take i) (σ.bY+1) (σ.bY+2) (.sl (σ.bY+3) 0 (Tw O) cap) J vC/\
  h.cd σ.bY=Ik [PV.fz Q aO (Tw O) (eh O),vP,PV.fz w2 u (Tw C) X]/\L σ.bY=7) (Tw C) ?_ ?_
 .exact⟨0,Y,_,YQ _,rfl,rfl,t1,by rw[zG,Iv aH,D.cd _ aH];exact bK,by simp_all⟩
 clear t1 pw1 Bi o2 r2 dW U V D bK cM eA tI kH eG l5 l7
 rintro m vs h ⟨i,L,vC,hi,rfl,rfl,a,oB,lB⟩
 have jg:=a.ns.2;have rB:h.gv σ.bY 2=Ik (.fz w2 u (Tw C) X):=by rw[zH oB];rfl
 simp only[Z3,seval,-ae,rB];refine Tr (λan=>?_) λE=>?_
 .have e:i=Tw C:=aH
  rw[e,YP]at a;obtain⟨V,S,e3,e4⟩:=a.fin;simp only[Z3,seval,-ae,a.r3,V,S];exact hk L _ _ _ vC e3 e4
 have ah:(i:Int)<(Tw C:Int):=aH
 obtain⟨w4,a4,tF,hr,gI⟩:=pM.rowL E;simp only[Z3,seval,-ae,E,ah,hr,rB,a.r2];refine zFc (L:=L) (k:=10+i) (b:=σ.bY) ⟨w4,a4,tF,rfl,gI⟩ (uA _ (ss E)) (D3 _ (ss E)) aH aH λL2 h2 v2 T S m2=>?_;have u:=a.keepM (a.c7.trans T) T.bY (i:=i) (λt ht _=>T.cd t ht) S (by rw[Ym];omega);have Gz:=u.ns.2;have n2:¬σ.bY+2=h2.bY:=aH
 simp only[Z3,seval,-ae,u.r2,n2,m2.one,m2.cells];refine PX.pushC u.pw (by rw[Ym,Oh (Ye E)];exact .inr m2) u.c7 (sB _) aH (by rw[Ym];omega) λv3 h3 L3 k3 W l3 o3 m3=>?_;rw[<-YV E]at W;have w3:h3.wr (σ.bY+2) 2 [v3]=Ik (h3.set (σ.bY+2) [.sl (σ.bY+3) 0 (Tw O) cap,J,v3]):=by rw[zL (u.old m3),Iu ⟨bj,by simp[W.hC.one]⟩];rfl
 have a3:=u.step k3 W (Ye l3) m3;have q7:=m3 σ.bY aH (by rw[S _ aH aH,lB]);simp only[Z3,seval,-ae,w3,W.hC.cells,WX E];refine⟨_,aH,i+1,L3,v3,aH,rfl,rfl,a3,?_,by rw[q7.2,S _ aH aH];exact lB⟩
 first|(rw[zG,Iv aH,q7.1,T.cd _ aH];exact oB)|(rw[q7.1,T.cd _ aH];exact oB)
end
section
variable{s:List UInt8}
def zIY{cap:nK}(A:σ.cd s0=Ik (eh O))(W:(Tw O)<=6)(D:∀o∈O,pR o)(U:∀r:Int,(r<=729↔iL O<=729)->K (.int .i64 r) σ):zA Tp 56 [.sl s0 0 (Tw O) cap] σ K:=by
 refine Tn Tryz.func56 ?_;refine Tq ?_;refine zF (λm vs h'=>∃(i:Nat) (r:Int),i<=Tw O/\m=Tw O-i/\vs=[.sl s0 0 (Tw O) cap,.int .i64 r,.int .i64 i]/\σ=h'/\(r=iL (O.take i)\/(729<r/\729<iL (O.take i)))) (Tw O) ?_ ?_
 .exact⟨0,1,aH,aH,rfl,rfl,.inl (by simp[iL])⟩
 rintro m vs h' ⟨i,r,T,rfl,rfl,rfl,V⟩
 refine Tq ?_;refine Tr (λR=>?_) λu=>?_
 .grind
 have bt:∀o∈O.take i,pR o:=λo A=>D o (Y7 A);have S:=Qe bt;have J:=D _ (ss u);have E:=J.bd;have hs:=Zg u;have I:(i:Int)<(Tw O:Int):=aH
 have rd:σ.gv s0 i=Ik (.int .i64 O[i]):=by rw[zH A,zJ,gi u];rfl
 refine fi (λhle=>?_) λX=>?_
 .have nh:r=iL (O.take i):=aH
  subst nh;have Q:0<=iL (O.take i)*O[i]:=UW aH aH;have H:=Oq hle E.2 aH aH;simp only[Z3,seval,-ae,u,I,rd,mn (n:=iL (O.take i)*O[i]) aH aH,WX u];exact⟨_,aH,i+1,_,aH,rfl,rfl,.inl hs.symm⟩
 .simp only[Z3,seval,-ae,WX u];refine⟨_,aH,i+1,_,aH,rfl,rfl,.inr ⟨aH,?_⟩⟩;have H:=Oq (UL (iL (O.take i))) E.1 aH aH;omega
def zCm(c:Int):∀(s cur:List UInt8),∀q∈yf c cur s,(Tw q)<=Tw cur+Tw s
 |[],cur,q,hq=>by rw[yf,YW]at hq;rw[hq];exact Um _ _
 |x::r,cur,q,hq=>by
  unfold yf at hq;split at hq
  .rcases Yq.1 hq with rfl|hq
   .simp
   .have:=zCm c r [] q hq;simp only[YF,Ov]at *;omega
  .have:=zCm c r (cur++[x]) q hq;grind
def orL:V1->List (List UInt8)->Option V1
 |acc,[]=>if iL acc<=729 then Ik acc else none
 |acc,q::r=>if pR (vlF q)/\Tw acc<6 then orL (acc++[vlF q]) r else none
def orF(s:List UInt8):Option V1:=if s=[49]then Ik []else orL [] (yf 32 [] s)
def zKd(D:dq σ h)(m:∀u x,FI u x->K (.tup [u,.bool false]) σ):Gh σ K (.tup [Tt,.bool false]) h:=zID D λu A=>m u [] A
def zJ6(hs:(Tw s)<=1048576)(X:orF s=none->∀v x,FI v x->K (.tup [v,.bool false]) σ)(W:∀v O,orF s=Ik O->FI v O->(Tw O)<=6->(∀a∈O,pR a)->K (.tup [v,.bool Im]) σ):zA Tp 131 [.str s] σ K:=by
 have nil:orF s=none->∀{h:dj},dq σ h->Gh σ K (.tup [Tt,.bool false]) h:=λe {h} D=>zKd D (X e);refine To Tryz.func131 ?_;refine Tq ?_;refine fi (λE=>?_) λE=>?_
 .refine Tq ?_;exact ft.fin_tf (x:=[]) (zB _ _) (ft.cb _ 1 rfl (sB _)) λu I=>W u [] (Iu (beq_iff_eq.1 E)) I Tx λa S=>by cases S
 refine Tq ?_;have T:orF s=orL [] (yf 32 [] s):=Iv λe=>E (beq_iff_eq.2 e);refine zCQ (c:=32) (s:=s) aH λa=>?_;have sl:=zDe 32 s [];have jq:=zCm 32 s [] ;generalize yf 32 [] s=l at *
 refine Tq ?_;refine zF (λm vs h=>∃(i:Nat) (v:PV) (O:V1),i<=Tw l/\m=Tw l-i/\vs=[v,.fz Im a (Tw l) (nU l),.int .i64 i]/\Tw O=i/\i<=6/\(∀a∈O,pR a)/\dq σ h/\ft σ.bY 1 h v (Tw O) (eh O)/\orL O (l.drop i)=orL [] l) (Tw l) ?_ ?_
 .exact⟨0,_,[],YQ _,rfl,rfl,rfl,YQ _,λa S=>(by cases S),zB _ _,ft.cb _ 1 rfl (sB _),rfl⟩
 rintro m vs h ⟨i,v,O,hi,rfl,rfl,uw,N2,hO,D,J,A⟩
 have E:=J.one;simp only[Z3,seval,-ae,E];refine Tr (λan=>?_) λQ=>?_
 .have uN:=J;obtain⟨sO,cap,rfl,q1,q2,q3,q4,q5⟩:=uN;rw[Yr aH,orL,<-T]at A;refine zIY q2 aH hO λr hr=>?_;by_cases R:iL O<=729
  .have r7:=hr.2 R;rw[Iu R]at A;simp only[Z3,seval,-ae,r7];exact ft.fin_tf D J λu I=>W u O A.symm I aH hO
  .have r7:¬r<=729:=λe=>R (hr.1 e);rw[Iv R]at A;simp only[Z3,seval,-ae,r7];exact ft.fin_tf D J λu I=>X A.symm u O I
 have ah:(i:Int)<(Tw l:Int):=aH
 have gc:(nU l)[i]? = Ik (.str l[i]):=qm Q;rw[rX Q,orL]at A;have hq:l[i].length<=1048576:=by grind
 simp only[Z3,seval,-ae,Q,ah,gc];refine zME hq ?_;generalize vlF l[i]=y at *
 have wi:=WX Q;refine Tq ?_;refine Q7 ?_;by_cases H:pR y;rotate_left
 .simp only[Z3,seval,-ae,H];rw[Iv (λq=>H q.1),<-T]at A;exact nil A.symm D
 by_cases Y:6<=i
 .have U:(6:Int)<=(i:Int):=aH
  simp only[Z3,seval,-ae,H,Y,U];rw[Iv (λq=>aH),<-T]at A;exact nil A.symm D
 have U:¬(6:Int)<=(i:Int):=aH
 rw[Iu ⟨H,aH⟩]at A;simp only[Z3,seval,-ae,H,Y,U,E];refine ft.push (σb:=σ) (bytes:=8) D J aH aH λv2 h2 k2 V=>?_;have h3:=V.one;simp only[Z3,seval,-ae,h3,wi];have e:eh (O++[y])=eh O++[.int .i64 y]:=by simp[eh]
 refine⟨_,aH,i+1,v2,O++[y],aH,rfl,rfl,by rw[cO,uw];rfl,aH,λa S=>?_,k2,by rw[e,cO];exact V,A⟩;grind
def wpF(n:Int):V1->List UInt8->Option V1
 |acc,[]=>Ik acc
 |acc,c::r=>if 1<=(c.toNat:Int)-97+1/\(c.toNat:Int)-97+1<=n then wpF n (acc++[(c.toNat:Int)-97+1]) r else if 1<=(c.toNat:Int)-65+1/\(c.toNat:Int)-65+1<=n then wpF n (acc++[-((c.toNat:Int)-65+1)]) r else none
def lpF(n:Int)(s:List UInt8):Option V1:=if s=[49]then Ik []else if s=[]then none else wpF n [] s
def zMB{n:Nat}(hn:n<=6)(hs:(Tw s)<=1048576)(df:lpF n s=none->∀v x,FI v x->K (.tup [v,.bool false]) σ)(bm:∀v xs,lpF n s=Ik xs->FI v xs->(∀x∈xs,-6<=x/\x<=(n:Int)/\x≠0)->(Tw xs)<=Tw s->K (.tup [v,.bool Im]) σ):zA Tp 172 [.int .i64 n,.str s] σ K:=by
 have nil:lpF n s=none->∀{h:dj},dq σ h->Gh σ K (.tup [Tt,.bool false]) h:=λe {h} H=>zKd H (df e);refine To Tryz.func172 ?_;refine Tq ?_;refine fi (λA=>?_) λA=>?_
 .refine Tq ?_;exact ft.fin_tf (x:=[]) (zB _ _) (ft.cb _ 1 rfl (sB _)) λu R=>bm u [] (Iu (beq_iff_eq.1 A)) R (λa V=>by cases V) (YQ _)
 refine Tq ?_;have E:lpF n s=if s=[]then none else wpF n [] s:=Iv λe=>A (beq_iff_eq.2 e)
 refine zF (λm vs h=>∃(i:Nat) (v:PV) (xs:V1),i<=Tw s/\m=Tw s-i/\vs=[.int .i64 n,.str s,v,.int .i64 i]/\Tw xs=i/\(∀x∈xs,-6<=x/\x<=(n:Int)/\x≠0)/\dq σ h/\ft σ.bY 1 h v (Tw xs) (eh xs)/\wpF n xs (s.drop i)=wpF n [] s) (Tw s) ?_ ?_
 .exact⟨0,_,[],YQ _,rfl,rfl,rfl,λa V=>(by cases V),zB _ _,ft.cb _ 1 rfl (sB _),rfl⟩
 rintro m vs h ⟨i,v,xs,hi,rfl,rfl,W,hx,H,I,D⟩
 have A:=I.one;simp only[Z3,seval,-ae,A];refine Tr (λan=>?_) λQ=>?_
 .have hl:nN v=Ik (.int .i64 (Tw xs)):=by obtain⟨s',cap,rfl,_⟩:=I;rfl
  rw[Yr aH,wpF]at D;rw[<-D]at E;by_cases U:s=[]
  .have e:(Tw xs)=0:=by rw[W,show i=(Tw s) by omega,U];rfl
   have Y:¬(0:Int)<(Tw xs:Int):=aH
   have gG:¬0<Tw xs:=aH
   simp only[Z3,seval,-ae,A,hl];rw[decide_eq_false Y];rw[Iu U]at E;exact ft.fin_tf H I λu R=>df E u xs R
  .have Y:(0:Int)<(Tw xs:Int):=by have:=List.length_pos_iff.2 U;omega
   have gG:0<Tw xs:=aH
   simp only[Z3,seval,-ae,A,hl];rw[decide_eq_true Y];rw[Iv U]at E;exact ft.fin_tf H I λu R=>bm u xs E R hx aH
 have Pg:s≠[]:=λe=>by rw[e]at Q;exact absurd Q (Jv _)
 rw[Iv Pg]at E;rw[<-E,rX Q,wpF]at D;have gs:s[i]? = Ik s[i]:=na Q;have c0:(s[i].toNat:Int)<256:=by have:=s[i].toNat_lt;omega
 have c1:(0:Int)<=(s[i].toNat:Int):=aH
 have wi:=WX Q;have q0:Tu .i64 (s[i].toNat:Int)=(s[i].toNat:Int):=WE;have q1:Tu .i64 ((s[i].toNat:Int)-97)=(s[i].toNat:Int)-97:=WE;have q2:Tu .i64 ((s[i].toNat:Int)-97+1)=(s[i].toNat:Int)-97+1:=WE;have q3:Tu .i64 ((s[i].toNat:Int)-65)=(s[i].toNat:Int)-65:=WE;have q4:Tu .i64 ((s[i].toNat:Int)-65+1)=(s[i].toNat:Int)-65+1:=WE;have q5:Tu .i64 (0-((s[i].toNat:Int)-65+1))=-((s[i].toNat:Int)-65+1):=WQ
 simp only[Z3,seval,-ae,gs,q0,q1,q2,q3,q4,A];refine QZ ?_;have put:∀{y:Int},(-6<=y/\y<=(n:Int)/\y≠0)->∀a∈xs++[y],-6<=a/\a<=(n:Int)/\a≠0:=λ{y} hy a V=>by
  grind
 have e:∀y:Int,eh (xs++[y])=eh xs++[.int .i64 y]:=λy=>by simp[eh]
 have el:∀y:Int,(xs++[y]).length=Tw xs+1:=λy=>by simp
 by_cases S:1<=(s[i].toNat:Int)-97+1/\(s[i].toNat:Int)-97+1<=(n:Int)
 .rw[Iu S]at D;simp only[Z3,seval,-ae,S,A];refine ft.push (σb:=σ) (bytes:=8) H I aH aH λv2 h2 k2 J=>?_;have X:=J.one;simp only[Z3,seval,-ae,X,wi];exact⟨_,aH,i+1,v2,xs++[(s[i].toNat:Int)-97+1],aH,rfl,rfl,by rw[el,W],put aH,k2,by rw[e,el];exact J,by rw[<-E];exact D⟩
 rw[Iv S]at D;simp only[Z3,seval,-ae,S,A];refine QZ ?_;by_cases T:1<=(s[i].toNat:Int)-65+1/\(s[i].toNat:Int)-65+1<=(n:Int)
 .rw[Iu T]at D;simp only[Z3,seval,-ae,T,A,q5];refine ft.push (σb:=σ) (bytes:=8) H I aH aH λv2 h2 k2 J=>?_;have X:=J.one;simp only[Z3,seval,-ae,X,wi];exact⟨_,aH,i+1,v2,xs++[-((s[i].toNat:Int)-65+1)],aH,rfl,rfl,by rw[el,W],put aH,k2,by rw[e,el];exact J,by rw[<-E];exact D⟩
 rw[Iv T]at D;simp only[Z3,seval,-ae,T,A];exact nil D.symm H
def Ei:V1->V1->Option V1
 |acc,[]=>Ik acc
 |acc,x::r=>if x<0 then none else Ei (acc.set (x-1).toNat (acc.getD (x-1).toNat 0+1)) r
def zJ4{n:Nat}(hn:n<=6)(hv:FI v x)(hx:∀a∈x,-6<=a/\a<=(n:Int)/\a≠0)(hl:(Tw x)<=1048576)(W:Ei (Jf n 0) x=none->∀h,dq σ h->K (.tup [Tt,.bool false]) h)(T:∀u,Ei (Jf n 0) x=Ik u->(Tw u)=n->K (.tup [.sl σ.bY 0 n (.cm n),.bool Im]) (σ.cb (eh u))):zA Tp 173 [.int .i64 n,v] σ K:=by
 obtain⟨w,a,rfl⟩:=hv;refine Tn Tryz.func173 ?_;simp only[Z3,seval,-ae,zi,E4 (n:=n) aH,Go.Ab.zx (n:=n) aH];refine zF (λm vs h=>∃(i:Nat) (u:V1),i<=Tw x/\m=Tw x-i/\vs=[.fz w a (Tw x) (eh x),.sl σ.bY 0 n (.cm n),.int .i64 i]/\Tw u=n/\(∀y∈u,0<=y/\y<=(i:Int))/\Ei u (x.drop i)=Ei (Jf n 0) x/\h=σ.cb (eh u)) (Tw x) ?_ ?_
 .exact⟨0,Jf n 0,YQ _,rfl,rfl,bj,λy J=>by simp_all,rfl,rfl⟩
 rintro m vs h ⟨i,u,hi,rfl,rfl,Q,J,A,rfl⟩
 refine Tq ?_;refine Tr (λan=>?_) λD=>?_
 .rw[Yr aH,Ei]at A;exact T u A.symm Q
 have I:(i:Int)<(Tw x:Int):=aH
 rw[rX D,Ei]at A;have E:(eh x)[i]? = Ik (.int .i64 x[i]):=by rw[zJ,gi D];rfl
 have xb:=hx _ (ss D);have wi:=WX D;simp only[Z3,seval,-ae,D,I,E];refine fi (λU=>?_) λS=>?_
 .rw[Iu U]at A;exact W A.symm _ (zB _ _)
 obtain⟨j,hj⟩:∃j:Nat,x[i]=(j:Int)+1:=⟨(x[i] - 1).toNat,aH⟩
 rw[Iv S]at A;have Y:j<n:=aH
 have V:(j:Int)<(n:Int):=aH
 have H:j<Tw u:=aH
 rw[hj]at E;have w1:Tu .i64 ((j:Int)+1-1)=(j:Int):=WQ
 have yb:=J _ (ss H);have w2:Tu .i64 (u[j] + 1)=u[j] + 1:=WE;have gy:(eh u)[j]? = Ik (.int .i64 u[j]):=by rw[zJ,gi H];rfl
 have wr:(σ.cb (eh u)).wr σ.bY j [.int .i64 (u[j] + 1)]=Ik ((σ.cb (eh u)).set σ.bY (eh (u.set j (u[j] + 1)))):=zAm (by rw[zC,Iu rfl]) H;have X:(σ.cb (eh u)).set σ.bY (eh (u.set j (u[j] + 1)))=σ.cb (eh (u.set j (u[j] + 1))):=by
  unfold dj.set dj.cb;simp_all
 have rd:(σ.cb (eh u)).gv σ.bY j=Ik (.int .i64 u[j]):=by rw[zH (by rw[zC,Iu rfl])];exact gy
 rw[X]at wr;have jO:(x[i] - 1).toNat=j:=aH
 have R:u.getD j 0=u[j]:=by simp_all
 rw[jO,R]at A;generalize hG:σ.cb (eh u)=G at *
 simp only[Z3,seval,-ae,D,I,E,hj,w1,Y,V,rd,w2,wr,wi];refine⟨_,aH,i+1,u.set j (u[j] + 1),aH,rfl,rfl,by rw[Yx];exact Q,λy AG=>?_,A,rfl⟩;grind
end
section
variable{L L':Nat->Nat}{s t:List UInt8}
section
structure An(b:Nat)(h:dj)(O:V1)(L:Nat->Nat)(P:V2)(C:V3)(r s:Nat)(vO vP vC:PV):Prop where
 res:h.cd r=Ik [Tt,Tt,Tt]
 hr:r<b
 ob:h.cd s=Ik [vO,vP,vC]
 pw:PX L b h O P C vO vP vC
 ls:L s=7
 ns:b<=s/\s<h.bY
variable{s:Nat}
def An.r1(a:An b h O L P C r s vO vP vC):h.gv s 1=Ik vP:=by rw[zH a.ob];rfl
def An.r2(a:An b h O L P C r s vO vP vC):h.gv s 2=Ik vC:=by rw[zH a.ob];rfl
def An.r3(a:An b h O L P C r s vO vP vC):h.rd s 0 3=Ik [vO,vP,vC]:=by rw[zN a.ob];rfl
def An.fin(a:An b h O L P C r s vO vP vC):h.wr r 0 [vO,vP,vC]=Ik (h.set r [vO,vP,vC])/\(h.set r [vO,vP,vC]).rd r 0 3=Ik [vO,vP,vC]/\PX L b (h.set r [vO,vP,vC]) O P C vO vP vC:=
 ⟨by rw[zL a.res,Iu ⟨bj,by simp[a.pw.hO.one,a.pw.hP.one,a.pw.hC.one]⟩];rfl,by rw[zZ,Iu rfl];rfl,a.pw.set a.hr _⟩
def An.start(a:PX L b h O P C vO vP vC)(A:r<b)(m:h.cd r=Ik [Tt,Tt,Tt])(u:b<=h.bY):An b (h.cb [vO,vP,vC]) O (l6 L h.bY 7) P C r h.bY vO vP vC:=
 ⟨by rw[zC,Iv aH];exact m,A,by rw[zC,Iu rfl],a.fresh _ _,qG,⟨u,YB _⟩⟩
def An.keepL(a:An b h O L P C r s vO vP vC)(A:h.bY<=h'.bY)(D:h'.cd r=h.cd r)(u:∀t,b<=t->t<h.bY->h'.cd t=h.cd t)(m:∀t,t<h.bY->L' t=L t):An b h' O L' P C r s vO vP vC:=
 ⟨by rw[D];exact a.res,a.hr,by rw[u s a.ns.1 a.ns.2];exact a.ob,a.pw.keepL A u m,by rw[m s a.ns.2];exact a.ls,⟨a.ns.1,by have:=a.ns.2;omega⟩⟩
def An.rlt(a:An b h O L P C r s vO vP vC):r<h.bY:=by have:=a.hr;have:=a.ns;omega
def An.c7(a:An b h O L P C r s vO vP vC)(m:dq h h'):An b h' O L P C r s vO vP vC:=a.keepL m.bY (m.cd r a.rlt) (λt _ u=>m.cd t u) λ_ _=>rfl
def An.fresh(a:An b h O L P C r s vO vP vC)(cs:List PV)(k:Nat):An b (h.cb cs) O (l6 L h.bY k) P C r s vO vP vC:=
 a.keepL (Yb _) (by rw[zC,Iv (by have:=a.rlt;omega)]) (λt _ m=>by rw[zC,Iv aH]) (zk (sB _))
def An.wrote{P':V2}{C':V3}{t:Nat}(a:An b h O L P C r s vO vP vC)(A:b<=t)(u:L t≠7){cs:List PV}(m:∀t,L t≠8->L' t=L t)(p:PX L' b (h.set t cs) O P' C' vO vP vC):An b (h.set t cs) O L' P' C' r s vO vP vC:=
 ⟨by rw[zG,Iv (by have:=a.hr;omega)];exact a.res,a.hr,by rw[zG,Iv (λe=>u (by rw[<-e];exact a.ls))];exact a.ob,p,by rw[m s (by rw[a.ls];decide)];exact a.ls,a.ns⟩
def An.putP(a:An b h O L P C r s vO vP vC)(I:i<Tw P)(H:kI L h b 8 x c):
  ∃m cap u L',vP=.sl m 0 (Tw P) cap/\b<=m/\m<h.bY/\h.wr m i [c]=Ik (h.set m u)/\An b (h.set m u) O L' (P.set i x) C r s vO vP vC:=by
 obtain⟨m,cap,u,L',e,A,h2,D,w,E,p⟩:=a.pw.putP I H;exact⟨m,cap,u,L',e,A,h2,w,a.wrote A D E p⟩
def An.putC(a:An b h O L P C r s vO vP vC)(S:i<Tw C)(T:j<(C.getD i []).length)(R:kI L h b 8 x c):
  ∃m cap t A u L',vC=.sl m 0 (Tw C) cap/\h.gv m i=Ik (.sl t 0 (C.getD i []).length A)/\b<=m/\m<h.bY/\b<=t/\t<h.bY/\h.wr t j [c]=Ik (h.set t u)/\An b (h.set t u) O L' P (C.set i ((C.getD i []).set j x)) r s vO vP vC:=by
 obtain⟨m,cap,t,A,u,L',e,E,h2,H,D,I,J,w,Q,p⟩:=a.pw.putC S T R;exact⟨m,cap,t,A,u,L',e,E,h2,H,D,I,w,a.wrote D J Q p⟩
end
def relJ(O:V1)(P:V2)(C:V3)(d:List UInt8)(x y:Int)(v:V1):Option (V2×V3):=
 if x<0\/(Tw O:Int)<=x then none
 else if d=Lib.decDigits (at_ O x.toNat).toNat then Ik (P.set x.toNat v,C)
 else if y<0\/x<=y then none
 else Ik (P,C.set y.toNat ((C.getD y.toNat []).set (x-y-1).toNat v))
def relI(O:V1)(P:V2)(C:V3)(m:List UInt8)(w:Option V1):Option (V2×V3):=
 match w with
 |none=>none
 |some w=>match Ei (Jf (Tw O) 0) w with
  |none=>none
  |some v=>relJ O P C (m.drop 3) (((m.getD 1 0).toNat:Int)-97) (((m.getD 3 0).toNat:Int)-97) v
def relH(O:V1)(P:V2)(C:V3)(m u:List UInt8):Option (V2×V3):=
 if (Tw m)=4/\(m.getD 0 0).toNat=32/\(m.getD 2 0).toNat=94 then relI O P C m (lpF (Tw O) u)else none
def relG(O:V1)(P:V2)(C:V3)(l:List (List UInt8)):Option (V2×V3):=
 if (Tw l)=2 then relH O P C (l.getD 0 []) (l.getD 1 [])else none
def xI(O:V1)(P:V2)(C:V3)(s:List UInt8):Option (V2×V3):=relG O P C (yf 61 [] s)
def MX.mark{m:Nat}(a:MX L h b k M v)(Q:m<=b)(u:∀t,b<=t->L' t=L t):MX L' h m k M v:=by
 obtain⟨s,cap,cs,e,A,h2,D,E,H,J,I⟩:=a;exact⟨s,cap,cs,e,A,h2,aH,E,by rw[u s D];exact H,J,qZ I λ_ _ _ _ r=>r.mark Q u⟩
def TX.mark{m:Nat}(a:TX L h b C v)(J:m<=b)(u:∀t,b<=t->L' t=L t):TX L' h m C v:=by
 obtain⟨s,cap,cs,e,A,h2,D,E,H,I⟩:=a;exact⟨s,cap,cs,e,A,h2,aH,E,by rw[u s D];exact H,qZ I λ_ _ _ _ a=>a.imp id λa=>a.mark J u⟩
def PX.mark{m:Nat}(a:PX L b h O P C vO vP vC)(A:m<=b)(u:∀t,b<=t->L' t=L t):PX L' m h O P C vO vP vC:=
 ⟨a.hO.imp id λa=>a.mark A u,a.hP.imp id λa=>a.mark A u,a.hC.imp id λa=>a.mark A u⟩
set_option maxHeartbeats 1600000 in
def zHD(hR:eQ vO vP vC O P C)(hO:(Tw O)<=6)(hp:∀a∈O,pR a)(T:GP (λm=>m=Tw O) P C (Tw O) (Tw O) (λi=>(Tw O)-1-i))(hs:(Tw s)<=1048576)
  (df:xI O P C s=none->K (.tup [.agg [vO,vP,vC],.bool false]) σ)
  (bm:∀D wP wC P' C',xI O P C s=Ik (P',C')->eQ D wP wC O P' C'->K (.tup [.agg [D,wP,wC],.bool Im]) σ):zA Tp 132 [.agg [vO,vP,vC],.str s] σ K:=by
 have E:=hR.O.one;have I:=hR.P.one;have A:=hR.C.one;have bp:=hR;have bad:xI O P C s=none->∀{h:dj},dq σ h->Gh σ K (.tup [.agg [vO,vP,vC],.bool false]) h:=λe {h} kk=>Gh.fin0 kk ⟨⟨hR.O.bel _,hR.P.bel _,hR.C.bel _,Is⟩,Is,Is⟩ (df e);obtain⟨⟨D,U,rfl⟩,jU,jV⟩:=hR;refine To Tryz.func132 ?_;simp only[Z3,seval,-ae,E,I,A];generalize hH:(σ.cb [PV.fz D U (Tw O) (eh O),vP,vC]).cb [Tt,Tt,Tt]=H;have eG:H.bY=σ.bY+2:=by rw[<-hH];rfl
 have kH:dq σ H:=by rw[<-hH];exact(zB _ _).cb _
 have uR:H.cd σ.bY=Ik [PV.fz D U (Tw O) (eh O),vP,vC]:=by rw[<-hH];simp only[Z3,seval,-ae]
 have xF:H.cd (σ.bY+1)=Ik [Tt,Tt,Tt]:=by rw[<-hH];simp only[Z3,seval,-ae]
 clear hH;have fin0:∀{g:dj},dq H g->g.rd σ.bY 0 3=Ik [PV.fz D U (Tw O) (eh O),vP,vC]/\g.wr (σ.bY+1) 0 [PV.fz D U (Tw O) (eh O),vP,vC]=Ik (g.set (σ.bY+1) [PV.fz D U (Tw O) (eh O),vP,vC])/\(g.set (σ.bY+1) [PV.fz D U (Tw O) (eh O),vP,vC]).rd (σ.bY+1) 0 3=Ik [PV.fz D U (Tw O) (eh O),vP,vC]/\(xI O P C s=none->Gh σ K (.tup [.agg [PV.fz D U (Tw O) (eh O),vP,vC],.bool false]) (g.set (σ.bY+1) [PV.fz D U (Tw O) (eh O),vP,vC])):=λ{g} V=>by
  refine⟨by rw[zN (by rw[V.cd _ aH];exact uR)];rfl,by rw[zL (by rw[V.cd _ aH];exact xF),Iu ⟨bj,by simp[E,I,A]⟩];rfl,by rw[zZ,Iu rfl];rfl,λe=>bad e ((kH.trans V).set aH _)⟩
 obtain⟨e1,e2,e3,e4⟩:=fin0 (dq.refl H);have eR:xI O P C s=relG O P C (yf 61 [] s):=rfl;refine zCQ (c:=61) (s:=s) aH λa=>?_;have jq:=zCm 61 s [];generalize yf 61 [] s=l at *
 by_cases h2:(Tw l)=2;rotate_left
 .have d2:¬((Tw l:Nat):Int)=2:=aH
  simp only[Z3,seval,-ae,d2,E,I,A,e1,e2,e3];exact e4 (by rw[eR,relG,Iv h2])
 have W:(nU l)[0]? = Ik (.str l[0]):=qm aH;have c1:(nU l)[1]? = Ik (.str l[1]):=qm aH;have Ch:l[0].length<=1048576:=by grind
 have Cg:l[1].length<=1048576:=by grind
 have Dw:xI O P C s=relH O P C l[0] l[1]:=by
  rw[eR,relG,Iu h2,YK,YK,na (aH:0<Tw l),na (aH:1<Tw l)];rfl
 generalize l[0]=p0 at *
 generalize l[1]=p1 at *
 rw[h2];generalize nU l=cells at *
 clear eR h2 jq;have d2:((2:Nat):Int)=2:=rfl;have X:(0:Int)<((2:Nat):Int):=by decide
 have z12:(1:Int)<((2:Nat):Int):=by decide
 by_cases h4:(Tw p0)=4;rotate_left
 .have d4:¬((Tw p0:Nat):Int)=4:=aH
  simp only[Z3,seval,-ae,d2,X,W,d4,E,I,A,e1,e2,e3];exact e4 (by rw[Dw,relH,Iv (λq=>h4 q.1)])
 have gd:∀i,(h:i<Tw p0)->p0.getD i 0=p0[i]:=λi h=>by grind
 have d4:((Tw p0:Nat):Int)=4:=aH
 by_cases Ai:p0[0].toNat=32;rotate_left
 .have d5:¬((p0[0].toNat:Nat):Int)=32:=aH
  simp only[Z3,seval,-ae,d2,X,W,d4,d5,E,I,A,e1,e2,e3,OD,na (aH:0<Tw p0)];exact e4 (by rw[Dw,relH,Iv (λq=>Ai (by rw[<-gd 0 aH];exact q.2.1))])
 have d5:((p0[0].toNat:Nat):Int)=32:=aH
 have n2:(2:Int).toNat=2:=rfl;have n1:(1:Int).toNat=1:=rfl;have n3:(3:Int).toNat=3:=rfl;by_cases Dm:p0[2].toNat=94;rotate_left
 .have d6:¬((p0[2].toNat:Nat):Int)=94:=aH
  simp only[Z3,seval,-ae,d2,X,W,d4,d5,d6,n2,E,I,A,e1,e2,e3,OD,OZ,na (aH:0<Tw p0),na (aH:1<Tw p0),na (aH:2<Tw p0),na (aH:3<Tw p0)];exact e4 (by rw[Dw,relH,Iv (λq=>Dm (by rw[<-gd 2 aH];exact q.2.2))])
 have d6:((p0[2].toNat:Nat):Int)=94:=aH
 simp only[Z3,seval,-ae,d2,X,z12,W,c1,d4,d5,d6,n2,E,I,A,OD,OZ,na (aH:0<Tw p0),na (aH:1<Tw p0),na (aH:2<Tw p0),na (aH:3<Tw p0)];have Dv:xI O P C s=relI O P C p0 (lpF (Tw O) p1):=by
  rw[Dw,relH,Iu ⟨h4,by rw[gd 0 aH];exact Ai,by rw[gd 2 aH];exact Dm⟩]
 clear Dw;refine zMB (n:=(Tw O)) hO (s:=p1) aH (λhw vu u hu=>?_) λvu u hw hu tQ iu=>?_
 .have AH:=hu.one;simp only[Z3,seval,-ae,E,I,A,e1,e2,e3,AH];exact e4 (by rw[Dv,hw];rfl)
 have AH:=hu.one;rw[hw]at Dv;have b1:(p0[1].toNat:Int)<256:=by have:=p0[1].toNat_lt;omega
 have b3:(p0[3].toNat:Int)<256:=by have:=p0[3].toNat_lt;omega
 have q1:Tu .i64 (p0[1].toNat:Int)=(p0[1].toNat:Int):=WE;have q3:Tu .i64 (p0[3].toNat:Int)=(p0[3].toNat:Int):=WE;have ox:Tu .i64 ((p0[1].toNat:Int)-97)=(p0[1].toNat:Int)-97:=WE;have nM:Tu .i64 ((p0[3].toNat:Int)-97)=(p0[3].toNat:Int)-97:=WE;simp only[Z3,seval,-ae,AH];refine zJ4 (n:=(Tw O)) hO hu tQ aH (λhv g V=>?_) λY hv iq=>?_
 .obtain⟨J,R,S,f4⟩:=fin0 V;simp only[Z3,seval,-ae,X,W,n1,n3,q1,q3,ox,nM,E,I,A,J,R,S,OD,OZ,na (aH:0<Tw p0),na (aH:1<Tw p0),na (aH:2<Tw p0),na (aH:3<Tw p0)];exact f4 (by rw[Dv,relI,hv])
 have Q:xI O P C s=relJ O P C (p0.drop 3) (((p0[1].toNat:Nat):Int)-97) (((p0[3].toNat:Nat):Int)-97) Y:=by
  rw[Dv,relI,hv];simp_all
 clear Dv;have V:=zB H (eh Y);have Ih:(H.cb (eh Y)).bY=H.bY+1:=rfl;have Fu:(H.cb (eh Y)).cd H.bY=Ik (eh Y):=by rw[zC,Iu rfl]
 have xD:(H.cb (eh Y)).cd σ.bY=Ik [PV.fz D U (Tw O) (eh O),vP,vC]:=by rw[zC,Iv aH];exact uR
 have xE:(H.cb (eh Y)).cd (σ.bY+1)=Ik [Tt,Tt,Tt]:=by rw[zC,Iv aH];exact xF
 generalize H.cb (eh Y)=H1 at *
 obtain⟨J,R,S,f4⟩:=fin0 V;by_cases j0:(p0[1].toNat:Int)-97<0
 .simp only[Z3,seval,-ae,X,W,n1,n3,q1,q3,ox,nM,j0,E,I,A,J,R,S,OD,OZ,na (aH:0<Tw p0),na (aH:1<Tw p0),na (aH:2<Tw p0),na (aH:3<Tw p0)];exact f4 (by rw[Q,relJ,Iu (.inl j0)])
 by_cases j1:(Tw O:Int)<=(p0[1].toNat:Int)-97
 .simp only[Z3,seval,-ae,X,W,n1,n3,q1,q3,ox,nM,j0,j1,E,I,A,J,R,S,OD,OZ,na (aH:0<Tw p0),na (aH:1<Tw p0),na (aH:2<Tw p0),na (aH:3<Tw p0)];exact f4 (by rw[Q,relJ,Iu (.inr j1)])
 simp only[Z3,seval,-ae,X,W,n1,n3,q1,q3,ox,nM,j0,j1,E,I,A,J,OD,OZ,na (aH:0<Tw p0),na (aH:1<Tw p0),na (aH:2<Tw p0),na (aH:3<Tw p0)];obtain⟨j,hj⟩:∃j:Nat,(p0[1].toNat:Int)-97=j:=⟨((p0[1].toNat:Int)-97).toNat,aH⟩
 rw[hj]at j0 j1 Q ⊢;have eW:j<Tw O:=aH
 have dT:(j:Int)<(Tw O:Int):=aH
 rw[relJ,Iv aH,KH]at Q;refine zPi bp aH (by rw[T.pl];omega) (by rw[T.cl];omega) (λq cH=>?_) (λr hr=>by have:=T.pq r hr;omega) (λq cH r hr=>by have:=T.cq q cH r hr;omega) λL h uO uP uC k1 p1=>?_
 .obtain⟨i,hi,rfl⟩:=YE.1 cH
  have:=T.row i (by rw[<-T.cl];exact hi)
  grind
 have GK:=k1.bY;have p2:=p1.mark (m:=H.bY) (L':=l6 L H.bY 8) aH λt ht=>by unfold l6;rw[Iv aH]
 have a:=An.start p2 (r:=σ.bY+1) aH (by rw[k1.cd _ aH];exact xE) aH;have eE:kI (l6 (l6 L H.bY 8) h.bY 7) (h.cb [uO,uP,uC]) H.bY 8 Y (.sl H.bY 0 (Tw O) (.cm (Tw O))):=by
  refine⟨H.bY,.cm (Tw O),by rw[iq],.inr (by rw[iq]),by rw[zC,Iv aH,k1.cd _ aH];exact Fu,sB _,by show H.bY<h.bY+1;omega,?_⟩;unfold l6;rw[Iv aH,Iu rfl]
 have k2:dq H1 (h.cb [uO,uP,uC]):=k1.cb _;simp only[Z3,seval,-ae,p2.hO.one,p2.hP.one,p2.hC.one];generalize h.bY=sl at *
 generalize h.cb [uO,uP,uC]=g at *
 clear p1 p2 k1;have ob:=hp _ (ss eW);have MN:=ob.b1;have gx:(eh O)[j]? = Ik (.int .i64 O[j]):=by rw[zJ,gi eW];rfl
 have rx:g.gv σ.bY 0=Ik (.fz D U (Tw O) (eh O)):=by rw[zH (by rw[k2.cd _ aH];exact xD)];rfl
 have fin:∀{g:dj} {L':Nat->Nat} {P':V2} {C':V3},xI O P C s=Ik (P',C')->dq H g->An H.bY g O L' P' C' (σ.bY+1) sl uO uP uC->
   g.wr (σ.bY+1) 0 [uO,uP,uC]=Ik (g.set (σ.bY+1) [uO,uP,uC])/\(g.set (σ.bY+1) [uO,uP,uC]).rd (σ.bY+1) 0 3=Ik [uO,uP,uC]/\Gh σ K (.tup [.agg [uO,uP,uC],.bool Im]) (g.set (σ.bY+1) [uO,uP,uC]):=λ{g L' P' C'} e FQ a=>by
  obtain⟨e1,e2,e3⟩:=a.fin;exact⟨e1,e2,e3.fin2b ((kH.trans FQ).set aH _) aH λD wP wC r1=>bm D wP wC P' C' e r1⟩
 have l3:(3:Int)<=(Tw p0:Int):=aH
 have BM:3<=Tw p0:=aH
 have BL:(3:Int)<=((4:Nat):Int):=by decide
 simp only[Z3,seval,-ae,X,W,n3,rx,eW,dT,gx,l3,BM,h4,BL,OD,OZ,na (aH:0<Tw p0),na (aH:1<Tw p0),na (aH:2<Tw p0),na (aH:3<Tw p0)];have t10:(10:Int) ^ (5+1)=1000000:=by decide
 refine zAy (n:=O[j]) 5 ⟨aH,aH,by rw[t10];omega⟩ Tx λd hd _=>?_;have ed:Kf 3 (O0 4 p0)=p0.drop 3:=by rw[YU aH]
 rw[gj eW,<-hd]at Q;simp only[Z3,seval,-ae,X,W,n3,rx,eW,dT,gx,l3,BM,h4,BL,OD,OZ,na (aH:0<Tw p0),na (aH:1<Tw p0),na (aH:2<Tw p0),na (aH:3<Tw p0)];rw[ed];by_cases ln:p0.drop 3=d
 .obtain⟨sP,ck,ds,L',KY,w1,w2,w3,a2⟩:=a.putP (by rw[T.pl];exact eW) eE;rw[T.pl]at KY;subst KY;rw[Iu ln]at Q;have k3:dq H (g.set sP ds):=(V.trans k2).set w1 _;obtain⟨J,R,S⟩:=fin Q k3 a2;have r1:=a.r1;have r3:=a2.r3;generalize g.set sP ds=A at *
  rw[show(Kf 3 p0 == d)=Im from beq_iff_eq.2 ln];simp only[Z3,seval,-ae,r1,eW,dT,w3,r3,J,R];exact S
 rw[Iv ln]at Q;rw[show(Kf 3 p0 == d)=false from beq_eq_false_iff_ne.2 ln];refine Tq ?_;by_cases i0:(p0[3].toNat:Int)-97<0
 .obtain⟨J,R,S,f4⟩:=fin0 (V.trans k2);simp only[Z3,seval,-ae,i0,J,R,S,E,I,A];exact f4 (by rw[Q,Iu (.inl i0)])
 obtain⟨i,hi⟩:∃i:Nat,(p0[3].toNat:Int)-97=i:=⟨((p0[3].toNat:Int)-97).toNat,aH⟩
 rw[hi]at i0 Q ⊢;by_cases i1:(j:Int)<=(i:Int)
 .obtain⟨J,R,S,f4⟩:=fin0 (V.trans k2);simp only[Z3,seval,-ae,i0,i1,J,R,S,E,I,A];exact f4 (by rw[Q,Iu (.inr i1)])
 have cD:i<Tw O:=aH
 have nA:(i:Int)<(Tw O:Int):=aH
 have jh:j-i-1<Tw O-1-i:=aH
 have fj:((j-i-1:Nat):Int)<((Tw O-1-i:Nat):Int):=aH
 have wk:Tu .i64 ((j:Int)-(i:Int))=(j:Int)-(i:Int):=WE;have dY:Tu .i64 ((j:Int)-(i:Int)-1)=((j-i-1:Nat):Int):=WQ
 rw[Iv aH,KH,show((j:Int)-(i:Int)-1).toNat=j-i-1 by omega]at Q;obtain⟨sC,eU,u',kJ,ds,L',KZ,rC,w1,w2,w3,w4,w5,a2⟩:=a.putC (by rw[T.cl];exact cD) (by rw[T.row i cD];exact jh) eE;rw[T.cl]at KZ;subst KZ;rw[T.row i cD]at rC;have k3:dq H (g.set u' ds):=(V.trans k2).set w3 _;obtain⟨J,R,S⟩:=fin Q k3 a2;have r2:=a.r2;have r3:=a2.r3;generalize g.set u' ds=A at *
 simp only[Z3,seval,-ae,i0,i1,r2,rC,cD,nA,jh,fj,wk,dY,w5,r3,J,R];exact S
end
section
variable{s t:List UInt8}
def Em(O:V1):V2×V3->List (List UInt8)->Option (V2×V3)
 |pc,[]=>Ik pc
 |pc,s::r=>match xI O pc.1 pc.2 s with|none=>none|some lz=>Em O lz r
def lpsL(O:Option V1)(r:List (List UInt8)):Option (V1×V2×V3):=
 match O with
 |none=>none
 |some O=>match Em O (E5 (Tw O) (Tw O),Ed (Tw O) (Tw O)) r with|none=>none|some pc=>Ik (O,pc.1,pc.2)
def EA(s:List UInt8):Option (V1×V2×V3):=lpsL (orF ((yf 59 [] s).getD 0 [])) ((yf 59 [] s).drop 1)
def zKL:∀(w acc:V1) {m:V1},Ei acc w=Ik m->(Tw m)=Tw acc
 |[],acc,m,e=>by rw[Ei]at e;rw[<-Option.some.inj e]
 |x::r,acc,m,e=>by
  rw[Ei]at e;split at e
  .cases e
  .rw[zKL r _ e,Yx]
abbrev Sq(O:V1)(P:V2)(C:V3):Prop:=GP (λm=>m=Tw O) P C (Tw O) (Tw O) (λi=>(Tw O)-1-i)
def sq_P{v:V1}(q:Sq O P C)(u:(Tw v)=Tw O)(i:Nat):Sq O (P.set i v) C:=
 ⟨by rw[Yx];exact q.pl,q.cl,λr m=>by rcases O3 m with h|rfl;exact q.pq r h;exact u,q.row,q.cq⟩
def sq_C{v:V1}(q:Sq O P C)(D:(Tw v)=Tw O)(i j:Nat):Sq O P (C.set i ((C.getD i []).set j v)):=by
 refine⟨q.pl,by rw[Yx];exact q.cl,q.pq,λk m=>?_,λc A r u=>?_⟩
 .rw[YK,Yu];by_cases e:i=k
  .subst e;rw[Iu rfl,Iu (by rw[q.cl];exact m)]
   show((C.getD i []).set j v).length=_
   rw[Yx];exact q.row i m
  .rw[Iv e,<-YK];exact q.row k m
 .rcases O3 A with h|rfl
  .exact q.cq c h r u
  .rcases O3 u with h|rfl
   .rcases YY i (Tw C) with hi|hi
    .rw[YK,na hi]at h;exact q.cq _ (ss hi) r h
    simp_all
   .exact D
def zQX{pc:V2×V3}(q:Sq O P C)(e:xI O P C s=Ik pc):Sq O pc.1 pc.2:=by
 unfold xI relG relH relI at e;split at e
 .split at e
  .split at e
   .cases e
   .split at e
    .cases e
    .next v hv=>
     have m:=zKL _ _ hv;rw[YT]at m;unfold relJ at e;split at e
     .cases e
     .split at e
      .rw[<-Option.some.inj e];exact sq_P q m _
      .split at e
       .cases e
       .rw[<-Option.some.inj e];exact sq_C q m _ _
  .cases e
 .cases e
def tr_sq(O:V1):Sq O (E5 (Tw O) (Tw O)) (Ed (Tw O) (Tw O)):=by
 refine⟨zF3 _ _,Qy _ _,λr m=>by rw[(List.mem_replicate.1 m).2];simp,λi u=>?_,λq A r m=>?_⟩
 .rw[YK,Ed,Yl,O6 u];exact zF4 _ _ _
 .obtain⟨i,_,rfl⟩:=YD.1 A;obtain⟨k,_,rfl⟩:=YD.1 m;exact zg _ _
def zCh(hs:(Tw s)<=1048576)(df:(∀O P C,EA s=Ik (O,P,C)->zI O P C->u0 O P C≠s)->K (.tup [.agg [Tt,Tt,Tt],.int .i64 6]) σ)
  (bm:∀A D u O P C,EA s=Ik (O,P,C)->zI O P C->u0 O P C=s->eQ A D u O P C->K (.tup [.agg [A,D,u],.int .i64 0]) σ):zA Tp 78 [.str s] σ K:=by
 have nil:(∀O P C,EA s=Ik (O,P,C)->zI O P C->u0 O P C≠s)->∀{h:dj},dq σ h->Gh σ K (.tup [.agg [Tt,Tt,Tt],.int .i64 6]) h:=λe {h} T=>Gh.fin0 T ⟨⟨Is,Is,Is,Is⟩,Is,Is⟩ (df e);refine To Tryz.func78 ?_;refine Tq ?_;have R:EA s=lpsL (orF ((yf 59 [] s).getD 0 [])) ((yf 59 [] s).drop 1):=rfl;refine zCQ (c:=59) (s:=s) aH λa=>?_;have sl:=zDe 59 s [];have jq:=zCm 59 s [];generalize yf 59 [] s=l at *
 have c0:(nU l)[0]? = Ik (.str l[0]):=qm aH;have z0:(0:Int)<(Tw l:Int):=aH
 have ma:0<Tw l:=aH
 have j9:l[0].length<=1048576:=by grind
 rw[show l.getD 0 []=l[0] by simp_all]at R;simp only[Z3,seval,-ae,z0,ma,c0];refine zJ6 j9 (λeO vX x hX=>?_) λvX O eO hX xh Dd=>?_
 .have A2:=hX.one;rw[eO,lpsL]at R;simp only[Z3,seval,-ae,A2];exact nil (λ_ _ _ e=>by rw[R]at e;cases e) (zB _ _)
 have A2:=hX.one;rw[eO]at R;simp only[Z3,seval,-ae,A2];refine zHB hX aH λA D u E=>?_;have S:=tr_sq O;have eF:∀pc,Em O (E5 (Tw O) (Tw O),Ed (Tw O) (Tw O)) (l.drop 1)=pc->EA s=match pc with|none=>none|some pc=>Ik (O,pc.1,pc.2):=λpc e=>by rw[R,lpsL,e]
 clear R;have H:=E.O.one;have I:=E.P.one;have J:=E.C.one;simp only[Z3,seval,-ae,H,I,J];have wQ:∀{h:dj},dq σ h->σ.bY<h.bY->h.cd σ.bY=Ik [Tt,Tt,Tt]->
   h.wr σ.bY 0 [Tt,Tt,Tt]=Ik (h.set σ.bY [Tt,Tt,Tt])/\(h.set σ.bY [Tt,Tt,Tt]).rd σ.bY 0 3=Ik [Tt,Tt,Tt]/\((∀O P C,EA s=Ik (O,P,C)->zI O P C->u0 O P C≠s)->Gh σ K (.tup [.agg [Tt,Tt,Tt],.int .i64 6]) (h.set σ.bY [Tt,Tt,Tt])):=λ{h} kh hl ho=>
  ⟨by rw[zL ho,Iu ⟨bj,rfl⟩];rfl,by rw[zZ,Iu rfl];rfl,λe=>nil e (kh.set (sB _) _)⟩
 refine zF (λm vs h=>∃(i:Nat) (A D u:PV) (P:V2) (C:V3),1<=i/\i<=Tw l/\m=Tw l-i/\vs=[.str s,.ptr σ.bY 0,.fz Im a (Tw l) (nU l),.ptr (σ.bY+1) 0,.int .i64 i]/\eQ A D u O P C/\GP (λm=>m=Tw O) P C (Tw O) (Tw O) (λj=>(Tw O)-1-j)/\
  dq σ h/\σ.bY+1<h.bY/\h.cd σ.bY=Ik [Tt,Tt,Tt]/\h.cd (σ.bY+1)=Ik [A,D,u]/\Em O (P,C) (l.drop i)=Em O (E5 (Tw O) (Tw O),Ed (Tw O) (Tw O)) (l.drop 1)) (Tw l-1) ?_ ?_
 .exact⟨1,A,D,u,_,_,sB _,sl.1,rfl,rfl,E,S,(zB _ _).cb _,by show _<σ.bY+2;omega,by simp only[Z3,seval,-ae],by simp only[Z3,seval,-ae],rfl⟩
 clear E S H I J
 rintro m vs h ⟨i,A,D,u,P,C,CF,hi,rfl,rfl,E,S,T,hl,V,cM,Q⟩
 have H:=E.O.one;have I:=E.P.one;have J:=E.C.one;have r3:h.rd (σ.bY+1) 0 3=Ik [A,D,u]:=by rw[zN cM];rfl
 have fm:Fm 6 O P C:=⟨xh,λa ha=>(Dd a ha).b1,S⟩
 refine Tq ?_;refine fi (λU=>?_) λan=>?_
 .have ah:(i:Int)<(Tw l:Int):=aH
  have ci:(nU l)[i]? = Ik (.str l[i]):=qm U;have wi:=WX U;have vH:l[i].length<=1048576:=by grind
  rw[rX U,Em]at Q;simp only[Z3,seval,-ae,r3,U,ah,ci];refine zHD E xh Dd S vH (λX=>?_) λuO uP uC P' C' X W=>?_
  .have w:h.wr (σ.bY+1) 0 [A,D,u]=Ik (h.set (σ.bY+1) [A,D,u]):=by rw[zL cM,Iu ⟨bj,by simp[H,I,J]⟩];rfl
   have sS:dq σ (h.set (σ.bY+1) [A,D,u]):=T.set aH _;have cu:σ.bY+1<(h.set (σ.bY+1) [A,D,u]).bY:=hl;have iQ:(h.set (σ.bY+1) [A,D,u]).cd σ.bY=Ik [Tt,Tt,Tt]:=by rw[zG,Iv aH];exact V
   obtain⟨Y,f2,f3⟩:=wQ sS aH iQ;rw[X]at Q;have tB:=eF none Q.symm;generalize h.set (σ.bY+1) [A,D,u]=g at *
   simp only[Z3,seval,-ae,H,I,J,w,Y,f2];exact f3 λ_ _ _ e=>by rw[tB]at e;cases e
  have cH:=zQX S X;rw[X]at Q;have g1:=W.O.one;have g2:=W.P.one;have g3:=W.C.one;have w:h.wr (σ.bY+1) 0 [uO,uP,uC]=Ik (h.set (σ.bY+1) [uO,uP,uC]):=by rw[zL cM,Iu ⟨bj,by simp[g1,g2,g3]⟩];rfl
  have sS:dq σ (h.set (σ.bY+1) [uO,uP,uC]):=T.set aH _;have cu:σ.bY+1<(h.set (σ.bY+1) [uO,uP,uC]).bY:=hl;have iQ:(h.set (σ.bY+1) [uO,uP,uC]).cd σ.bY=Ik [Tt,Tt,Tt]:=by rw[zG,Iv aH];exact V
  have oJ:(h.set (σ.bY+1) [uO,uP,uC]).cd (σ.bY+1)=Ik [uO,uP,uC]:=by rw[zG,Iu rfl]
  generalize h.set (σ.bY+1) [uO,uP,uC]=g at *
  simp only[Z3,seval,-ae,g1,g2,g3,w,wi];exact⟨_,aH,i+1,uO,uP,uC,P',C',aH,aH,rfl,rfl,W,cH,sS,cu,iQ,oJ,Q⟩
 have tB:EA s=Ik (O,P,C):=eF (Ik (P,C)) (by rw[<-Q,Yr aH,Em]);have un:∀{O' P' C'},EA s=Ik (O',P',C')->O'=O/\P'=P/\C'=C:=λ{O' P' C'} e=>by rw[tB]at e;cases e;exact⟨rfl,rfl,rfl⟩
 simp only[Z3,seval,-ae,r3];refine qJ E (fm.sz Tx) λt ht=>?_;obtain⟨Y,f2,f3⟩:=wQ T aH V;cases t
 .simp only[Z3,seval,-ae,Y,f2];exact f3 λO' P' C' e hp=>by grind
 simp only[Z3,seval,-ae,r3];refine zGk E (ht.1 rfl) λq eq _=>?_;cases gK:q == s
 .have aj:¬q=s:=λe=>by rw[e]at gK;simp at gK
  simp only[Z3,seval,-ae,gK,Y,f2];exact f3 λO' P' C' e hp=>by obtain⟨rfl,rfl,rfl⟩:=un e;rw[<-eq];exact aj
 have w:h.wr σ.bY 0 [A,D,u]=Ik (h.set σ.bY [A,D,u]):=by rw[zL V,Iu ⟨bj,by simp[H,I,J]⟩];rfl
 have r:(h.set σ.bY [A,D,u]).rd σ.bY 0 3=Ik [A,D,u]:=by rw[zZ,Iu rfl];rfl
 simp only[Z3,seval,-ae,gK,r3,w,r,H,I,J];exact Gh.fin0 (T.set (sB _) _) ⟨⟨E.O.bel _,E.P.bel _,E.C.bel _,Is⟩,Is,Is⟩ (bm A D u O P C tB (ht.1 rfl) (by rw[<-eq];exact beq_iff_eq.1 gK) E)
end
end Go.Proofs
namespace Go.Ab
open Go.RowKit
variable{σ:dj}{K:PV->dj->Prop}
section
variable{P:Program}
def zA.quietV{f:FuncId}{args:List PV}{v:PV}(Q:∀Z h n,mA Z h n v)
  (H:∀(ι:Nat->Nat) (Z:Nat->Prop) (h:dN),Rel ι Z σ h->fQ Z h σ.bY args->∀(B:Nat) (w0:World) (j:jv) (w:World) (cargs:List Value),MR B w0 j h w->oy j (kA ι args) cargs->
   Calls P f cargs.toArray w λe w'=>(∃u,e=.returned u/\VI j (er ι v) u)/\Below w.heap.size w w') (J:K v σ):zA P f args σ K:=
 λι Z h r R B w0 j w cargs m S=>(H ι Z h r R B w0 j w cargs m S).mono λe w' ⟨⟨u,I,E⟩,D⟩=>
  ⟨er ι v,h,j,u,I,FR.refl _ _,m.quiet D,E,v,σ,ι,Z,r,⟨sB _,sB _,λ_ _=>rfl,λo A=>⟨A,rfl⟩,λ_ _ x=>x,λs cs hs A=>by rw[r.wf s hs]at A;cases A⟩,Q _ _ _,rfl,J⟩
def zHd{Z:Nat->Prop}{h:dN}{n:Nat}:∀l:List (List UInt8),fQ Z h n (l.map PV.str)
 |[]=>trivial
 |_::l=>⟨Is,zHd l⟩
def zES(ι:Nat->Nat):∀l:List (List UInt8),kA ι (l.map PV.str)=l.map AV.str
 |[]=>rfl
 |q::l=>by simp only[Yw,kA,er,zES ι l]
def zHe(j:jv):∀l:List (List UInt8),oy j (l.map AV.str) (l.map λq=>Value.string ⟨q.toArray⟩)
 |[]=>rfl
 |q::l=>⟨_,_,rfl,rfl,zHe j l⟩
def zA.quietN{f:FuncId}{args:List PV}{l:List (List UInt8)}{ty:TypeId}
  (H:∀(ι:Nat->Nat) (Z:Nat->Prop) (h:dN),Rel ι Z σ h->fQ Z h σ.bY args->∀(B:Nat) (w0:World) (j:jv) (w:World) (cargs:List Value),MR B w0 j h w->oy j (kA ι args) cargs->
   Calls P f cargs.toArray w λe w'=>∃w1,Below w.heap.size w w1/\e=.returned (.slice (Ik ⟨w1.heap.size,0,none⟩) (Tw l) (Tw l))/\w'=w1.alloc (.cells (l.map λq=>Value.string ⟨q.toArray⟩).toArray ty))
  (E:K (.sl σ.bY 0 (Tw l) (.cm (Tw l))) (σ.cb (l.map PV.str))):zA P f args σ K:=by
 intro ι Z h r va B w0 j w cargs m vi;refine(H ι Z h r va B w0 j w cargs m vi).mono ?_
 rintro e w' ⟨w1,D,rfl,rfl⟩
 obtain⟨r2,u⟩:=r.cb (cs:=l.map PV.str) (zHd l);obtain⟨I,A⟩:=(m.quiet D).cb (cells:=kA ι (l.map PV.str)) (cur:=(l.map λq=>Value.string ⟨q.toArray⟩).toArray) (ty:=ty) (room:=(Tw l)) (by rw[zES];simp[List.all_map];intro q _;rfl) (by
  rw[zES,Yj,YU bj];exact zHe j l) bj
 exact⟨.sl h.bY 0 (Tw l) (.cm (Tw l)),_,_,_,rfl,A,I,⟨⟨w1.heap.size,0,(Tw l)⟩,_,by simp[jv.put],rfl,.inl rfl⟩,.sl σ.bY 0 (Tw l) (.cm (Tw l)),_,_,Z,r2,u,YB _,by simp[er,qt],E⟩
def dj.bare(σ:dj):dj:=⟨σ.bY,σ.top,λ_=>Option.none⟩
def zA.thaw{f:FuncId}{args:List PV}{args2:(Nat->Nat)->List PV}
  (R:∀ι,kA ι (args2 ι)=kA ι args) (S:∀{ι:Nat->Nat} {Z A:Nat->Prop} {h:dN},Rel ι Z σ h->(∀s m,σ.cd s=Ik m->A (ι s))->fQ A h σ.bY (args2 ι))
  (c:∀Q,zA P f (args2 Q) σ.bare λv _=>uV v/\K v σ):zA P f args σ K:=by
 intro ι Z h r va;obtain⟨A,xf⟩:∃A:Nat->Prop,A=λo=>Z o\/∃t m,σ.cd t=Ik m/\o=ι t:=⟨_,rfl⟩
 have H:∀o,A o↔(Z o\/∃t m,σ.cd t=Ik m/\o=ι t):=λo=>by rw[xf]
 clear xf;have r2:Rel ι A σ.bare h:=by
  refine⟨r.hwf,λo D=>?_,r.top,λt u=>rfl,λt m u=>(by cases u),λt t' m X u=>(by cases u)⟩;rcases(H o).1 D with D|⟨t,m,u,rfl⟩
  .exact r.Dy o D
  .exact r.hwf.lt (r.cd t m u).1
 have:=c ι ι A h r2 (S r λs m hs=>(H _).2 (.inr ⟨s,m,hs,rfl⟩))
 rw[R]at this;refine this.mono ?_
 rintro v h' ⟨pv,σ',ι',Z',W,E,Y,rfl,I,U⟩
 have V:∀t m,σ.cd t=Ik m->h'.cd (ι t)=h.cd (ι t):=λt m u=>(E.z _ ((H _).2 (.inr ⟨t,m,u,rfl⟩))).2;have J:∀o,Z o->Z o/\h'.cd o=h.cd o:=λo D=>⟨D,(E.z o ((H o).2 (.inl D))).2⟩
 exact⟨pv,σ,ι,Z,⟨W.hwf,λo D=>YO (r.Dy o D) E.hnext,Yv r.top E.hnext,r.wf,λt m u=>⟨by rw[V t m u];exact(r.cd t m u).1,(r.cd t m u).2.1.mono J (sB _),(r.cd t m u).2.2⟩,r.inj⟩,⟨sB _,E.hnext,λ_ _=>rfl,J,λ_ _ h=>h,λt m u T=>absurd (r.none_lt T) aH⟩,zC1 I _,zEe I _ _,U⟩
def TR.slotZ{ts:List TR}{b:Nat}(u:TR.oks σ b ts){ι:Nat->Nat}{m:Nat->Prop}(D:∀s A,σ.cd s=Ik A->m (ι s)):∀s∈TR.slotss ts,m (ι s):=λs hs=>by
 obtain⟨_,cs,q⟩:=TR.slots_obj u s hs;exact D s cs q
def zA.thawP{f:FuncId}{ts:List TR}{s b:Nat}(hs:σ.cd s=Ik (TR.pvs ts))(u:TR.oks σ b ts)
  (c:∀m:Nat->Nat,zA P f [.fp (.ptr (m s) 0) (TR.fzs m ts)] σ.bare λv _=>uV v/\K v σ):zA P f [.ptr s 0] σ K:=by
 refine zA.thaw (args2:=λm=>[.fp (.ptr (m s) 0) (TR.fzs m ts)]) (λι=>rfl) (λ{ι Z E h} r A=>⟨⟨⟨rfl,.inr ⟨ι s,0,rfl,A s _ hs,?_⟩⟩,?_⟩,Is⟩) c
 .have q:=(r.cd s _ hs).1;rw[<-TR.ers_fz zj u]at q;exact QW q rfl
 .exact(TR.voks r u (TR.slotZ u A)).mono (λo D=>⟨D,rfl⟩) (YQ _)
def zA.thawV{f:FuncId}{ts:List TR}{b:Nat}(u:TR.oks σ b ts)
  (c:∀m,zA P f [.agg (TR.fzs m ts)] σ.bare λv _=>uV v/\K v σ):zA P f [.agg (TR.pvs ts)] σ K:=
 zA.thaw (args2:=λm=>[.agg (TR.fzs m ts)]) (λι=>by simp only[kA,er,TR.ers_fz ι u]) (λr D=>⟨(TR.voks r u (TR.slotZ u D)).mono (λo A=>⟨A,rfl⟩) (YQ _),Is⟩) c
end
end Go.Ab
namespace Go.Proofs
open Go.Ab
variable{B:Nat}{h σ:dj}{K:PV->dj->Prop}
section
open Go.RowKit Go.Ab Go.Lie Go.Grp
variable{w0 w:World}{j:jv}{hh:dN}{s:List UInt8}
def zNc(m:MR B w0 j hh w):∃n,w.cell? ⟨3,0,none⟩=Ik (.int .i64 n):=by
 obtain⟨n,u⟩:=m.gd.num;have h:=m.gd.lt;exact⟨n,(m.below.cell (p:=⟨gdM,0,none⟩) (UK (by decide:gdM<=3) h)).trans u⟩
def zRj(m:MR B w0 j hh w):∃t v,w.cell? ⟨1,0,none⟩=Ik (.iface t v):=by
 obtain⟨t,v,u⟩:=m.gd.syn;have h:=m.gd.lt;exact⟨t,v,(m.below.cell (p:=⟨gdS,0,none⟩) (UK (by decide:gdS<=3) h)).trans u⟩
def zRn(m:MR B w0 j hh w):∃t v,w.cell? ⟨2,0,none⟩=Ik (.iface t v):=by
 obtain⟨t,v,u⟩:=m.gd.rng;have h:=m.gd.lt;exact⟨t,v,(m.below.cell (p:=⟨gdR,0,none⟩) (UK (by decide:gdR<=3) h)).trans u⟩
def nG(sep s:List UInt8):List (List UInt8):=(Lib.splitB ⟨sep.toArray⟩ 0 (Lib.countB ⟨s.toArray⟩ ⟨sep.toArray⟩) ⟨s.toArray⟩).map λq=>q.data.toList
def zD5(sep:ByteArray):∀(k:Nat) (s:ByteArray),∀q∈Lib.splitB sep 0 k s,q.size<=s.size
 |0,s,q,hq=>by
  rw[Lib.splitB,YW]at hq;rw[hq];exact sB _
 |k+1,s,q,hq=>by
  rw[Lib.splitB]at hq;split at hq
  .rw[YW]at hq;rw[hq];exact sB _
  .rcases Yq.1 hq with rfl|hq
   .rw[ByteArray.size_extract];omega
   .have:=zD5 sep k _ q hq
    rw[ByteArray.size_extract]at this;omega
def zAD{sep:List UInt8}:∀q∈nG sep s,(Tw q)<=Tw s:=λq u=>by
 obtain⟨b,m,rfl⟩:=YD.1 u
 have:=zD5 _ _ _ b m
 exact this
def Q0{sep:List UInt8}(m:1<=Tw sep):(nG sep s).length=Lib.countB ⟨s.toArray⟩ ⟨sep.toArray⟩+1/\(nG sep s).length<=Tw s+1:=by
 have e:(nG sep s).length=Lib.countB ⟨s.toArray⟩ ⟨sep.toArray⟩+1:=by
  rw[nG,Yj];exact Lib.splitB_all ⟨sep.toArray⟩ (by simpa [ByteArray.size]using m) 0 _ _ rfl
 have:=Lib.countB_le ⟨sep.toArray⟩ (by simpa [ByteArray.size]using m) _ ⟨s.toArray⟩ (sB _)
 refine⟨e,?_⟩;rw[e];have u:(⟨s.toArray⟩:ByteArray).size=Tw s:=by simp[ByteArray.size]
 omega
def zA9{sep:List UInt8}(hs:(Tw s)<=1048576)(u:1<=Tw sep)(A:K (.sl σ.bY 0 (nG sep s).length (.cm (nG sep s).length)) (σ.cb (nU (nG sep s)))):zA Tp 51 [.str s,.str sep] σ K:=by
 refine zA.quietN (l:=nG sep s) (ty:=9) (λι Z h r H B w0 j w cargs m E=>?_) A;obtain⟨_,_,rfl,rfl,_,_,rfl,rfl,rfl⟩:=E;obtain⟨n,D⟩:=zNc m;refine(Tryz.strings_Split ⟨s.toArray⟩ ⟨sep.toArray⟩ n w (by simp[ByteArray.size];omega) D (by simpa [ByteArray.size]using u)).mono ?_
 rintro e w' ⟨rfl,rfl⟩
 refine⟨w,Below.refl _ _,by rw[(Q0 u).1],?_⟩;congr 3;rw[nG,UR];apply JI;intro q _;rfl
def zF2{sep:List UInt8}(hs:(Tw s)<=1048576)(u:K (.tup [.str (Lib.cut s sep).1,.str (Lib.cut s sep).2.1,.bool (Lib.cut s sep).2.2]) σ):zA Tp 106 [.str s,.str sep] σ K:=by
 refine zA.quietV (v:=.tup [.str (Lib.cut s sep).1,.str (Lib.cut s sep).2.1,.bool (Lib.cut s sep).2.2]) (λZ h n=>⟨Is,Is,Is,Is⟩) (λι Z h r E B w0 j w cargs m D=>?_) u;obtain⟨_,_,rfl,rfl,_,_,rfl,rfl,rfl⟩:=D;obtain⟨n,A⟩:=zNc m;refine(Tryz.strings_Cut ⟨s.toArray⟩ ⟨sep.toArray⟩ n w (by simp[ByteArray.size];omega) A).mono ?_
 rintro e w' ⟨rfl,k,rfl⟩
 exact⟨⟨_,rfl,[_,_,_],⟨_,_,rfl,rfl,_,_,rfl,rfl,_,_,rfl,rfl,rfl⟩,rfl⟩,below_drewN (Below.refl _ _) _⟩
def zBf(hs:(Tw s)<=1048576)(I:(∀v,Lib.parseIntB 64 s≠.ok v)->∀n:Int,K (.tup [.int .i64 n,.err false]) σ)(Q:∀v,Lib.parseIntB 64 s=.ok v->K (.tup [.int .i64 v,.err Im]) σ):zA Tp 52 [.str s,.int .i64 10,.int .i64 64] σ K:=by
 have S:(⟨s.toArray⟩:ByteArray).size=Tw s:=by simp[ByteArray.size]
 cases hp:Lib.parseIntB 64 s with
 |ok v=>
  refine zA.quietV (v:=.tup [.int .i64 v,.err Im]) (λZ h n=>⟨Is,Is,Is⟩) (λι Z h r J B w0 j w cargs m u=>?_) (Q v hp);obtain⟨_,_,rfl,rfl,_,_,rfl,rfl,_,_,rfl,rfl,rfl⟩:=u;refine(Tryz.strconv_ParseInt_10_at64_ok ⟨s.toArray⟩ aH v hp w).mono ?_
  rintro e w' ⟨rfl,R⟩
  refine⟨⟨_,rfl,[_,_],⟨_,_,rfl,rfl,_,_,rfl,rfl,rfl⟩,rfl⟩,?_⟩;rcases R with rfl|⟨t,rfl⟩
  .exact Below.refl _ _
  .exact Lib.bytesWorld_below _ _ _
 | «syntax»=>
  refine zA.quietV (v:=.tup [.int .i64 0,.err false]) (λZ h n=>⟨Is,Is,Is⟩) (λι Z h r J B w0 j w cargs m u=>?_) (I (λv e=>by rw[hp]at e;cases e) 0);obtain⟨_,_,rfl,rfl,_,_,rfl,rfl,_,_,rfl,rfl,rfl⟩:=u;obtain⟨H,E,D⟩:=zRj m;refine(Tryz.strconv_ParseInt_10_at64_syntax ⟨s.toArray⟩ aH hp _ w D (.inr ⟨H,E,rfl⟩)).mono ?_
  rintro e w' ⟨N,rfl,_,_,A⟩
  exact⟨⟨_,rfl,[_,_],⟨_,_,rfl,rfl,_,_,rfl,⟨_,_,rfl⟩,rfl⟩,rfl⟩,A⟩
 |range=>
  refine zA.quietV (v:=.tup [.int .i64 (Lib.intSat 64 s),.err false]) (λZ h n=>⟨Is,Is,Is⟩) (λι Z h r J B w0 j w cargs m u=>?_) (I (λv e=>by rw[hp]at e;cases e) _);obtain⟨_,_,rfl,rfl,_,_,rfl,rfl,_,_,rfl,rfl,rfl⟩:=u;obtain⟨H,E,D⟩:=zRn m;refine(Tryz.strconv_ParseInt_10_at64_range ⟨s.toArray⟩ aH hp _ w D (.inr ⟨H,E,rfl⟩)).mono ?_
  rintro e w' ⟨N,rfl,_,_,A⟩
  exact⟨⟨_,rfl,[_,_],⟨_,_,rfl,rfl,_,_,rfl,⟨_,_,rfl⟩,rfl⟩,rfl⟩,A⟩
end
section
open Go.RowKit
set_option maxRecDepth 100000
def ltN(c:Nat):Int:=if c<97 then 65-(c:Int)-1 else(c:Int)-97+1
def rwF(k:Int):V1->List UInt8->Option V1
 |acc,[]=>Ik acc
 |acc,c::r=>if c.toNat<65\/ltN c.toNat=0\/¬(-k<=ltN c.toNat/\ltN c.toNat<=k)then none else rwF k (acc++[ltN c.toNat]) r
def zRC:(Tryz.prog.info? 2).map (λi=>(i.zero,i.size,i.bytes))=Ik (Ik (.int .i64 0),1,8):=by kernel_rfl
def zKk:Tryz.prog.underlying 36=Ik (.slice 2):=by kernel_rfl
def zP3{s:List UInt8}{q:Nat}{c:UInt8}(h:s[q]? = Ik c):s.drop q=c::s.drop (q+1):=by
 obtain⟨m,rfl⟩:=Yg.1 h;simp
def zSR(k:Int)(s:List UInt8)(w:World)(e:Ending)(w':World):Prop:=(∃v t xs,e=.returned (.tuple #[v,.bool t])/\w'.ownsRow (w.heap.size+1) 2 1 v (Tw xs) (xs.map (Value.int .i64))/\(t=Im->s≠[]/\rwF k [] s=Ik xs)/\(t=false->xs=[]/\(s=[]\/rwF k [] s=none)))/\Below w.heap.size w w'
set_option maxHeartbeats 1600000 in
def zLF(k:Int)(df:0<=k)(bm:k<=1000)(s:List UInt8)(hs:(Tw s)<=1048576)(w:World)(h1:s≠[49]):
  Calls Tp 158 #[.int .i64 k,.string ⟨s.toArray⟩] w λe w'=>zSR k s w e w':=by
 obtain⟨i0,hi,V,Y,fO⟩:=info_parts zRC;have X:(⟨s.toArray⟩:ByteArray).size=Tw s:=by simp[ByteArray.size]
 have W:=Lib.run_convert_string_bytes (P:=Tp) w 9 22 5 ⟨s.toArray⟩ (u:=.string) (by kernel_rfl) (by kernel_rfl) (by kernel_rfl);have hB:∀j,j<Tw s->(Lib.bytesWorld w 5 ⟨s.toArray⟩).cell? ⟨w.heap.size,j,none⟩=Ik (.int .u8 (s.getD j 0).toNat):=λj A=>by
  have:=Lib.bytesWorld_cell w 5 ⟨s.toArray⟩ j (by rw[X];exact A)
  exact this
 have Q:=Lib.bytesWorld_below w 5 ⟨s.toArray⟩;have fF:=Lib.bytesWorld_size w 5 ⟨s.toArray⟩;rw[X]at W;have Gu:(s == [49])=false:=by simpa using h1
 generalize Lib.bytesWorld w 5 ⟨s.toArray⟩=W1 at *
 generalize grownCap w (Tw s) 0 5=gc at *
 go_enter Tryz.func158,Tryz.ntmps158
 go_wp2
 go_loopw [6,15] (λv i wr=>∃q xs,q<=Tw s/\i=.int .i64 (q:Nat)/\Tw xs=q/\rwF k xs (s.drop q)=rwF k [] s/\wr.ownsRow (w.heap.size+1) 2 1 v (Tw xs) (xs.map (Value.int .i64))/\Below (w.heap.size+1) W1 wr) (λ_ i _=>(Tw s)-(intOf i).toNat)
 case atStart=>exact⟨0,[],YQ _,rfl,rfl,rfl,World.ownsRow_nil _ _ _ _,Below.refl _ _⟩
 case round=>
  obtain⟨q,xs,hq,rfl,I,m,E,D⟩:=hrel;have Nt:=D.size;by_cases gK:q<Tw s
  .obtain⟨c,hc⟩:∃c,s[q]? = Ik c:=⟨s[q],na gK⟩
   have S:wr.cell? ⟨w.heap.size,q,none⟩=Ik (.int .u8 c.toNat):=by
    rw[D.cell (by show w.heap.size<w.heap.size+1;omega),hB q gK,YK,hc];rfl
   rw[zP3 hc,rwF]at m;have c0:=c.toNat_lt;obtain⟨n,hn⟩:∃n,n=c.toNat:=⟨_,rfl⟩
   rw[<-hn]at S m c0;have HN:Hid (n=c.toNat):=Lib.hid hn;clear hn hB W hc;by_cases U:n<97
   .have Ir:(n:Int)<97:=aH
    have el:ltN n=65-(n:Int)-1:=by unfold ltN;rw[Iu U]
    rw[el]at m
    go_wp2_with (first
     |(at_builtin;refine wpList_append_own _ rfl _ _ 36 rfl (w.heap.size+1) 2 i0 (.int .i64 0) 1 8 zKk hi V Y fO rfl Tx _ _ _ rfl (E.alloc _) ⟨wr.heap.size,0,none⟩ 1 1 [.int .i64 (65-(n:Int)-1)] rfl rfl ?c1 ?c2 ?c3 ?c4 ?c5 ?c6)
     |go_in)
    case c1=>
     intro j u A
     match j,A with
     |0,A=>simp at A;subst A;simp[Addr.add]
    case c2=>intro u hu;simp at hu;subst hu;rfl
    case c3=>unfold maxLen;omega
    case c4=>omega
    case c5=>simp;omega
    case c6=>
     intro v' w1 R J _;rw[Iv (by simp_all;omega)]at m;have T:Below (w.heap.size+1) W1 w1:=(D.alloc aH _).grown J (by simp;omega) (λj A=>(E.lt j A).1);clear J E D S
     go_wp2
     go_roundw
     case rel=>exact⟨q+1,xs++[65-(n:Int)-1],aH,by go_num,by simp[I],m,by simpa [I]using R,T⟩
     case measure=>simp[intOf];omega
    all_goals
     go_ret2
     rw[Iu (by simp_all;omega)]at m;exact⟨⟨_,false,[],rfl,World.ownsRow_nil _ _ _ _,(λh=>by cases h),λ_=>⟨rfl,.inr m.symm⟩⟩,Q.trans (D.mono (Yb _))⟩
   .have Ir:¬(n:Int)<97:=aH
    have el:ltN n=(n:Int)-97+1:=by unfold ltN;rw[Iv U]
    rw[el]at m
    go_wp2_with (first
     |(at_builtin;refine wpList_append_own _ rfl _ _ 36 rfl (w.heap.size+1) 2 i0 (.int .i64 0) 1 8 zKk hi V Y fO rfl Tx _ _ _ rfl (E.alloc _) ⟨wr.heap.size,0,none⟩ 1 1 [.int .i64 ((n:Int)-97+1)] rfl rfl ?d1 ?d2 ?d3 ?d4 ?d5 ?d6)
     |go_in)
    case d2=>rfl
    case d3=>unfold maxLen;omega
    case d4=>omega
    case d5=>omega
    case d6=>
     intro v' w1 R J _;rw[Iv (by simp_all;omega)]at m;have T:Below (w.heap.size+1) W1 w1:=(D.alloc aH _).grown J (by simp;omega) (λj A=>(E.lt j A).1);clear J E D S
     go_wp2
     go_roundw
     case rel=>exact⟨q+1,xs++[(n:Int)-97+1],aH,by go_num,by simp[I],m,by simpa [I]using R,T⟩
     case measure=>simp[intOf];omega
    all_goals
     go_ret2
     rw[Iu (by simp_all;omega)]at m;exact⟨⟨_,false,[],rfl,World.ownsRow_nil _ _ _ _,(λh=>by cases h),λ_=>⟨rfl,.inr m.symm⟩⟩,Q.trans (D.mono (Yb _))⟩
  .have e:q=Tw s:=aH
   subst e;rw[List.drop_length,rwF]at m;have mG:=Q.trans (D.mono (Yb _));by_cases H:s=[]
   .have j9:(s == [])=Im:=by simpa using H
    go_wp2
    go_ret2
    refine⟨⟨_,false,xs,?_,E,(λh=>by cases h),λ_=>⟨YM (by rw[I,H];rfl),.inl H⟩⟩,mG⟩;simp[H]
   .have j9:(s == [])=false:=by simpa using H
    go_wp2
    go_ret2
    refine⟨⟨_,Im,xs,?_,E,λ_=>⟨H,m.symm⟩,λh=>by cases h⟩,mG⟩;simp[H]
end
end Go.Proofs
namespace Go.Ab
open Go.RowKit
variable{B n:Nat}{σ:dj}
section
variable{P:Program}{w0 w w':World}{j:jv}{h:dN}{ι:Nat->Nat}{Z:Nat->Prop}
def MR.newAt(J:MR B w0 j h w)(T:Below w.heap.size w w'){cells:List AV}{cur:Array Value}{ty:TypeId}{room g:Nat}(W:w.heap.size<=g)(Q:w'.heap[g]? = Ik (.cells cur ty (0,0)))(S:cells.all AV.one=Im)
  (H:oy j cells (cur.toList.take (Tw cells))) (R:room<=cur.size):
  MR B w0 (j.put h.bY ⟨g,0,room⟩) (h.cb ⟨Im,cells⟩) w'/\FR j h (j.put h.bY ⟨g,0,room⟩) (h.cb ⟨Im,cells⟩):=by
 have old:∀{p:Nat} {A:u2} {l:Loc},h.cd p=Ik A->j p=Ik l->l.blk<w.heap.size:=by
  intro p A l a b;obtain⟨cur,ty,fz,D,_⟩:=(J.cd p A l a b).row;exact(YA.1 D).1
 have V:=J.bnd;have m:=J.quiet T;have hle:=m.put_le ⟨g,0,room⟩;refine⟨⟨m.below,m.bnd,m.gd,?_,?_,?_⟩,?_⟩
 .intro o u;simp only[dN.cb]at u;simp only[dN.cb,jv.put,Iv (show ¬o=h.bY by omega)];exact m.fresh o aH
 .intro o A l u hl;by_cases e:o=h.bY
  .subst e;simp only[dN.cb,if_true,YR]at u;simp only[jv.put,if_true,YR]at hl;subst u;subst hl;refine⟨S,cur,ty,(0,0),Q,λi v I=>?_,λ_=>⟨rfl,by simpa using R,by show B<=g;omega⟩,λx=>by cases x⟩;obtain⟨E,a,b⟩:=H.get I;refine⟨E,?_,VI.mono hle _ _ b⟩;rw[Y3]at a;split at a
   .simpa using a
   .cases a
  .simp only[dN.cb,Iv e]at u;simp only[jv.put,Iv e]at hl;have k:=m.cd o A l u hl;obtain⟨cur,ty,fz,D,H,U⟩:=k.row;exact⟨k.one,cur,ty,fz,D,λi v I=>by obtain⟨E,a,b⟩:=H i v I;exact⟨E,a,VI.mono hle _ _ b⟩,U⟩
 .intro o o' A j5 l l' aj u di hl cu eE;by_cases e:o=h.bY
  .have e':o'≠h.bY:=λx=>aj (e.trans x.symm);subst e;simp only[jv.put,if_true,YR]at hl;simp only[jv.put,Iv e']at cu;simp only[dN.cb,Iv e']at di
   have:=old di cu
   subst hl;show g≠_;omega
  .simp only[dN.cb,Iv e]at u;simp only[jv.put,Iv e]at hl;by_cases e':o'=h.bY
   .subst e';simp only[jv.put,if_true,YR]at cu
    have:=old u hl
    subst cu;show _≠g;omega
   .simp only[dN.cb,Iv e']at di;simp only[jv.put,Iv e']at cu;exact m.apart o o' A j5 l l' aj u di hl cu eE
 .refine⟨by simp[dN.cb],λo u=>?_,λo u _=>?_⟩
  .simp[jv.put,Jn u]
  .simp[dN.cb,Jn u]
def zIi(j:jv):∀l:V1,oy j (l.map (AV.int .i64)) (l.map (Value.int .i64))
 |[]=>rfl
 |q::l=>⟨_,_,rfl,rfl,zIi j l⟩
def zEl(ι:Nat->Nat):∀l:V1,kA ι (eh l)=l.map (AV.int .i64)
 |[]=>rfl
 |q::l=>by simp only[eh,Yw,kA,er];rw[show kA ι (l.map (PV.int .i64))=l.map (AV.int .i64) from zEl ι l]
def zIh{n:Nat}:∀l:V1,fQ Z h n (eh l)
 |[]=>trivial
 |_::l=>⟨Is,zIh l⟩
def zA.quietI{f:FuncId}{args:List PV}{K:PV->dj->Prop}
  (H:∀(ι:Nat->Nat) (Z:Nat->Prop) (h:dN),Rel ι Z σ h->fQ Z h σ.bY args->∀(B:Nat) (w0:World) (j:jv) (w:World) (cargs:List Value),MR B w0 j h w->oy j (kA ι args) cargs->
   Calls P f cargs.toArray w λe w'=>(∃v t xs b ty,e=.returned (.tuple #[v,.bool t])/\w.heap.size<=b/\w'.ownsRow b ty 1 v (Tw xs) (xs.map (Value.int .i64))/\(xs=[]->K (.tup [Tt,.bool t]) σ)/\∀cap,full 1 cap (Tw xs)->K (.tup [.sl σ.bY 0 (Tw xs) cap,.bool t]) (σ.cb (eh xs)))/\Below w.heap.size w w'):zA P f args σ K:=by
 intro ι Z h r va B w0 j w cargs m vi;refine(H ι Z h r va B w0 j w cargs m vi).mono ?_
 rintro e w' ⟨⟨v,t,xs,b,ty,rfl,Y,S,T,U⟩,D⟩
 rcases S.2 with ⟨rfl,R⟩|⟨g,c,cur,rfl,X,E,hle,W,Q,A⟩
 .have hx:xs=[]:=YM R;exact⟨er ι (.tup [Tt,.bool t]),h,j,_,rfl,FR.refl _ _,m.quiet D,⟨_,⟨_,_,rfl,rfl,_,_,rfl,rfl,rfl⟩,rfl⟩,.tup [Tt,.bool t],σ,ι,Z,r,⟨sB _,sB _,λ_ _=>rfl,λo u=>⟨u,rfl⟩,λ_ _ x=>x,λs cs hs u=>by rw[r.wf s hs]at u;cases u⟩,⟨⟨.inl ⟨rfl,rfl,rfl⟩,Is⟩,Is,Is⟩,rfl,T hx⟩
 .obtain⟨r2,I⟩:=r.cb (cs:=eh xs) (zIh xs);rw[KE]at Q A;obtain⟨V,J⟩:=m.newAt D (cells:=kA ι (eh xs)) (cur:=cur) (ty:=ty) (room:=c) (g:=g) aH E (by rw[zEl];simp[List.all_map];intro q _;rfl) (by
   rw[zEl,Yj,A];exact zIi j xs) aH
  exact⟨.tup [.sl h.bY 0 (Tw xs) (.grown 1),.bool t],_,_,_,rfl,J,V,⟨_,⟨_,_,rfl,⟨⟨g,0,c⟩,c,0,by simp[jv.put],rfl,hle,.inl rfl,λ_ _=>bj⟩,_,_,rfl,rfl,rfl⟩,rfl⟩,.tup [.sl σ.bY 0 (Tw xs) (.grown 1),.bool t],_,_,Z,r2,I,⟨YB _,Is,Is⟩,by simp[er,kA,qt],U _ (.inl rfl)⟩
end
end Go.Ab
namespace Go.Proofs
open Go.Ab Go.Lie Go.Grp
variable{cs:List PV}{N b i j k n r t:Nat}{h h' h2 σ:dj}{c iE iM iO uC uO uP v v' v2 vC vD vO vP vX:PV}{K:PV->dj->Prop}{O O' O2 a x xs y:V1}{M P P' P2:V2}{C C' L:V3}
section
open Go.RowKit
variable{s:List UInt8}
def rdF(k:Int)(s:List UInt8):Option V1:=if s=[49]then Ik []else if s=[]then none else rwF k [] s
def zLG(k:Int)(w:World):Calls Tp 158 #[.int .i64 k,.string ⟨#[49]⟩] w λe w'=>e=.returned (.tuple #[.slice none 0 0,.bool Im])/\w'=w:=by
 go_enter Tryz.func158,Tryz.ntmps158
 go_wp2
 go_ret2
 exact⟨rfl,rfl⟩
def zD8{k:Int}(J:0<=k)(H:k<=1000)(hs:(Tw s)<=1048576)(V:rdF k s=none->∀v,FI v []->K (.tup [v,.bool false]) σ)(E:∀v x,rdF k s=Ik x->FI v x->K (.tup [v,.bool Im]) σ):zA Tp 158 [.int .i64 k,.str s] σ K:=by
 have fin:∀{t:Bool} {xs:V1},(∀v,FI v xs->K (.tup [v,.bool t]) σ)->(xs=[]->Gh σ K (.tup [Tt,.bool t]) σ)/\∀cap,full 1 cap (Tw xs)->Gh σ K (.tup [.sl σ.bY 0 (Tw xs) cap,.bool t]) (σ.cb (eh xs)):=λ{t xs} D=>by
  refine⟨λR=>?_,λcap T=>ft.fin_tf (zB _ _) ⟨σ.bY,cap,rfl,T,by rw[zC,Iu rfl],by rw[zK,KE],sB _,YB _⟩ D⟩;exact Gh.ret (D _ ⟨Im,.cU,by rw[R];rfl⟩)
 refine zA.gh (zA.quietI λι Z h r va B w0 j w cargs m vi=>?_);obtain⟨_,_,rfl,rfl,_,_,rfl,rfl,rfl⟩:=vi;by_cases A:s=[49]
 .subst A;refine(zLG k w).mono ?_
  rintro e w' ⟨rfl,rfl⟩
  have f:=fin (t:=Im) (xs:=[]) λv u=>E v [] (Iu rfl) u;exact⟨⟨_,Im,[],w'.heap.size,2,rfl,sB _,World.ownsRow_nil _ _ _ _,f.1,f.2⟩,Below.refl _ _⟩
 have Q:rdF k s=if s=[]then none else rwF k [] s:=Iv A
 refine(zLF k J H s hs w A).mono ?_
 rintro e w' ⟨⟨v,t,xs,rfl,U,W,X⟩,S⟩
 refine⟨⟨v,t,xs,w.heap.size+1,2,rfl,Yb _,U,?_⟩,S⟩;cases t
 .obtain⟨I,q5⟩:=X rfl;subst I;refine fin λv u=>V ?_ v u;grind
 .obtain⟨Y,q4⟩:=W rfl;exact fin λv u=>E v xs (by rw[Q,Iv Y];exact q4) u
def zMq{k:Int}:∀(s:List UInt8) (acc:V1) {xs:V1},rwF k acc s=Ik xs->(∀x∈acc,-k<=x/\x<=k/\x≠0)->(∀x∈xs,-k<=x/\x<=k/\x≠0)/\Tw xs=(Tw acc)+Tw s
 |[],acc,xs,e,ha=>by rw[rwF]at e;cases e;exact⟨ha,bj⟩
 |c::r,acc,xs,e,ha=>by
  rw[rwF]at e;split at e
  .cases e
  .next hn=>
   have:=zMq r _ e λx m=>by
    grind
   grind
def zRo{k:Int}(e:rdF k s=Ik xs):(∀x∈xs,-k<=x/\x<=k/\x≠0)/\Tw xs<=Tw s:=by
 unfold rdF at e;split at e
 .simp_all
 .split at e
  .cases e
  .have:=zMq s [] e λx m=>by cases m
   exact⟨this.1,by rw[this.2];simp⟩
def exF(n:Nat)(s:List UInt8):Option V1:=match rdF n s with|none=>none|some xs=>Ei (Jf n 0) xs
def zMf{n:Nat}{ok:Bool}(hn:n<=6)(hx:∀a∈x,-(n:Int)<=a/\a<=(n:Int)/\a≠0)(hl:(Tw x)<=1048576)
  (X:Ei (Jf n 0) x=none->∀h,dq σ h->K (.tup [Tt,.bool false]) h) (U:∀A,Ei (Jf n 0) x=Ik A->(Tw A)=n->K (.tup [.sl σ.bY 0 n (.cm n),.bool ok]) (σ.cb (eh A)))
  (hw:zA Tp 158 [.int .i64 n,.str s] σ λv h=>(∃u,FI u x/\v=.tup [u,.bool ok])/\h=σ):zA Tp 107 [.int .i64 n,.str s] σ K:=by
 refine Tn Tryz.func107 ?_;refine Tq ?_;refine hw.mono ?_
 rintro _ g ⟨⟨_,⟨w,a,rfl⟩,rfl⟩,hg⟩
 obtain rfl:=hg.symm;simp only[Z3,seval,-ae,zi,E4 (n:=n) aH,Go.Ab.zx (n:=n) aH];refine zF (λm vs h=>∃(i:Nat) (A:V1),i<=Tw x/\m=Tw x-i/\vs=[.bool ok,.sl σ.bY 0 n (.cm n),.fz w a (Tw x) (eh x),.int .i64 (Tw x),.int .i64 i]/\Tw A=n/\(∀y∈A,0<=y/\y<=(i:Int))/\Ei A (x.drop i)=Ei (Jf n 0) x/\h=σ.cb (eh A)) (Tw x) ?_ ?_
 .exact⟨0,Jf n 0,YQ _,rfl,rfl,bj,λy Q=>by simp_all,rfl,rfl⟩
 rintro m vs h ⟨i,A,hi,rfl,rfl,R,Q,D,rfl⟩
 refine Tq ?_;refine Tr (λan=>?_) λE=>?_
 .rw[Yr aH,Ei]at D;exact U A D.symm R
 have J:(i:Int)<(Tw x:Int):=aH
 rw[rX E,Ei]at D;have H:(eh x)[i]? = Ik (.int .i64 x[i]):=by rw[zJ,gi E];rfl
 have xb:=hx _ (ss E);have wi:=WX E;simp only[Z3,seval,-ae,E,J,H];refine fi (λV=>?_) λT=>?_
 .rw[Iu V]at D;exact X D.symm _ (zB _ _)
 obtain⟨j,hj⟩:∃j:Nat,x[i]=(j:Int)+1:=⟨(x[i] - 1).toNat,aH⟩
 rw[Iv T]at D;have eW:j<n:=aH
 have W:(j:Int)<(n:Int):=aH
 have I:j<Tw A:=aH
 rw[hj]at H;have w1:Tu .i64 ((j:Int)+1-1)=(j:Int):=WQ
 have yb:=Q _ (ss I);have w2:Tu .i64 (A[j] + 1)=A[j] + 1:=WE;have gy:(eh A)[j]? = Ik (.int .i64 A[j]):=by rw[zJ,gi I];rfl
 have wr:(σ.cb (eh A)).wr σ.bY j [.int .i64 (A[j] + 1)]=Ik ((σ.cb (eh A)).set σ.bY (eh (A.set j (A[j] + 1)))):=zAm (by rw[zC,Iu rfl]) I;have Y:(σ.cb (eh A)).set σ.bY (eh (A.set j (A[j] + 1)))=σ.cb (eh (A.set j (A[j] + 1))):=by
  unfold dj.set dj.cb;simp_all
 have rd:(σ.cb (eh A)).gv σ.bY j=Ik (.int .i64 A[j]):=by rw[zH (by rw[zC,Iu rfl])];exact gy
 rw[Y]at wr;have jO:(x[i] - 1).toNat=j:=aH
 have S:A.getD j 0=A[j]:=by simp_all
 rw[jO,S]at D;generalize hG:σ.cb (eh A)=G at *
 simp only[Z3,seval,-ae,E,J,H,hj,w1,eW,W,rd,w2,wr,wi];refine⟨_,aH,i+1,A.set j (A[j] + 1),aH,rfl,rfl,by rw[Yx];exact R,λy AG=>?_,D,rfl⟩;grind
def zBz{n:Nat}(H:n<=6)(hs:(Tw s)<=1048576)(A:exF n s=none->∀v h,dq σ h->v.one=Im->K (.tup [v,.bool false]) h)(R:∀m,exF n s=Ik m->(Tw m)=n->K (.tup [.sl σ.bY 0 n (.cm n),.bool Im]) (σ.cb (eh m))):zA Tp 107 [.int .i64 n,.str s] σ K:=by
 cases hr:rdF n s with
 |none=>
  have e:exF n s=none:=by unfold exF;rw[hr]
  refine zMf (x:=[]) (ok:=false) H (λa J=>by cases J) (YQ _) (λ_ h D=>A e _ h D rfl) (λm I E=>A e _ _ (zB _ _) rfl) ?_;exact zD8 aH aH hs (λ_ v u=>⟨⟨v,u,rfl⟩,rfl⟩) λv x e' _=>by rw[hr]at e';cases e'
 |some xs=>
  have e:exF n s=Ei (Jf n 0) xs:=by unfold exF;rw[hr]
  have Q:=zRo hr;refine zMf (x:=xs) (ok:=Im) H Q.1 aH (λe' h D=>A (e.trans e') _ h D rfl) (λm I E=>R m (e.trans I) E) ?_;exact zD8 aH aH hs (λe' v u=>by rw[hr]at e';cases e') λv x e' u=>by rw[hr]at e';cases e';exact⟨⟨v,u,rfl⟩,rfl⟩
def geF(n:Nat)(s:List UInt8):Option Nat:=match s with|[c]=>if 97<=c.toNat/\c.toNat-97<n then Ik (c.toNat-97)else none|_=>none
def zDK{n i:Nat}(e:geF n s=Ik i):i<n:=by
 unfold geF at e;grind
def ZZ{n:Nat}(S:n<=1000)(hs:(Tw s)<=1048576)(H:geF n s=none->K (.tup [.int .i64 0,.bool false]) σ)(Q:∀i:Nat,geF n s=Ik i->K (.tup [.int .i64 i,.bool Im]) σ):zA Tp 108 [.int .i64 n,.str s] σ K:=by
 refine Tn Tryz.func108 ?_;by_cases I:(Tw s)=1;rotate_left
 .have d1:¬((Tw s:Nat):Int)=1:=aH
  simp only[Z3,seval,-ae,d1];refine H ?_;unfold geF;split
  .next c=>exact absurd rfl I
  .rfl
 obtain⟨c,rfl⟩:∃c,s=[c]:=List.length_eq_one_iff.1 I;have u:((1:Nat):Int)=1:=rfl;have D:geF n [c]=if 97<=c.toNat/\c.toNat-97<n then Ik (c.toNat-97)else none:=rfl
 have R:=c.toNat_lt;have E:[c][(0:Int).toNat]? = Ik c:=rfl;by_cases h2:c.toNat<97
 .have m:((c.toNat:Nat):Int)<97:=aH
  simp only[Z3,seval,-ae,u,E,m,OD,Og];exact H (by rw[D,Iv aH])
 have m:¬((c.toNat:Nat):Int)<97:=aH
 have w1:IntKind.u8.wrap ((c.toNat:Int)-97)=((c.toNat-97:Nat):Int):=by rw[Zx aH aH];omega
 have w2:Tu .i64 ((c.toNat-97:Nat):Int)=((c.toNat-97:Nat):Int):=WE;by_cases J:n<=c.toNat-97
 .have A:(n:Int)<=((c.toNat-97:Nat):Int):=aH
  simp only[Z3,seval,-ae,u,E,m,w1,w2,A,J,OD,Og];exact H (by rw[D,Iv aH])
 have A:¬(n:Int)<=((c.toNat-97:Nat):Int):=aH
 simp only[Z3,seval,-ae,u,E,m,w1,w2,A,J,OD,Og];exact Q _ (by rw[D,Iu ⟨aH,aH⟩])
end
section
variable{s:Nat}{L:Nat->Nat}
def zQD{s off l:Nat}{cap:nK}{xs:V1}(I:σ.rd s off l=Ik (eh xs))(hs:s<σ.bY)(H:l=Tw xs)(J:(Tw xs)<=1000000)(E:∀cap,full 1 cap (Tw xs)->K (.sl σ.bY 0 (Tw xs) cap) (σ.cb (eh xs))):zA Tp 156 [.sl s off l cap] σ K:=by
 subst H;refine To Tryz.func156 ?_;refine Tq ?_;refine ft.app (b:=0) (bytes:=8) (σb:=σ) (n:=0) (cs:=[]) (m:=(Tw xs)) (news:=eh xs) (zB σ _) (YQ _) (ft.cb _ 1 rfl (sB _)) rfl (λD=>?_) (by rw[zK];omega) aH aH λv' h' A u=>?_
 .rw[qO,Iv D,Iu (sB _),KE];rw[ZC,Iv aH];exact I
 .simp only[Z3,seval,-ae]at u ⊢;exact u.out A (zO _ _) E
def CloR(g m:dj)(O:V1)(v:PV):Prop:=dq g m/\((O=[]/\v=Tt)\/∃cap,full 1 cap (Tw O)/\v=.sl g.bY 0 (Tw O) cap/\m.cd g.bY=Ik (eh O)/\g.bY<m.bY)
set_option maxHeartbeats 1600000 in
def Q9(hlen:nN vX=Ik (.int .i64 (Tw O)))(hb:(Tw O)<=900)
  (dD:∀{g:dj} {K':PV->dj->Prop},dq σ g->(∀v g',CloR g g' O v->K' v g')->zA Tp 156 [vX] g K')
  (hk:∀L h vO vP vC,dq σ h->PX L σ.bY h O (E5 (Tw O) (Tw O)) (Ed (Tw O) (Tw O)) vO vP vC->K (.agg [vO,vP,vC]) h):zA Tp 105 [vX] σ K:=by
 refine Tn Tryz.func105 ?_;simp only[Z3,seval,-ae,hlen];refine dD (zB _ _) λvO H R=>?_;have W:=R.1;have eG:=W.bY;have ON:σ.bY+1<=H.bY:=eG;have o1:vO.one=Im:=by rcases R.2 with ⟨_,rfl⟩|⟨_,_,rfl,_⟩<;>rfl
 have o2:vO.cells=[vO]:=by rcases R.2 with ⟨_,rfl⟩|⟨_,_,rfl,_⟩<;>rfl
 have bK:H.cd σ.bY=Ik [Tt,Tt,Tt]:=by rw[W.cd σ.bY (YB _),zC,Iu rfl]
 simp only[Z3,seval,-ae,o1,o2];generalize hn:(Tw O)=n at *
 refine zF (λm vs h=>∃(i:Nat) (L:Nat->Nat) (vP vC:PV),i<=n/\m=n-i/\vs=[.ptr σ.bY 0,.int .i64 n,.ptr H.bY 0,.int .i64 n,.int .i64 i]/\EZ σ h O L (E5 n i) (Ed n i) σ.bY H.bY vO vP vC) n ?_ ?_
 .obtain⟨T,jb⟩:∃T:Nat->Nat,T=λt=>if t=σ.bY+1/\t<H.bY then 5 else 7:=⟨_,rfl⟩
  refine⟨0,T,_,_,YQ _,rfl,rfl,(((zB _ _).trans W).cb _),by rw[zC,Iv aH];exact bK,by simp only[Z3,seval,-ae],⟨?_,.inl ⟨rfl,rfl⟩,.inl ⟨rfl,rfl⟩⟩,by rw[jb];exact Iv aH,by rw[jb];exact Iv aH,aH,⟨sB _,by show σ.bY<H.bY+1;omega⟩,⟨aH,by show H.bY<H.bY+1;omega⟩⟩;rcases R.2 with e|⟨cap,hc,e,q1,q2⟩
  .exact .inl e
  .have DM:σ.bY+1<H.bY:=q2;exact .inr ⟨σ.bY+1,cap,e,hc,by rw[zC,Iv aH];exact q1,aH,by show σ.bY+1<H.bY+1;omega,by rw[jb];exact Iu ⟨rfl,DM⟩⟩
 rintro m vs h ⟨i,L,vP,vC,hi,rfl,rfl,a⟩
 have jg:=a.ns.2;refine Tq ?_;refine Tr (λan=>?_) λaf=>?_
 .have e:i=n:=aH
  subst e;obtain⟨e1,e2,e3,e4⟩:=a.fin;simp only[Z3,seval,-ae,a.r3,e1,e2];exact hk L _ _ _ vC e3 e4
 have n1:¬H.bY=h.bY:=aH
 have n2:¬H.bY=h.bY+1:=aH
 simp only[Z3,seval,-ae,a.r1,n1,n2,zi,E4 (n:=n) aH,Go.Ab.zx (n:=n) aH];have u:=a.fresh (eh (Jf n 0)) 8;have Q:kI (l6 L h.bY 8) (h.cb (eh (Jf n 0))) σ.bY 8 (Jf n 0) (.sl h.bY 0 n (.cm n)):=kI.freshN bj aH (by simp[full]);refine PX.pushP u.pw Q u.c7 (sB _) (by show σ.bY<=h.bY+1;omega) (by rw[zF3];omega) λD E L1 k1 I X MP m1=>?_;rw[zHZ]at I;have iI:=u.old m1;have w1:E.wr H.bY 1 [D]=Ik (E.set H.bY [vO,D,vC]):=by rw[zL iI,Iu ⟨bj,by simp[I.hP.one]⟩];rfl
 have J:=u.step k1 I (Ye X) m1;have xR:h.bY+1<E.bY:=X;have wi:Tu .i64 ((i:Int)+1)=((i+1:Nat):Int):=WQ
 simp only[Z3,seval,-ae,w1,I.hP.cells,wi];generalize lj:E.set H.bY [vO,D,vC]=g2 at *
 have jS:H.bY<g2.bY:=by rw[<-lj];show _<E.bY;omega
 clear iI w1 m1 I k1 Q u a MP;refine zF (λm vs h=>∃(j:Nat) (L:Nat->Nat) (vR:PV),i+1<=j/\j<=n/\m=n-j/\vs=[.ptr σ.bY 0,.int .i64 n,.ptr H.bY 0,vR,.int .i64 j,.int .i64 n,.int .i64 i]/\EZ σ h O L (E5 n (i+1)) (Ed n i) σ.bY H.bY vO D vC/\DE L h σ.bY (10+i) (trJ n i (j-(i+1))) vR) (n-(i+1)) ?_ ?_
 .exact⟨i+1,_,_,sB _,af,rfl,rfl,J,.inl ⟨by rw[Yh];rfl,rfl⟩⟩
 clear J lj X xR
 rintro m vs h ⟨j,L,vR,tu,hj,rfl,rfl,a,S⟩
 have jg:=a.ns.2;have n1:¬H.bY=h.bY:=aH
 refine Tq ?_;refine Tr (λan=>?_) λjO=>?_
 .have e:j=n:=aH
  subst e;simp only[Z3,seval,-ae,a.r2,S.one,S.cells];refine PX.pushC a.pw (by rw[Qy];exact S) a.c7 (sB _) aH (by rw[Qy];omega) λv2 h2 U V A Y RX m2=>?_;rw[show j-(i+1)=j-1-i by omega,zHb]at A;have w2:h2.wr H.bY 2 [v2]=Ik (h2.set H.bY [vO,D,v2]):=by rw[zL (a.old m2),Iu ⟨bj,by simp[A.hC.one]⟩];rfl
  have J:=a.step V A (Ye Y) m2;simp only[Z3,seval,-ae,w2,A.hC.cells,wi];exact⟨_,aH,i+1,U,D,v2,aH,rfl,rfl,J⟩
 refine Tq ?_;refine zCW aH jO λbG cK=>?_;have u:=a.fresh (eh (iS n j)) 8;have Q:kI (l6 L h.bY 8) (h.cb (eh (iS n j))) σ.bY 8 (iS n j) (.sl h.bY 0 n bG):=kI.freshN (zg n j) aH cK;refine Tq ?_;refine DE.push (k:=10+i) (S.keepF _ 8) aH Q u.c7 (sB _) (by show σ.bY<=h.bY+1;omega) (by rw[zF4];omega) λv2 h2 U V A Y lQ vK _=>?_;have e:iS n j=iS n (i+1+(j-(i+1))):=by rw[show i+1+(j-(i+1))=j by omega]
 rw[e,zHa]at A;have wj:Tu .i64 ((j:Int)+1)=((j+1:Nat):Int):=WQ
 simp only[Z3,seval,-ae,wj];refine⟨_,aH,j+1,U,v2,aH,aH,rfl,rfl,u.keepM V (Ye Y) (i:=i) vK lQ (by rw[Qy];exact sB _),?_⟩;rw[show j+1-(i+1)=j-(i+1)+1 by omega];exact .inr A
end
section
variable{L:Nat->Nat}{s:List UInt8}
def zKw{g:dj}(I:fB b 1 h v (Tw O) (eh O))(H:(Tw O)<=1000000)(D:dq h g)(A:∀v m,CloR g m O v->K v m):zA Tp 156 [v] g K:=by
 have fin:∀cap,full 1 cap (Tw O)->K (.sl g.bY 0 (Tw O) cap) (g.cb (eh O)):=λcap u=>A _ _ ⟨zB _ _,.inr ⟨cap,u,rfl,by rw[zC,Iu rfl],YB _⟩⟩;rcases I with ⟨rfl,E,_⟩|⟨T,cap,rfl,u,J,R,S,Q⟩
 .have e:O=[]:=YM E;subst e;exact zQE (xs:=[]) rfl bj ⟨λ_=>A _ _ ⟨dq.refl _,.inl ⟨rfl,rfl⟩⟩,fin⟩
 .have:=D.bY
  exact zQD (by rw[zN (by rw[D.cd _ Q];exact J),J0,Iu (by rw[zK];omega),YU (by rw[zK];exact sB _)]) aH rfl H fin
def fB.pLen1(m:fB b 1 h v t cs):nN v=Ik (.int .i64 t):=by
 rcases m with ⟨rfl,rfl,_⟩|⟨u,cap,rfl,_⟩<;>rfl
mutual
def zKN{b':Nat}(m:b'<=b):∀{t:TR},t.ok h b->t.ok h b'
 | .leaf v,a=>a
 | .nil,_=>trivial
 | .lst s cap kids,a=>⟨⟨a.1.1,a.1.2.1,Yv m a.1.2.2.1,a.1.2.2.2⟩,zB8 m a.2⟩
 | .cut s off l cap kids,a=>a.elim
 | .agg kids,a=>zB8 (ts:=kids) m a
 | .tup kids,a=>zB8 (ts:=kids) m a
def zB8{b':Nat}(m:b'<=b):∀{ts:List TR},TR.oks h b ts->TR.oks h b' ts
 |[],_=>trivial
 |t::ts,a=>⟨zKN m a.1,zB8 m a.2⟩
end
def PX.finO2b{e:Bool}(a:PX L b h O P C vO vP vC)(X:dq σ h)(W:σ.bY<=b)(k:∀H I E t,eQ H I E O P C->kz σ.top t [H,I,E]->σ.top<=t->K (.tup [.agg [H,I,E],.bool e]) (σ.up t)):Gh σ K (.tup [.agg [vO,vP,vC],.bool e]) h:=by
 obtain⟨u,A,D,R,rfl,rfl,rfl,S,U⟩:=a.treeN;have Q:(TR.tup [TR.agg [u,A,D],.leaf (.bool e)]).pv=.tup [.agg [u.pv,A.pv,D.pv],.bool e]:=by simp only[TR.pv,TR.pvs]
 rw[<-Q];refine Gh.treeO X (zKN W (t:=TR.tup [TR.agg [u,A,D],.leaf (.bool e)]) ⟨R,Is,Is⟩) ?_ λJ T m V=>?_
 .simpa only[TR.cY,TR.slotss,YL]using U
 .simp only[TR.fz,TR.fzs]at m ⊢;refine k _ _ _ T (S J) ⟨m.wh.1,?_,λo q=>m.lt o ?_⟩ V
  .have:=m.nd
   simp only[F3,lH,YL]at this ⊢;exact this
  .simp only[F3,lH,YL]at q ⊢;exact q
def zy:V1->List (List UInt8)->Option V1
 |acc,[]=>Ik acc
 |acc,q::r=>match Lib.parseIntB 64 q with | .ok v=>zy (acc++[v]) r|_=>none
def orI(m:List UInt8):Option V1:=if m=[49]then Ik []else zy [] (nG [32] m)
def relK(n:Nat)(P:V2)(C:V3)(v:V1)(j:Nat)(i:Option Nat):V2×V3:=
 match i with
 |none=>(P.set j v,C)
 |some i=>if i<j then(P,C.set i ((C.getD i []).set (j-i-1) v))else(P,C)
def F7(n:Nat)(P:V2)(C:V3)(s:List UInt8):Option (V2×V3):=
 match exF n (Lib.cut s [61]).2.1 with
 |none=>none
 |some v=>match geF n (Lib.cut (Lib.cut s [61]).1 [94]).1 with
  |none=>none
  |some j=>Ik (relK n P C v j (geF n (Lib.cut (Lib.cut s [61]).1 [94]).2.1))
def foldI(n:Nat):V2×V3->List (List UInt8)->Option (V2×V3)
 |pc,[]=>Ik pc
 |pc,s::r=>match F7 n pc.1 pc.2 s with|none=>none|some lz=>foldI n lz r
def lpJ(O:V1)(r:List (List UInt8)):Option (V1×V2×V3):=
 if 6<(Tw O) then none else match foldI (Tw O) (E5 (Tw O) (Tw O),Ed (Tw O) (Tw O)) r with|none=>none|some pc=>Ik (O,pc.1,pc.2)
def lpH(O:Option V1)(r:List (List UInt8)):Option (V1×V2×V3):=match O with|none=>none|some O=>lpJ O r
def E3(s:List UInt8):Option (V1×V2×V3):=lpH (orI ((nG [59,32] s).getD 0 [])) ((nG [59,32] s).drop 1)
def Sq.sz(q:Sq O P C)(D:(Tw O)<=6):ti O P C:=by
 refine⟨aH,⟨by rw[q.pl];omega,λr m=>by have:=q.pq r m;omega⟩,⟨by rw[q.cl];omega,λw u=>⟨?_,λr m=>by have:=q.cq w u r m;omega⟩⟩⟩;obtain⟨i,A,rfl⟩:=YE.1 u
 have:=q.row i (by rw[<-q.cl];exact A)
 grind
def relQ(n:Nat)(P:V2)(C:V3)(v:Option V1)(j i:Option Nat):Option (V2×V3):=
 match v with
 |none=>none
 |some v=>match j with
  |none=>none
  |some j=>Ik (relK n P C v j i)
def zQW(n:Nat)(P:V2)(C:V3)(s:List UInt8):F7 n P C s=relQ n P C (exF n (Lib.cut s [61]).2.1) (geF n (Lib.cut (Lib.cut s [61]).1 [94]).1) (geF n (Lib.cut (Lib.cut s [61]).1 [94]).2.1):=rfl
def zFt(s p:List UInt8):(Lib.cut s p).1.length<=Tw s/\(Lib.cut s p).2.1.length<=Tw s:=by
 unfold Lib.cut;split
 .simp only[Ym,Ys];omega
 .exact⟨sB _,YQ _⟩
set_option maxHeartbeats 3200000 in
def zCp(hs:(Tw s)<=1048576)(aj:(nG [59,32] s).getD 0 []≠[49])(df:(∀O P C,E3 s=Ik (O,P,C)->zI O P C->u0 O P C≠s)->K (.tup [.agg [Tt,Tt,Tt],.bool false]) σ)
  (bm:∀wO wP wC O P C t,E3 s=Ik (O,P,C)->zI O P C->u0 O P C=s->eQ wO wP wC O P C->kz σ.top t [wO,wP,wC]->σ.top<=t->K (.tup [.agg [wO,wP,wC],.bool Im]) (σ.up t)):zA Tp 53 [.str s] σ K:=by
 have fin0:∀{g:dj},dq σ g->g.cd σ.bY=Ik [Tt,Tt,Tt]->(∀O P C,E3 s=Ik (O,P,C)->zI O P C->u0 O P C≠s)->
   g.wr σ.bY 0 [Tt,Tt,Tt]=Ik (g.set σ.bY [Tt,Tt,Tt])/\(g.set σ.bY [Tt,Tt,Tt]).rd σ.bY 0 3=Ik [Tt,Tt,Tt]/\
   Gh σ K (.tup [.agg [Tt,Tt,Tt],.bool false]) (g.set σ.bY [Tt,Tt,Tt]):=λ{g} D ho e=>
  ⟨by rw[zL ho,Iu ⟨bj,rfl⟩];rfl,by rw[zZ,Iu rfl];rfl,Gh.fin0 (D.set (sB _) _) ⟨⟨Is,Is,Is,Is⟩,Is,Is⟩ (df e)⟩
 have no:∀{A:Prop},E3 s=none->∀O P C,E3 s=Ik (O,P,C)->zI O P C->u0 O P C≠s:=λ{_} e O P C e'=>by rw[e]at e';cases e'
 refine To Tryz.func53 ?_;refine Tq ?_;refine zA9 (sep:=[59,32]) hs Tx ?_;have eS:E3 s=lpH (orI ((nG [59,32] s).getD 0 [])) ((nG [59,32] s).drop 1):=rfl;have sl:=Q0 (s:=s) (sep:=[59,32]) Tx;have jq:=zAD (s:=s) (sep:=[59,32]);have DJ:1<=(nG [59,32] s).length:=by rw[sl.1];omega
 have Bn:=sl.2;clear sl;generalize nG [59,32] s=l at *
 have z0:(0:Int)<(Tw l:Int):=aH
 have ma:0<Tw l:=aH
 rw[show l.getD 0 []=l[0] by simp_all]at eS aj;have Y:((σ.cb [Tt,Tt,Tt]).cb (nU l)).cd (σ.bY+1)=Ik (nU l):=by simp only[Z3,seval,-ae]
 have U:((σ.cb [Tt,Tt,Tt]).cb (nU l)).cd σ.bY=Ik [Tt,Tt,Tt]:=by simp only[Z3,seval,-ae]
 have V:dq σ ((σ.cb [Tt,Tt,Tt]).cb (nU l)):=(zB _ _).cb _;have AT:σ.bY+1<((σ.cb [Tt,Tt,Tt]).cb (nU l)).bY:=by show σ.bY+1<σ.bY+2;omega
 have dk:((σ.cb [Tt,Tt,Tt]).cb (nU l)).gv (σ.bY+1) 0=Ik (.str l[0]):=by rw[zH Y];exact qm ma
 rw[show(σ.cb [Tt,Tt,Tt]).bY=σ.bY+1 from rfl];generalize (σ.cb [Tt,Tt,Tt]).cb (nU l)=h at *
 have h1:¬l[0]=[49]:=aj;have Ey:E3 s=lpH (zy [] (nG [32] l[0])) (l.drop 1):=by rw[eS,orI,Iv h1]
 clear eS;have j9:l[0].length<=1048576:=by have:=jq _ (ss ma);omega
 have bne:(l[0] == [49])=false:=by simpa using h1
 simp only[Z3,seval,-ae,z0,ma,dk,bne];refine zA9 (sep:=[32]) j9 Tx ?_;have tl:=Q0 (s:=l[0]) (sep:=[32]) Tx;have EM:=zAD (s:=l[0]) (sep:=[32]);have LV:=tl.2;clear tl;generalize nG [32] l[0]=ws at *
 have Cf:(h.cb (nU ws)).cd (σ.bY+1)=Ik (nU l):=by rw[zC,Iv aH];exact Y
 have AK:(h.cb (nU ws)).cd σ.bY=Ik [Tt,Tt,Tt]:=by rw[zC,Iv aH];exact U
 have mj:(h.cb (nU ws)).cd h.bY=Ik (nU ws):=by rw[zC,Iu rfl]
 have jA:dq σ (h.cb (nU ws)):=V.cb _;have Cz:σ.bY+1<(h.cb (nU ws)).bY/\h.bY<(h.cb (nU ws)).bY:=⟨by show _<h.bY+1;omega,YB _⟩
 generalize h.cb (nU ws)=h0 at *
 refine Tq ?_;refine zF (λm vs g=>∃(i:Nat) (v:PV) (O:V1),i<=Tw ws/\m=Tw ws-i/\vs=[.str s,.ptr σ.bY 0,.sl (σ.bY+1) 0 (Tw l) (.cm (Tw l)),v,.sl h.bY 0 (Tw ws) (.cm (Tw ws)),.int .i64 (Tw ws),.int .i64 i]/\Tw O=i/\dq h0 g/\fB h0.bY 1 g v (Tw O) (eh O)/\zy O (ws.drop i)=zy [] ws) (Tw ws) ?_ ?_
 .exact⟨0,_,[],YQ _,rfl,rfl,rfl,dq.refl _,fB.nil _ _ _,rfl⟩
 clear V Y U dk
 rintro m vs g ⟨i,v,O,hi,rfl,rfl,uw,D,hv,u⟩
 have V:dq σ g:=jA.trans D;have Y:g.cd (σ.bY+1)=Ik (nU l):=by rw[D.cd _ Cz.1];exact Cf
 have U:g.cd σ.bY=Ik [Tt,Tt,Tt]:=by rw[D.cd _ aH];exact AK
 have bh:=hv.one;simp only[Z3,seval,-ae,bh];refine fi (λS=>?_) λan=>?_
 .have ah:(i:Int)<(Tw ws:Int):=aH
  have rq:g.gv h.bY i=Ik (.str ws[i]):=by rw[zH (by rw[D.cd _ Cz.2];exact mj)];exact qm S
  have vH:=EM _ (ss S);rw[rX S,zy]at u;have wi:=WX S;simp only[Z3,seval,-ae,S,ah,rq,bh];refine zBf aH (λW n=>?_) λn W=>?_
  .obtain⟨E,H,I⟩:=fin0 V U (no (A:=True) (by
    rw[Ey,<-u];cases J:Lib.parseIntB 64 ws[i]with
    |ok v=>exact absurd J (W v)
    | «syntax»=>rfl
    |range=>rfl))
   simp only[Z3,seval,-ae,E,H];exact I
  rw[W]at u;simp only[Z3,seval,-ae,bh];refine fB.push (bytes:=8) D hv aH aH λv' g' k' a'=>?_;have mI:=a'.one;simp only[Z3,seval,-ae,mI,wi];have e:eh (O++[n])=eh O++[.int .i64 n]:=by simp[eh]
  exact⟨_,aH,i+1,v',O++[n],aH,rfl,rfl,by rw[cO,uw];rfl,k',by rw[e,cO];exact .inr a',u⟩
 rw[Yr aH,zy]at u;rw[<-u]at Ey;have Am:E3 s=lpJ O (l.drop 1):=Ey;clear Ey u;have v7:=D.bY;have yG:σ.bY+1<g.bY:=aH
 have jl:fB σ.bY 1 g v (Tw O) (eh O):=hv.low (by have:=jA.bY;omega);clear AT bh hv D jA Cf AK mj an;generalize N7:g=h9 at *
 have hl:=fB.pLen1 jl;have Ck:=jl.one;by_cases h6:6<Tw O
 .have d6:(6:Int)<(Tw O:Int):=aH
  obtain⟨E,H,I⟩:=fin0 V U (no (A:=True) (by rw[Am,lpJ,Iu h6]));simp only[Z3,seval,-ae,Ck,hl,d6,E,H];exact I
 have d6:¬(6:Int)<(Tw O:Int):=aH
 rw[lpJ,Iv h6]at Am;have eF:∀pc,foldI (Tw O) (E5 (Tw O) (Tw O),Ed (Tw O) (Tw O)) (l.drop 1)=pc->E3 s=match pc with|none=>none|some pc=>Ik (O,pc.1,pc.2):=λpc e=>by rw[Am,e]
 clear Am;simp only[Z3,seval,-ae,Ck,hl,d6];refine Q9 hl aH (λ{g K'} D k'=>zKw jl aH D k') λL h2 vO vP vC X p2=>?_;have mw:=X.bY;have J:=tr_sq O;have a:=An.start p2 (r:=σ.bY) aH (by rw[X.cd _ aH];exact U) X.bY;have o1:=p2.hO.one;have o2:=p2.hP.one;have o3:=p2.hC.one;have b1:1<=Tw l:=aH
 have Bd:(1:Int)<=(Tw l:Int):=aH
 have e1:((Tw l:Int)-1).toNat=Tw l-1:=aH
 obtain⟨of,pV⟩:∃of,of=if (Tw l)=1 then 0 else 1:=⟨_,rfl⟩
 have pU:1<Tw l->of=1:=λh=>by rw[pV,Iv aH]
 simp only[Z3,seval,-ae,o1,o2,o3,b1,Bd,<-pV,Option.isNone_none,Kx,JM,and_false,if_false,e1];clear pV;refine zF (λm vs g=>∃(i:Nat) (L:Nat->Nat) (P:V2) (C:V3),i<=Tw l-1/\m=Tw l-1-i/\vs=[.str s,.ptr σ.bY 0,.int .i64 (Tw O),.ptr h2.bY 0,.sl (σ.bY+1) of (Tw l-1) (.cm (Tw l-1)),.int .i64 (Tw l-1:Nat),.int .i64 i]/\dq h9 g/\An h9.bY g O L P C σ.bY h2.bY vO vP vC/\Sq O P C/\foldI (Tw O) (P,C) (l.drop (i+1))=foldI (Tw O) (E5 (Tw O) (Tw O),Ed (Tw O) (Tw O)) (l.drop 1)) (Tw l-1) ?_ ?_
 .exact⟨0,_,_,_,YQ _,rfl,rfl,X.cb _,a,J,rfl⟩
 clear a p2 X J
 rintro m vs g ⟨i,L,P,C,hi,rfl,rfl,D,a,J,u⟩
 have kσ:dq σ g:=V.trans D;have v7:=D.bY;have Gv:g.cd (σ.bY+1)=Ik (nU l):=by rw[D.cd _ yG];exact Y
 refine Tq ?_;refine fi (λS=>?_) λan=>?_
 .have ah:(i:Int)<((Tw l-1:Nat):Int):=aH
  have wE:i+1<Tw l:=aH
  have rq:g.gv (σ.bY+1) (of+i)=Ik (.str l[i+1]):=by rw[zH Gv,pU aH,show 1+i=i+1 by omega];exact qm wE
  have yq:=jq _ (ss wE);rw[rX wE,foldI]at u;have wi:=WX S;simp only[Z3,seval,-ae,S,ah,rq];generalize l[i+1]=q at *
  refine zF2 (sep:=[61]) aH ?_;refine Tq ?_;have c1:=zFt q [61];have er:F7 (Tw O) P C q=relQ (Tw O) P C (exF (Tw O) (Lib.cut q [61]).2.1) (geF (Tw O) (Lib.cut (Lib.cut q [61]).1 [94]).1) (geF (Tw O) (Lib.cut (Lib.cut q [61]).1 [94]).2.1):=zQW _ _ _ _;refine zF2 (sep:=[94]) aH ?_;refine Tq ?_;have c2:=zFt (Lib.cut q [61]).1 [94];generalize (Lib.cut (Lib.cut q [61]).1 [94]).2.1=q3 at *
  generalize (Lib.cut (Lib.cut q [61]).1 [94]).1=q2 at *
  generalize (Lib.cut q [61]).2.1=q1 at *
  refine zBz (n:=(Tw O)) aH aH (λee v h3 k3 v1=>?_) λT ee iq=>?_
  .rw[ee]at er;rw[er]at u;have eN:=eF none u.symm;have R:=a.c7 k3;have uX:=kσ.trans k3;simp only[Z3,seval,-ae,v1];refine ZZ (n:=(Tw O)) aH aH (λ_=>?_) λj _=>?_
   .obtain⟨E,H,I⟩:=fin0 uX R.res (no (A:=True) eN);simp only[Z3,seval,-ae,E,H];exact I
   .obtain⟨E,H,I⟩:=fin0 uX R.res (no (A:=True) eN);simp only[Z3,seval,-ae,E,H];exact I
  rw[ee]at er;have R:=a.fresh (eh T) 8;have aE:kI (l6 L g.bY 8) (g.cb (eh T)) h9.bY 8 T (.sl g.bY 0 (Tw O) (.cm (Tw O))):=kI.freshN iq v7 (by simp[full]);have uX:=kσ.cb (eh T);have mf:=D.cb (eh T);have NH:g.bY<(g.cb (eh T)).bY:=YB _;generalize Kh:g.cb (eh T)=g3 at *
  refine Tq ?_;refine ZZ (n:=(Tw O)) aH aH (λeg=>?_) λj eg=>?_
  .rw[eg]at er;rw[er]at u;have eN:=eF none u.symm;obtain⟨E,H,I⟩:=fin0 uX R.res (no (A:=True) eN);simp only[Z3,seval,-ae,E,H];exact I
  rw[eg]at er;have hj:=zDK eg;have Eb:(j:Int)<(Tw O:Int):=aH
  refine Tq ?_;refine ZZ (n:=(Tw O)) aH aH (λei=>?_) λQ ei=>?_
  .rw[ei]at er;rw[er]at u;obtain⟨sP,cap,ds,L2,eP,w1,w2,w3,a4⟩:=R.putP (by rw[J.pl];exact hj) aE;rw[J.pl]at eP;subst eP;simp only[Z3,seval,-ae,R.r1,hj,Eb,w3,wi];exact⟨_,aH,i+1,L2,_,_,aH,rfl,rfl,mf.set w1 _,a4,sq_P J iq _,u⟩
  rw[ei]at er;have ju:=zDK ei;have Hl:(Q:Int)<(Tw O:Int):=aH
  by_cases tu:Q<j
  .have yR:(Q:Int)<(j:Int):=aH
   rw[er,relQ,relK,Iu tu]at u;have Ka:j-Q-1<Tw O-1-Q:=aH
   have Hc:((j-Q-1:Nat):Int)<((Tw O-1-Q:Nat):Int):=aH
   have wk:Tu .i64 ((j:Int)-(Q:Int))=(j:Int)-(Q:Int):=WE;have dY:Tu .i64 ((j:Int)-(Q:Int)-1)=((j-Q-1:Nat):Int):=WQ
   obtain⟨sC,cap,t,aq,ds,L2,eC,rC,w1,w2,w3,w4,w5,a4⟩:=R.putC (by rw[J.cl];exact ju) (by rw[J.row Q ju];exact Ka) aE;rw[J.cl]at eC;subst eC;rw[J.row Q ju]at rC;simp only[Z3,seval,-ae,yR,R.r2,rC,ju,Hl,Ka,Hc,wk,dY,w5,wi];exact⟨_,aH,i+1,L2,_,_,aH,rfl,rfl,mf.set w3 _,a4,sq_C J iq _ _,u⟩
  .have yR:¬(Q:Int)<(j:Int):=aH
   rw[er,relQ,relK,Iv tu]at u;simp only[Z3,seval,-ae,yR,wi];exact⟨_,aH,i+1,_,_,_,aH,rfl,rfl,mf,R,J,u⟩
 have tB:E3 s=Ik (O,P,C):=eF (Ik (P,C)) (by rw[<-u,Yr aH,foldI]);have un:∀{O' P' C'},E3 s=Ik (O',P',C')->O'=O/\P'=P/\C'=C:=λ{O' P' C'} e=>by rw[tB]at e;cases e;exact⟨rfl,rfl,rfl⟩
 obtain⟨t1,t2,t3,dJ,rfl,rfl,rfl,dH,Cu⟩:=a.pw.treeN;simp only[Z3,seval,-ae,a.r3];refine zA.thawV (ts:=[t1,t2,t3]) dJ λaa=>QK (dH aa) (J.sz aH) λt ht=>⟨Is,?_⟩
 cases t
 .obtain⟨E,H,I⟩:=fin0 kσ a.res (λO' P' C' e W=>by grind);simp only[Z3,seval,-ae,E,H];exact I
 refine Tq ?_;refine zA.thawP (ts:=[t1,t2,t3]) a.ob dJ λaa=>Z4 (dH aa) (ht.1 rfl) ⟨Is,?_⟩;by_cases nj:u0 O P C=s
 .obtain⟨E,H,I⟩:=a.fin;have mG:(u0 O P C == s)=Im:=by rw[nj];simp
  simp only[Z3,seval,-ae,mG,a.r3,E,H];exact I.finO2b (kσ.set (sB _) _) aH λwO wP wC t h1 h2 h3=>bm wO wP wC O P C t tB (ht.1 rfl) nj h1 h2 h3
 .obtain⟨E,H,I⟩:=fin0 kσ a.res (λO' P' C' e W=>by obtain⟨rfl,rfl,rfl⟩:=un e;exact nj);have mG:(u0 O P C == s)=false:=by simpa using nj
  simp only[Z3,seval,-ae,mG,E,H];exact I
end
instance (O x:V1):Decidable (wJ O x):=by unfold wJ;infer_instance
instance (O x:V1) (t:Nat):Decidable (ZP O t x):=by unfold ZP;infer_instance
instance (O:V1) (P:V2) (C:V3) (i:Nat):Decidable (rowPr O P C i):=by unfold rowPr;infer_instance
instance (O:V1) (P:V2) (C:V3):Decidable (zI O P C):=by unfold zI;infer_instance
def ua:List (List UInt8):=[[50],[51],[50,32,50,59,32,97,94,50,61,98],[53],[55],[50,32,51,59,32,98,94,97,61,98,98],[51,32,51,59,32,97,94,51,61,98],[50,32,50,32,50,59,32,97,94,50,61,98,59,32,98,94,50,61,99],[50,32,50,32,50,59,32,98,94,97,61,98,99],[50,32,50,32,50,59,32,97,94,50,61,99,59,32,98,94,50,61,99,59,32,98,94,97,61,98,99]]
def tstO(t:List UInt8):Bool:=
 match EA t with
 |none=>false
 |some (O,P,C)=>decide (E3 t=Ik (O,P,C)) && decide (zI O P C) && decide (u0 O P C=t) && decide ((nG [59,32] t).getD 0 []≠[49]) && decide (Tw t<=1000)
def zK5:ua.all tstO=Im:=by decide +kernel
def zRe{t:List UInt8}(m:t∈ua):∃O P C,EA t=Ik (O,P,C)/\E3 t=Ik (O,P,C)/\zI O P C/\u0 O P C=t/\(nG [59,32] t).getD 0 []≠[49]/\Tw t<=1000:=by
 have h:=Mi.1 zK5 t m;unfold tstO at h;split at h
 .cases h
 .next O P C e=>
  simp only[Yt,decide_eq_true_eq]at h;exact⟨O,P,C,e,h.1.1.1.1,h.1.1.1.2,h.1.1.2,h.1.2,h.2⟩
def tsV(t:List UInt8):sg:=(EA t).getD ([],[],[])
def zHW{t:List UInt8}(H:t∈ua):EA t=Ik (tsV t)/\E3 t=Ik (tsV t)/\zI (tsV t).1 (tsV t).2.1 (tsV t).2.2/\u0 (tsV t).1 (tsV t).2.1 (tsV t).2.2=t/\(nG [59,32] t).getD 0 []≠[49]/\Tw t<=1000:=by
 obtain⟨O,P,C,m,h2,u,A,D,E⟩:=zRe H;have e:tsV t=(O,P,C):=by unfold tsV;rw[m];rfl
 rw[e];exact⟨m,h2,u,A,D,E⟩
def HR:List sg:=ua.map tsV
def zGT:(Tw HR)=10:=rfl
def zCg{q:List UInt8}(R:q∈ua)(Q:∀u A m,eQ u A m (tsV q).1 (tsV q).2.1 (tsV q).2.2->K (.tup [.agg [u,A,m],.int .i64 0]) σ):zA Tp 78 [.str q] σ K:=by
 obtain⟨D,_,H,I,_,S⟩:=zHW R;refine zCh aH (λe=>absurd I (e _ _ _ D H)) λu A m O P C e _ _ J=>Q u A m ?_;have E:tsV q=(O,P,C):=Option.some.inj (D.symm.trans e);rw[E];exact J
def zJt(m:K (.sl σ.bY 0 10 (.cm 10)) (σ.cb (nU ua))):zA Tp 77 [] σ K:=by
 refine Tn Tryz.func77 ?_;refine Tq ?_;exact m
def zEq:∀(rows:List (PV×PV×PV)) (q:PV×PV×PV),re (rows++[q])=re rows++[q.1,q.2.1,q.2.2]
 |[],q=>rfl
 |r::rows,q=>by simp only[Yy,re,zEq rows q]
def zFN:∀{i:Nat},i<=Tw O->jW O i=iL (O.take i)
 |0,_=>by simp[jW,iL]
 |i+1,hi=>by rw[jW,zFN aH,Zg aH,gj aH]
def Cs(N:Nat):Nat->Nat
 |0=>1
 |i+1=>if Cs N i<=4096 then Cs N i*N else Cs N i
def zE6(m:N<=729):∀i,Cs N i<=2985984
 |0=>by simp[Cs]
 |i+1=>by
  have:=zE6 m i
  unfold Cs;split
  .rename_i h
   have:=Nat.mul_le_mul h m
   omega
  .exact this
def tpD(N:Nat):Nat->Nat->List Nat
 |0,_=>[]
 |i+1,t=>tpD N i (t / N)++[t % N]
def zKP:∀i t,(tpD N i t).length=i
 |0,_=>rfl
 |i+1,t=>by simp[tpD,zKP i]
def tpI(O':V1)(N n t:Nat):V2:=(tpD N n t).map (vj O' (Tw O'))
def zKO:(tpI O' N n t).length=n:=by simp[tpI,zKP]
def zRf(s:kC O' P' C'):∀y∈tpI O' N n t,gS O' y:=λy m=>by
 obtain⟨k,_,rfl⟩:=YD.1 m;exact Za s k
open Classical in
noncomputable def Ez(O:V1)(P:V2)(C:V3)(O':V1)(P':V2)(C':V3):Nat->Nat
 |0=>0
 |k+1=>Ez O P C O' P' C' k+if zMu O P C O' P' C' (tpI O' (iV O') (Tw O) k)then 1 else 0
def zKl:∀k,Ez O P C O' P' C' k<=k
 |0=>sB _
 |k+1=>by have:=zKl k;unfold Ez;split<;>omega
open Classical in
noncomputable def homC(O:V1)(P:V2)(C:V3)(O':V1)(P':V2)(C':V3):Int:=
 if (zI O P C/\Cons O P C)/\(zI O' P' C'/\Cons O' P' C')then(if 4096<Cs (iV O') (Tw O) then 3 else 0)else 1
open Classical in
noncomputable def homK(O:V1)(P:V2)(C:V3)(O':V1)(P':V2)(C':V3):Int:=
 if homC O P C O' P' C'=0 then(Ez O P C O' P' C' (Cs (iV O') (Tw O)):Int)else 0
def zIF(m:zI O P C):iV O<=729:=by
 have h:=zFN (O:=O) (i:=(Tw O)) (sB _);rw[YP]at h
 have:=m.2.2.2.2.1
 unfold iV;omega
def zC2(hn:(Tw O)<=6)(D:eQ vO vP vC O P C)(R:zI O' P' C')(u:eQ iM iE iO O' P' C')(hk:K (.int .i64 (Cs (iV O') (Tw O):Nat)) σ):zA Tp 134 [.agg [vO,vP,vC],.agg [iM,iE,iO]] σ K:=by
 have Y:=D.P.one;have g2:=D.C.one;have S:=u.O.one;have T:=u.P.one;have U:=u.C.one;have V:=R.shp;have J:=zIF R;obtain⟨W,jX⟩:=ZN V;obtain⟨⟨w0,E,rfl⟩,jU,jV⟩:=D;refine To Tryz.func134 ?_;simp only[Z3,seval,-ae,Y,g2,S,T,U];generalize A:(σ.cb [PV.fz w0 E (Tw O) (eh O),vP,vC]).cb [iM,iE,iO]=H;have kH:dq σ H:=by rw[<-A];exact(zB _ _).cb _
 have X:H.gv σ.bY 0=Ik (.fz w0 E (Tw O) (eh O)):=by rw[<-A];simp only[Z3,seval,-ae]
 have r2:H.rd (σ.bY+1) 0 3=Ik [iM,iE,iO]:=by rw[<-A];simp only[Z3,seval,-ae]
 clear A;refine zF (λm vs h=>∃(i:Nat),i<=Tw O/\m=Tw O-i/\vs=[.ptr σ.bY 0,.ptr (σ.bY+1) 0,.int .i64 (Cs (iV O') i:Nat),.int .i64 i]/\h=H) (Tw O) ?_ ?_
 .exact⟨0,YQ _,rfl,rfl,rfl⟩
 rintro m vs h ⟨i,hi,rfl,rfl,rfl⟩
 simp only[Z3,seval,-ae,X];refine Tr (λan=>?_) λI=>?_
 .obtain rfl:i=Tw O:=aH
  exact Gh.fin0 kH trivial hk
 have hb:=zE6 J i;have jS:=zE6 J (i+1);by_cases Q:Cs (iV O') i<=4096
 .have zd:(Cs (iV O') i:Int)<=4096:=aH
  have e:Cs (iV O') (i+1)=Cs (iV O') i*iV O':=by rw[Cs,Iu Q]
  have wm:Tu .i64 ((Cs (iV O') i:Int)*jW O' (Tw O'))=((Cs (iV O') (i+1):Nat):Int):=by
   rw[W,<-Uw,<-e,mn aH aH]
  simp only[Z3,seval,-ae,zd,r2,S,T,U];refine zb V u ?_;simp only[Z3,seval,-ae,wm,WX I];exact⟨_,aH,i+1,aH,rfl,rfl⟩
 .have zd:¬(Cs (iV O') i:Int)<=4096:=aH
  have e:Cs (iV O') (i+1)=Cs (iV O') i:=by rw[Cs,Iv Q]
  simp only[Z3,seval,-ae,zd,WX I];exact⟨_,aH,i+1,aH,rfl,by rw[e]⟩
def zLx(A:eQ vO vP vC O P C)(sz:ti O P C)(u:eQ iM iE iO O' P' C')(X:ti O' P' C')(m:K (.int .i64 (homC O P C O' P' C')) σ):zA Tp 133 [.agg [vO,vP,vC],.agg [iM,iE,iO]] σ K:=by
 have J:=A.O.one;have Q:=A.P.one;have R:=A.C.one;have S:=u.O.one;have T:=u.P.one;have U:=u.C.one;unfold homC at m;refine To Tryz.func133 ?_;simp only[Z3,seval,-ae,J,Q,R,S,T,U];generalize E:(σ.cb [vO,vP,vC]).cb [iM,iE,iO]=H;have I:dq σ H:=by rw[<-E];exact(zB _ _).cb _
 have r1:H.rd σ.bY 0 3=Ik [vO,vP,vC]:=by rw[<-E];simp only[Z3,seval,-ae]
 have r2:H.rd (σ.bY+1) 0 3=Ik [iM,iE,iO]:=by rw[<-E];simp only[Z3,seval,-ae]
 clear E;simp only[Z3,seval,-ae,r1,J,Q,R];refine ZB A sz λt D=>?_;cases t with
 |false=>
  refine Tq ?_;rw[Iv λh=>by have:=D.2 h.1;cases this]at m;exact Gh.fin0 I trivial m
 |true=>
 have V:=D.1 rfl;simp only[Z3,seval,-ae,r2,S,T,U];refine ZB u X λt D=>?_;cases t with
 |false=>
  refine Tq ?_;rw[Iv λh=>by have:=D.2 h.2;cases this]at m;exact Gh.fin0 I trivial m
 |true=>
 have gq:=D.1 rfl;rw[Iu ⟨V,gq⟩]at m;simp only[Z3,seval,-ae,r1,r2,J,Q,R,S,T,U];refine zC2 V.1.shp.le A gq.1 u ?_;by_cases W:4096<Cs (iV O') (Tw O)
 .have zd:(4096:Int)<(Cs (iV O') (Tw O):Int):=aH
  rw[Iu W]at m;simp only[Z3,seval,-ae,zd];exact Gh.fin0 I trivial m
 .have zd:¬(4096:Int)<(Cs (iV O') (Tw O):Int):=aH
  rw[Iv W]at m;simp only[Z3,seval,-ae,zd];exact Gh.fin0 I trivial m
def zJw(jD:zI O' P' C')(D:eQ iM iE iO O' P' C')(hn:n<=6)(ht:t<=3000000)(hk:∀v,hK v (tpI O' (iV O') n t)->K v σ):zA Tp 136 [.agg [iM,iE,iO],.int .i64 n,.int .i64 t] σ K:=by
 have J:=D.O.one;have Q:=D.P.one;have R:=D.C.one;have S:=jD.shp;have hN:=zIF jD;obtain⟨V,jX⟩:=ZN S;refine To Tryz.func136 ?_;have w0:Tu .i64 ((n:Int)-1)=(n:Int)-1:=WE;simp only[Z3,seval,-ae,J,Q,R,E4 (n:=n) aH,w0];generalize I:σ.cb [iM,iE,iO]=H;have kH:dq σ H:=by rw[<-I];exact zB _ _
 have o2:H.cd σ.bY=Ik [iM,iE,iO]:=by rw[<-I];simp only[Z3,seval,-ae]
 have dW:H.bY=σ.bY+1:=by rw[<-I];rfl
 rw[<-dW];clear I;have nv:∀c:Nat,(Jf c (Tt)).length=c:=λc=>YT;refine⟨⟨by simp;omega,aH⟩,?_⟩;refine zF (λm vs h'=>∃(c u:Nat) (cs:List PV) (A:List Nat),c<=n/\m=c/\vs=[.int .i64 u,.ptr σ.bY 0,.sl H.bY 0 n (.cm n),.int .i64 ((c:Int)-1)]/\dq H h'/\H.bY<h'.bY/\h'.cd H.bY=Ik (Jf c (Tt)++cs)/\ez FI cs (A.map (vj O' (Tw O')))/\c+Tw A=n/\tpD (iV O') c u++A=tpD (iV O') n t/\u<=t) n ?_ ?_
 .exact⟨n,t,[],[],sB _,rfl,rfl,zB H _,YB _,by rw[YL,zC,Iu rfl],ez.nil _,rfl,by rw[YL],sB _⟩
 rintro m vs h' ⟨c,u,cs,A,hc,rfl,rfl,T,NQ,s9,E,hlen,jQ,Se⟩
 have r2:h'.rd σ.bY 0 3=Ik [iM,iE,iO]:=by rw[zN (by rw[T.cd _ aH];exact o2)];rfl
 have dD:(Tw cs)=Tw A:=by have:=E.1;rwa[Yj]at this
 cases m with
 |zero=>
  simp only[Z3,seval,-ae,show ¬((0:Int)<=((0:Nat):Int)-1) by omega];have e:A=tpD (iV O') n t:=by simpa [tpD]using jQ
  have ie:n=Tw cs:=aH
  have h2:h'.cd H.bY=Ik cs:=by simpa using s9
  refine Gh.finF (kH.trans T) h2 aH (E.bI 0) (show full 1 (.cm n) n from .inr rfl).ok λo=>hk _ ⟨Im,.sl o 0 n (.cm n),cs,by rw[zKO],by rw[e]at E;exact E⟩
 |succ c=>
  have e:((c+1:Nat):Int)-1=(c:Int):=aH
  have X:¬((iV O':Nat):Int)=0:=aH
  have et:(u:Int).tmod (iV O':Int)=((u % iV O':Nat):Int):=rfl;have ed:(u:Int).tdiv (iV O':Int)=((u / iV O':Nat):Int):=rfl;have nY:u / iV O'<=u:=Nat.div_le_self _ _;have ub:u % iV O'<iV O':=Nat.mod_lt _ aH;have IJ:∀q:Nat,q<=u->Tu .i64 (q:Int)=(q:Int):=λq hq=>mn aH aH;have Dt:=IJ _ nY;have uB:Tu .i64 ((c:Int)-1)=(c:Int)-1:=WE;rw[e];have Kn:c<n:=aH
  have nE:(c:Int)<(n:Int):=aH
  have c0:(0:Int)<=(c:Int):=aH
  simp only[Z3,seval,-ae,r2,J,Q,R,c0,zR,qA];refine zb S D ?_;rw[V];simp only[Z3,seval,-ae,r2,J,Q,R,X,et,zR,qA];refine Qg S D aH λv U=>?_;obtain⟨wv,av,W⟩:=U;have U:FI v _:=⟨wv,av,W⟩;have v1:=U.one;have vc:v.cells=[v]:=by rw[W];rfl
  have hw:h'.wr H.bY c [v]=Ik (h'.set H.bY (Jf c (Tt)++(v::cs))):=by
   rw[zL s9,Iu ⟨bj,by simp[v1]⟩];congr 2;rw[UU bj,List.take_replicate,show min c (c+1)=c by omega,UX bj];simp[List.drop_replicate]
  have r3:(h'.set H.bY (Jf c (Tt)++(v::cs))).rd σ.bY 0 3=Ik [iM,iE,iO]:=by rw[zZ,Iv aH];exact r2
  have k3:dq H (h'.set H.bY (Jf c (Tt)++(v::cs))):=T.set (sB _) _;have o3:(h'.set H.bY (Jf c (Tt)++(v::cs))).cd H.bY=Ik (Jf c (Tt)++(v::cs)):=by simp[dj.set]
  have n3:(h'.set H.bY (Jf c (Tt)++(v::cs))).bY=h'.bY:=rfl;simp only[Z3,seval,-ae,v1,vc,Kn,nE,hw,r3,zR,qA];generalize h'.set H.bY (Jf c (Tt)++(v::cs))=G at *
  simp only[Z3,seval,-ae,r3,J,Q,R];refine zb S D ?_;rw[V];simp only[Z3,seval,-ae,X,ed,Dt,uB];refine⟨c,aH,c,u / iV O',v::cs,(u % iV O')::A,aH,rfl,rfl,k3,aH,o3,?_,by simp only[YF];omega,?_,aH⟩
  .refine⟨by simp[dD],λk a b Y hb=>?_⟩;cases k with
   |zero=>
    simp_all
   |succ k=>
    simp only[Yw,IU]at Y hb;exact E.2 k a b Y hb
  .rw[<-jQ,tpD,YH];rfl
open Classical in
def zAo(D:eQ vO vP vC O P C)(sz:ti O P C)(A:eQ iM iE iO O' P' C')(EP:ti O' P' C')(T:K (.tup [.int .i64 (homK O P C O' P' C'),.int .i64 (homC O P C O' P' C')]) σ):zA Tp 79 [.agg [vO,vP,vC],.agg [iM,iE,iO]] σ K:=by
 have U:=D.O.one;have E:=D.P.one;have I:=D.C.one;have Q:=A.O.one;have R:=A.P.one;have S:=A.C.one;refine To Tryz.func79 ?_;simp only[Z3,seval,-ae,U,E,I,Q,R,S];generalize J:(σ.cb [vO,vP,vC]).cb [iM,iE,iO]=H;have kH:dq σ H:=by rw[<-J];exact(zB _ _).cb _
 have r1:H.rd σ.bY 0 3=Ik [vO,vP,vC]:=by rw[<-J];simp only[Z3,seval,-ae]
 have Bp:H.gv σ.bY 0=Ik vO:=by rw[<-J];simp only[Z3,seval,-ae]
 have r2:H.rd (σ.bY+1) 0 3=Ik [iM,iE,iO]:=by rw[<-J];simp only[Z3,seval,-ae]
 clear J;simp only[Z3,seval,-ae,r1,r2,U,E,I,Q,R,S];refine zLx D sz A EP ?_;by_cases u:homC O P C O' P' C'=0;rotate_left
 .have e:homK O P C O' P' C'=0:=by unfold homK;rw[Iv u]
  rw[e]at T;simp only[Z3,seval,-ae,u,decide_false];exact Gh.fin0 kH ⟨Is,Is,Is⟩ T
 have jr:homK O P C O' P' C'=(Ez O P C O' P' C' (Cs (iV O') (Tw O)):Int):=by unfold homK;rw[Iu u]
 have Pm:(zI O P C/\Cons O P C)/\(zI O' P' C'/\Cons O' P' C'):=by
  refine Classical.byContradiction λh=>?_;unfold homC at u;rw[Iv h]at u;exact absurd u Tx
 obtain⟨V,gq⟩:=Pm;have g:LG O P C:=⟨V.1,V.2⟩;have g':LG O' P' C':=⟨gq.1,gq.2⟩;have Y:=g.s.le;have SL:=zE6 (zIF gq.1) (Tw O);have W:=D;obtain⟨⟨w0,a0,rfl⟩,jU,jV⟩:=D;rw[jr,u]at T;simp only[Z3,seval,-ae,u];refine zF (λm vs h=>∃(k:Nat),k<=Cs (iV O') (Tw O)/\m=Cs (iV O') (Tw O)-k/\vs=[.ptr σ.bY 0,.ptr (σ.bY+1) 0,.int .i64 (Ez O P C O' P' C' k:Nat),.int .i64 k]/\h=H) (Cs (iV O') (Tw O)) ?_ ?_
 .exact⟨0,YQ _,rfl,rfl,rfl⟩
 rintro m vs h ⟨k,hi,rfl,rfl,rfl⟩
 simp only[Z3,seval,-ae,r1,r2,U,E,I,Q,R,S];refine zC2 Y W gq.1 A ?_;have St:=zKl (O:=O) (P:=P) (C:=C) (O':=O') (P':=P') (C':=C') k;rcases YY k (Cs (iV O') (Tw O))with af|an;rotate_left
 .obtain rfl:k=Cs (iV O') (Tw O):=aH
  have n1:¬((Cs (iV O') (Tw O):Nat):Int)<((Cs (iV O') (Tw O):Nat):Int):=aH
  simp only[Z3,seval,-ae,n1];exact Gh.fin0 kH ⟨Is,Is,Is⟩ T
 have X:(k:Int)<((Cs (iV O') (Tw O):Nat):Int):=aH
 have wk:Tu .i64 ((k:Int)+1)=((k+1:Nat):Int):=WQ
 have wn:Tu .i64 ((Ez O P C O' P' C' k:Int)+1)=((Ez O P C O' P' C' k+1:Nat):Int):=WQ
 simp only[Z3,seval,-ae,X,r1,r2,Bp,E,I,Q,R,S,zR,qA];refine zJw gq.1 A Y aH λvD hD=>?_;have nF:=hD.one;simp only[Z3,seval,-ae,X,r1,r2,E,I,Q,R,S,nF,zR,qA];refine zGJ V.1 W g' A hD zKO (zRf g'.s) λt ht=>?_;cases t with
 |true=>
  have e:Ez O P C O' P' C' (k+1)=Ez O P C O' P' C' k+1:=by rw[Ez,Iu (ht.1 rfl)]
  simp only[Z3,seval,-ae,wk,wn];exact⟨_,aH,k+1,aH,rfl,by rw[e]⟩
 |false=>
  have e:Ez O P C O' P' C' (k+1)=Ez O P C O' P' C' k:=by rw[Ez,Iv λh=>by have:=ht.2 h;cases this];rfl
  simp only[Z3,seval,-ae,wk];exact⟨_,aH,k+1,aH,rfl,by rw[e]⟩
section
variable{s:List UInt8}{p q:sg}{G:List sg}
noncomputable def Db(p q:sg):List sg->Int×List sg×Int
 |[]=>(0,[],4)
 |r::rs=>if homC p.1 p.2.1 p.2.2 r.1 r.2.1 r.2.2≠0\/homC q.1 q.2.1 q.2.2 r.1 r.2.1 r.2.2≠0 then(0,[],3)else if homK p.1 p.2.1 p.2.2 r.1 r.2.1 r.2.2=homK q.1 q.2.1 q.2.2 r.1 r.2.1 r.2.2 then Db p q rs else(5,[p,q,r],0)
def grpP(p:sg):Prop:=zI p.1 p.2.1 p.2.2/\Cons p.1 p.2.1 p.2.2
def DRes(p q:sg)(k:Int)(G:List sg)(c:Int):Prop:=(¬(grpP p/\grpP q)/\k=0/\G=[]/\c=1)\/(grpP p/\grpP q/\Db p q HR=(k,G,c))
def zOE{m:dj}{g n:Nat}{k c:Int}{rows:List (PV×PV×PV)}(A:dq σ m)(E:m.cd g=Ik (re rows))(u:σ.bY<=g)(J:ez FI3 rows G)
  (H:∀o,σ.top<=o->o∉z8 (re rows)->σ.top<=max m.top (o+1)->K (.tup [.agg [.int .i64 k,.fz Im (.sl o 0 n (.cm n)) n (re rows),Tt],.int .i64 c]) (σ.up (max m.top (o+1)))):Gh σ K (.tup [.agg [.int .i64 k,.sl g 0 n (.cm n),Tt],.int .i64 c]) m:=by
 refine Gh.freeze (s:=g) (cs:=re rows) E u (zBy J) λo I D Q=>?_;simp only[sb,nD,kv,and_self,if_true,decide_true,sB];exact Gh.fin0T (t:=max m.top (o+1)) ((A.kill u).up (by simp only[dj.kill];omega)) (sB _) ⟨⟨Is,Is,Is,Is⟩,Is,Is⟩ λ_=>H o I D (by have:=A.top;omega)
def zI.sz(h:zI O P C):ti O P C:=by
 have m:=zMm h;have q:Sq O P C:=⟨m.pl,m.cl,λr u=>m.pe r u,m.row,λq A r u=>m.ce q A r u⟩
 exact q.sz m.le
end
section
variable{C2:V3}
def fB.high{m:Nat}(a:fB 0 1 h v m cs)(u:∀t,t<b->∀off l c,v≠.sl t off l c):fB b 1 h v m cs:=by
 rcases a with a|a
 .exact .inl a
 .exact .inr (a.high u)
def zJu(s:kC O P C)(I:eQ vO vP vC O P C)(g:LG O2 P2 C2)(D:eQ uO uP uC O2 P2 C2)(ho:jW O2 (Tw O2)<=27)(hk:∀v L,DB v L->FF (Tw O) (gS O2) L->(Tw L)<=2147483648->K v σ):zA Tp 168 [.agg [vO,vP,vC],.agg [uO,uP,uC]] σ K:=by
 have bB:=s.le;have s2:=g.s;have Cw:=s2.le;have bp:=I;have g0:=I.O.one;have g1:=I.P.one;have g2:=I.C.one;have U:=D.O.one;have V:=D.P.one;have W:=D.C.one;obtain⟨⟨S,Q,rfl⟩,_,_⟩:=I;refine To Tryz.func168 ?_;simp only[Z3,seval,-ae,g0,g1,g2,U,V,W];generalize E:(σ.cb [.fz S Q (Tw O) (eh O),vP,vC]).cb [uO,uP,uC]=H;have eG:H.bY=σ.bY+2:=by rw[<-E];rfl
 have kH:dq σ H:=by rw[<-E];exact(zB _ _).cb _
 have bK:H.cd σ.bY=Ik [.fz S Q (Tw O) (eh O),vP,vC]:=by rw[<-E];simp only[Z3,seval,-ae]
 have cM:H.cd (σ.bY+1)=Ik [uO,uP,uC]:=by rw[<-E];simp only[Z3,seval,-ae]
 clear E;have rp:∀{h:dj},dq H h->h.rd σ.bY 0 3=Ik [.fz S Q (Tw O) (eh O),vP,vC]:=λ{h} k=>by rw[zN (by rw[k.cd _ aH];exact bK)];rfl
 have rq:∀{h:dj},dq H h->h.rd (σ.bY+1) 0 3=Ik [uO,uP,uC]:=λ{h} k=>by rw[zN (by rw[k.cd _ aH];exact cM)];rfl
 have r0:∀{h:dj},dq H h->h.gv σ.bY 0=Ik (.fz S Q (Tw O) (eh O)):=λ{h} k=>by rw[zH (by rw[k.cd _ aH];exact bK)];rfl
 have wS:∀{j:Nat},j<Tw O->Tu .i64 ((j:Int)+1)=((j+1:Nat):Int):=λ{j} A=>by rw[mn aH aH];omega
 have J:∃J:Nat->List PV->dj->Prop,J=λm vs h=>∃(k:Nat) (v:PV) (rows:List PV) (M:V2),k<=Tw O/\m=Tw O-k/\vs=[.ptr σ.bY 0,.ptr (σ.bY+1) 0,v,.int .i64 k]/\Tw M=k/\(∀y∈M,gS O2 y)/\ez FI rows M/\dq H h/\(k=Tw O/\hK v M\/k<Tw O/\ft H.bY 1 h v k rows):=⟨_,rfl⟩
 obtain⟨J,hJ⟩:=J;have enter:∀{g:dj} {k:Nat} {v:PV} {rows:List PV} {M:V2},k<=Tw O->(Tw M)=k->(∀y∈M,gS O2 y)->ez FI rows M->dq H g->ft H.bY 1 g v k rows->GL (J (Tw O-k)) [.ptr σ.bY 0,.ptr (σ.bY+1) 0,v,.int .i64 k] g:=λ{g k v rows M} hk A h2 X h4 h6=>by
  by_cases hx:k=Tw O
  .obtain⟨s,cap,rfl,q1,q2,q3,q4,q5⟩:=h6;refine .fz s rows q2 (X.bI 0) λo=>.here ?_;rw[hJ];refine⟨k,.fz Im (.sl o 0 k cap) k rows,rows,M,hk,rfl,?_,A,h2,X,h4.kill q4,.inl ⟨hx,⟨Im,_,rows,by rw[A],X⟩⟩⟩;simp only[nD,sb,q1.ok,and_self,if_true]
  .refine .here ?_;grind
 refine Tq ?_;rw[<-eG];refine qF J (Tw O) (by exact enter (k:=0) (M:=[]) (YQ _) rfl (λy hy=>(by cases hy)) (ez.nil _) (zB H []) (ft.cb (h:=H) (n:=0) (cs:=[]) H.bY 1 rfl (sB _))) ?_;intro m vs h xk;rw[hJ]at xk;obtain⟨k,vk,rows,M,bm,rfl,rfl,oe,oi,ai,u,hv⟩:=xk;rcases hv with ⟨lh,hM⟩|⟨af,pa⟩;rotate_left
 .have p1:=pa.one;have T:(k:Int)<(Tw O:Int):=aH
  simp only[Z3,seval,-ae,T,p1,r0 u,rq u,U,V,W];refine QX D aH λvz fz=>?_;have z1:=fz.one;have z2:=fz.cells;simp only[Z3,seval,-ae,p1,z1,z2];refine ft.push (σb:=H) (bytes:=24) u pa aH aH λv2 h2 k2 a2=>?_;simp only[Z3,seval,-ae,a2.one,wS af];refine⟨_,?_,enter (M:=M++[zv O2]) aH (by rw[cO,oe];rfl) (λy hy=>?_) (ai.snoc fz) k2 a2⟩
  .omega
  .rcases YZ.1 hy with h|h
   .exact oi y h
   .rw[YW.1 h];exact s2.zv _
 subst lh;clear enter;have M1:=hM.one;have T:¬(Tw O)<Tw O:=Uy _;have wk:Tu .i64 ((Tw O:Int)-1)=(Tw O:Int)-1:=WE;simp only[Z3,seval,-ae,T,M1,r0 u,rp u,rq u,g0,g1,g2,U,V,W,wk];have hb:0+32 ^ (Tw O)<=2147483648:=by
  have:=O9 (show 0<32 by decide) bB
  have h2:32 ^ 6=1073741824:=by decide
  omega
 refine zFW s g ho (sB _) bp D hM oe oi (n:=0) (cs:=[]) (L:=[]) (.inr (ft.cb (h:=h) (n:=0) (cs:=[]) 0 1 rfl (YQ _))) (ez.nil _) (λY hY=>(by cases hY)) hb λv' h' n' dc L' G p' a' Ew jM=>?_;have jA:=u.trans (zB h []);have mw:=u.bY;have nsl:∀t,t<h.bY->∀off l c,PV.sl h.bY 0 0 (.cm 0)≠.sl t off l c:=λt R off l c e=>by
  simp only[PV.sl.injEq]at e;omega
 have hlen:(Tw dc)=n':=by
  rcases p' with ⟨_,A,h2⟩|⟨_,_,_,_,_,A,_⟩
  .rw[A,h2];rfl
  .omega
 have lQ:(Tw L')=n':=by rw[<-a'.1,hlen]
 have kF:dq h h':=⟨Ye G.bY,G.top,λt R=>(G.cd t (Lk R) (nsl t R)).trans (by rw[zC,Iv aH])⟩
 simp only[Z3,seval,-ae,p'.one];refine fB.fin ((kH.trans u).trans kF) (fB.high p' λt R=>G.old t (by show t<h.bY+1;omega) (nsl t aH)) (a'.bL 0) λa=>hk _ L' ⟨Im,a,dc,by rw[lQ],a'⟩ Ew aH
def zLq(s:kC O P C)(u:eQ vO vP vC O P C)(g:LG O2 P2 C2)(m:eQ uO uP uC O2 P2 C2)(ho:jW O2 (Tw O2)<=27)(U:∀v L,DB v L->FF (Tw O) (gS O2) L->(Tw L)<=2147483648->K v σ):zA Tp 124 [.agg [vO,vP,vC],.agg [uO,uP,uC]] σ K:=by
 have I:=u.O.one;have J:=u.P.one;have Q:=u.C.one;have A:=m.O.one;have D:=m.P.one;have E:=m.C.one;refine To Tryz.func124 ?_;simp only[Z3,seval,-ae,I,J,Q,A,D,E];generalize R:(σ.cb [vO,vP,vC]).cb [uO,uP,uC]=H;have V:dq σ H:=by rw[<-R];exact(zB _ _).cb _
 have rp:H.rd σ.bY 0 3=Ik [vO,vP,vC]:=by rw[<-R];simp only[Z3,seval,-ae]
 have S:H.rd (σ.bY+1) 0 3=Ik [uO,uP,uC]:=by rw[<-R];simp only[Z3,seval,-ae]
 clear R;simp only[Z3,seval,-ae,rp,S,I,J,Q,A,D,E];refine zb s u ?_;simp only[Z3,seval,-ae,rp,S,I,J,Q,A,D,E];refine zb g.s m ?_;by_cases e:jW O (Tw O)=jW O2 (Tw O2)
 .simp only[Z3,seval,-ae,e,rp,S,I,J,Q,A,D,E];refine zJu s u g m ho λv L T W X=>?_;refine Tq ?_;exact Gh.fin0 V (T.bel _) (U v L T W X)
 .simp only[Z3,seval,-ae,e];exact Gh.fin0 V trivial (U _ [] ⟨Im,.cU,[],rfl,ez.nil _⟩ (λY hY=>by cases hY) (YQ _))
def zLs(sz:ti O P C)(Q:eQ vO vP vC O P C)(ly:ti O2 P2 C2)(m:eQ uO uP uC O2 P2 C2)(W:∀c:Int,(c=0->(zI O P C/\Cons O P C)/\(zI O2 P2 C2/\Cons O2 P2 C2)/\jW O2 (Tw O2)<=27)->K (.int .i64 c) σ):zA Tp 123 [.agg [vO,vP,vC],.agg [uO,uP,uC]] σ K:=by
 have E:=Q.O.one;have I:=Q.P.one;have J:=Q.C.one;have u:=m.O.one;have A:=m.P.one;have D:=m.C.one;refine To Tryz.func123 ?_;simp only[Z3,seval,-ae,E,I,J,u,A,D];generalize R:(σ.cb [vO,vP,vC]).cb [uO,uP,uC]=H;have Y:dq σ H:=by rw[<-R];exact(zB _ _).cb _
 have rp:H.rd σ.bY 0 3=Ik [vO,vP,vC]:=by rw[<-R];simp only[Z3,seval,-ae]
 have S:H.rd (σ.bY+1) 0 3=Ik [uO,uP,uC]:=by rw[<-R];simp only[Z3,seval,-ae]
 clear R;have fin:∀c:Int,(c=0->(zI O P C/\Cons O P C)/\(zI O2 P2 C2/\Cons O2 P2 C2)/\jW O2 (Tw O2)<=27)->Gh σ K (.int .i64 c) H:=λc h=>Gh.fin0 Y trivial (W c h);simp only[Z3,seval,-ae,rp,S,E,I,J,u,A,D];refine ZB Q sz λt X=>?_;cases t
 .refine Tq ?_;exact fin 1 λh=>by cases h
 have U:=X.1 rfl;simp only[Z3,seval,-ae,rp,S,E,I,J,u,A,D];refine ZB m ly λt2 mU=>?_;cases t2
 .refine Tq ?_;exact fin 1 λh=>by cases h
 have V:=mU.1 rfl;simp only[Z3,seval,-ae,rp,S,E,I,J,u,A,D];refine zb U.1.shp Q ?_;by_cases e:27<jW O (Tw O)
 .simp only[Z3,seval,-ae,e,decide_true];exact fin 3 λh=>by cases h
 simp only[Z3,seval,-ae,e,decide_false,rp,S,E,I,J,u,A,D];refine zb V.1.shp m ?_;by_cases T:27<jW O2 (Tw O2)
 .simp only[Z3,seval,-ae,T,decide_true];exact fin 3 λh=>by cases h
 .simp only[Z3,seval,-ae,T,decide_false];exact fin 0 λ_=>⟨U,V,aH⟩
end
end Go.Proofs
