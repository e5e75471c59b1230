/- . -/
import Derived.Test.YtnfnaniemocleaaGreatEP9
open Int renaming reduceNatCast'->ae
set_option maxRecDepth 100000
set_option linter.unusedSimpArgs false
set_option linter.unusedVariables false
set_option linter.unusedSectionVars false
namespace Go.Grp
end Go.Grp
namespace Go.Proofs
open Go.Ab Go.Lie Go.Grp
variable{i j k n nC nP r s0 t:Nat}{h h' σ:PHeap}{c v vC vO vP vS vX yC yO yP:PV}{K:PV->PHeap->Prop}{O O1 O2 bs x xs:V1}{M P P1 P2:V2}{C:V3}
section
variable{b s:Nat}{L L':Nat->Nat}{Q:Nat->Prop}{len:Nat->Nat}{C1 C2:V3}{cs:List PV}
theorem RowX.mark{b':Nat}(a:RowX L h b k x v)(G:b'<=b)(E:∀t,b<=t->L' t=L t):RowX L' h b' k x v:=by
 obtain⟨s,cap,rfl,l,u,A,B,D⟩:=a;exact⟨s,cap,rfl,l,u,by omega,B,by rw[E s A];exact D⟩
theorem RowAt.mark{b':Nat}(a:RowAt L h b Q v)(u:b'<=b)(l:∀t,b<=t->L' t=L t):RowAt L' h b' Q v:=by
 obtain⟨x,q,a⟩:=a;exact⟨x,q,a.mark u l⟩
theorem MatAt.mark{b' n:Nat}(a:MatAt L h b Q k n v)(I:b'<=b)(l:∀t,b<=t->L' t=L t):MatAt L' h b' Q k n v:=by
 obtain⟨s,cap,cs,rfl,u,A,B,D,E,G,H⟩:=a;exact⟨s,cap,cs,rfl,u,A,B,by omega,E,by rw[l s D];exact G,λc J=>(H c J).mark I l⟩
theorem TenAt.mark{b' n:Nat}(a:TenAt L h b Q n len v)(I:b'<=b)(l:∀t,b<=t->L' t=L t):TenAt L' h b' Q n len v:=by
 obtain⟨s,cap,cs,rfl,u,A,B,D,E,G,H⟩:=a;exact⟨s,cap,cs,rfl,u,A,B,by omega,E,by rw[l s D];exact G,λi c J=>(H i c J).mark I l⟩
theorem PW.mark{b':Nat}(a:PW L b h Q O nP nC len vO vP vC)(u:b'<=b)(l:∀t,b<=t->L' t=L t):PW L' b' h Q O nP nC len vO vP vC:=
 ⟨a.hO.mark u l,a.hP.imp id λa=>a.mark u l,a.hC.imp id λa=>a.mark u l⟩
theorem TB.startAt{b':Nat}(a:PW L b h Q O nP nC len vO vP vC)(hs:s<b)(u:b'<=s)(B:b<=h.next)(A:r<b')(l:h.obj r=some [.fz true .nils 0 [],.fz true .nils 0 [],.fz true .nils 0 []]):TB b' (h.set s [vO,vP,vC]) Q O (mkM L s 7) nP nC len r s vO vP vC:=
 ⟨by rw[zG,if_neg (by omega)];exact l,A,by rw[zG,if_pos rfl],(a.set hs _).mark (by omega) λt D=>by unfold mkM;rw[if_neg (by omega)],QF,⟨u,by show s<h.next;omega⟩⟩
theorem zL3(jo:IsPr vO vP vC O1 P1 C1)(X:Fm 18 O1 P1 C1)(pf:IsPr yO yP yC O2 P2 C2)(Y:Fm 18 O2 P2 C2)
  (hk:∀wO wP wC O P C,IsPr wO wP wC O P C->Fm 36 O P C->K (.agg [wO,wP,wC]) σ):zA Tryz.prog 233 [.agg [vO,vP,vC],.agg [yO,yP,yC]] σ K:=by
 refine zA.gh ?_;have o1:=jo.O.one;have o2:=pf.O.one;have p1:=jo.P.one;have p2:=pf.P.one;have c1:=jo.C.one;have c2:=pf.C.one;obtain⟨⟨w1,a1,rfl⟩,Aw,Ot⟩:=jo;obtain⟨⟨w2,a2,rfl⟩,Ge,Oq⟩:=pf;have n1:=X.n;have n2:=Y.n;refine qG mix Tryz.func233 ?_;simp only[Z3,seval,-ae,o1,o2,p1,p2,c1,c2];generalize wD:((σ.new [PV.fz w1 a1 O1.length (pis O1),vP,vC]).new [PV.fz w2 a2 O2.length (pis O2),yP,yC]).new [PV.fz true AV.nils 0 [],PV.fz true AV.nils 0 [],PV.fz true AV.nils 0 []]=H3;have Gk:H3.next=σ.next+3:=by rw[<-wD];rfl
 have LQ:Keep σ H3:=by rw[<-wD];exact((zC _ _).new _).new _
 have xw:H3.obj σ.next=some [PV.fz w1 a1 O1.length (pis O1),vP,vC]:=by rw[<-wD];simp only[Z3,seval,-ae]
 have DL:H3.obj (σ.next+1)=some [PV.fz w2 a2 O2.length (pis O2),yP,yC]:=by rw[<-wD];simp only[Z3,seval,-ae]
 have BI:H3.obj (σ.next+2)=some [PV.fz true AV.nils 0 [],PV.fz true AV.nils 0 [],PV.fz true AV.nils 0 []]:=by rw[<-wD];simp only[Z3,seval,-ae]
 clear wD;generalize hH:H3.new [PV.fz true AV.nils 0 [],PV.fz true AV.nils 0 [],PV.fz true AV.nils 0 []]=H;have eX:H.next=σ.next+4:=by rw[<-hH];show H3.next+1=_;omega
 have kH:Keep H3 H:=by rw[<-hH];exact zC _ _
 have Lf:H.obj (σ.next+3)=some [PV.fz true AV.nils 0 [],PV.fz true AV.nils 0 [],PV.fz true AV.nils 0 []]:=by rw[<-hH,zH,if_pos Gk.symm]
 clear hH;refine qg rfl (by omega) λbJ iK=>?_;have Hh:(H.new (pis O1)).rd1 (σ.next+1) 0=some (.fz w2 a2 O2.length (pis O2)):=by rw[zI (by rw[zH,if_neg (by omega),kH.obj _ (by omega)];exact DL)];rfl
 have HQ:Keep H (H.new (pis O1)):=zC _ _;have BH:PSl H.next 1 (H.new (pis O1)) (.sl H.next 0 O1.length bJ) O1.length (pis O1):=PSl.own iK (by rw[zH,if_pos rfl]) (by rw[zJ,Nat.mul_one]) (na _) (YP _);have Iu:H.next<=(H.new (pis O1)).next:=UQ _;generalize H.new (pis O1)=g at *
 simp only[Z3,seval,-ae,Hh];refine PSl.cat (σb:=H) (bytes:=8) (m:=O2.length) (news:=pis O2) HQ BH (by rw[zJ]) (by omega) (by omega) λv3 h3 k3 a3=>?_;rw[Qj,<-YV]at a3;obtain⟨O,hO⟩:∃O,O=O1++O2:=⟨_,rfl⟩
 rw[<-hO]at a3;have Ay:O.length=O1.length+O2.length:=by rw[hO,YV]
 have fU:∀a∈O,1<=a/\a<=1000:=λa h=>by
  rw[hO]at h;rcases YY.1 h with h|h
  .exact X.ob a h
  .exact Y.ob a h
 clear hO;obtain⟨so,bw,rfl,q1,q2,q3,q4,q5⟩:=a3;have kD:=k3.next;simp only[Z3,seval,-ae];refine ZJ q2 q5 (by omega) λL h U uP T k4 S=>?_;have nM:=k4.next;have BK:=k3.trans k4;have Hz:h.obj (σ.next+3)=some [PV.fz true AV.nils 0 [],PV.fz true AV.nils 0 [],PV.fz true AV.nils 0 []]:=by rw[BK.obj _ (by omega)];exact Lf
 have A:=TB.startAt (b':=σ.next+3) (r:=σ.next+2) (s:=σ.next+3) S (by omega) (na _) nM (by omega) (by rw[BK.obj _ (by omega),kH.obj _ (by omega)];exact BI);have l:Keep H3 (h.set (σ.next+3) [U,uP,T]):=(kH.trans BK).set (by omega) _;have w5:h.wr (σ.next+3) 0 [U,uP,T]=some (h.set (σ.next+3) [U,uP,T]):=by rw[zT Hz,if_pos ⟨by simp,by simp[S.hO.one,S.hP.one,S.hC.one]⟩];rfl
 simp only[Z3,seval,-ae,S.hO.one,S.hP.one,S.hC.one,w5];generalize h.set (σ.next+3) [U,uP,T]=g5 at *
 clear w5 Hz S BK k4 nM BH HQ Hh Iu k3 q1 q2 q3 q4 q5 kD;generalize hN:O.length=N at *
 obtain⟨Ka,PC,KG,rfl,EL⟩:=Aw;obtain⟨Kc,PE,KI,rfl,EN⟩:=Ot;obtain⟨J9,PB,KF,rfl,EK⟩:=Ge;obtain⟨Kb,PD,KH,rfl,EM⟩:=Oq;have HK:=X.q.pl;have HJ:=Y.q.pl;have HM:=X.q.cl;have HL:=Y.q.cl;have X1:∀{g:PHeap},Keep H3 g->g.rd1 σ.next 1=some (.fz Ka PC P1.length KG):=λ{g} kg=>by rw[zI (by rw[kg.obj _ (by omega)];exact xw)];rfl
 have X2:∀{g:PHeap},Keep H3 g->g.rd1 σ.next 2=some (.fz Kc PE C1.length KI):=λ{g} kg=>by rw[zI (by rw[kg.obj _ (by omega)];exact xw)];rfl
 have Y1:∀{g:PHeap},Keep H3 g->g.rd1 (σ.next+1) 1=some (.fz J9 PB P2.length KF):=λ{g} kg=>by rw[zI (by rw[kg.obj _ (by omega)];exact DL)];rfl
 have Y2:∀{g:PHeap},Keep H3 g->g.rd1 (σ.next+1) 2=some (.fz Kb PD C2.length KH):=λ{g} kg=>by rw[zI (by rw[kg.obj _ (by omega)];exact DL)];rfl
 have Dy:∀i (Z:i<C1.length),C1[i].length=O1.length-1-i:=λi Z=>by
  have:=X.q.row i (by omega)
  rw[YB,YQ Z]at this;exact this
 have Dx:∀i (Z:i<C2.length),C2[i].length=O2.length-1-i:=λi Z=>by
  have:=Y.q.row i (by omega)
  rw[YB,YQ Z]at this;exact this
 refine zF (λE vs h=>∃(i:Nat) (L:Nat->Nat),i<=O1.length/\E=O1.length-i/\vs=[.ptr σ.next 0,.ptr (σ.next+1) 0,.ptr (σ.next+2) 0,.int .i64 O1.length,.int .i64 O2.length,.ptr (σ.next+3) 0,.int .i64 i]/\Keep H3 h/\TB (σ.next+3) h (λm=>m=N) O L N N (λj=>N-1-j) (σ.next+2) (σ.next+3) U uP T) O1.length ?_ ?_
 .exact⟨0,_,YW _,rfl,rfl,l,A⟩
 clear A l
 rintro E vs h ⟨i,L,Z,rfl,rfl,l,A⟩
 have fY:=l.next;simp only[Z3,seval,-ae];refine iteI (λah=>?_) λaF=>?_;rotate_left
 .refine zF (λE vs h=>∃(i:Nat) (L:Nat->Nat),i<=O2.length/\E=O2.length-i/\vs=[.ptr (σ.next+1) 0,.ptr (σ.next+2) 0,.int .i64 O1.length,.int .i64 O2.length,.ptr (σ.next+3) 0,.int .i64 i]/\Keep H3 h/\TB (σ.next+3) h (λm=>m=N) O L N N (λj=>N-1-j) (σ.next+2) (σ.next+3) U uP T) O2.length ?_ ?_
  .exact⟨0,_,YW _,rfl,rfl,l,A⟩
  clear A l
  rintro E vs h ⟨i,L,Z,rfl,rfl,l,A⟩
  have fY:=l.next;simp only[Z3,seval,-ae];refine iteI (λah=>?_) λaF=>?_;rotate_left
  .obtain⟨e1,e2,e3⟩:=A.fin;simp only[Z3,seval,-ae,A.r3,e1,e2];refine e3.fin ((LQ.trans l).set (by omega) _) (by omega) λwO wP wC P C r1 r2=>hk wO wP wC O P C r1 ⟨by omega,fU,?_⟩;rw[hN];exact r2
  have D:O1.length+i<N:=by omega
  have W:((O1.length+i:Nat):Int)<(N:Int):=by omega
  have V:i<P2.length:=by omega
  have ub:(i:Int)<(P2.length:Int):=by omega
  have B:i<C2.length:=by omega
  have mA:(i:Int)<(C2.length:Int):=by omega
  have wi:IntKind.i64.wrap ((i:Int)+1)=((i+1:Nat):Int):=WQ
  have wL:IntKind.i64.wrap ((O1.length:Int)+(i:Int))=((O1.length+i:Nat):Int):=WQ
  obtain⟨G,capP,rfl,vK,oN,put⟩:=A.putPx D;have pK:¬G=h.next:=by omega
  obtain⟨w4,a4,hr⟩:=EK.rowI V;have bF:P2[i].length=O2.length:=Y.q.pq _ (YK V);simp only[Z3,seval,-ae,A.r1,Y1 l,wL,V,ub,hr];refine Qq (before:=O1.length) (behind:=0) ⟨w4,a4,rfl⟩ (by omega) (by omega) (by omega) λbE ys iP cY=>?_;have lL:ys.length=N:=by omega
  obtain⟨ds,L',w,I⟩:=put (xs:=ys) (cp:=bE) lL cY;have r1:(h.new (pis ys)).rd1 (σ.next+3) 1=some (.sl G 0 N capP):=(A.new _).r1;have R:Keep H3 ((h.new (pis ys)).set G ds):=(l.new _).set (by omega) _;generalize h.new (pis ys)=g at *
  simp only[Z3,seval,-ae,r1,D,W,w,wL,wi];generalize g.set G ds=g6 at *
  clear w r1 fY oN pK put l A;obtain⟨w7,a7,Dt,yE,tq⟩:=EM.rowL B;have fa:=Dx i B;refine zF (λE vs h=>∃(j:Nat) (L:Nat->Nat),j<=C2[i].length/\E=C2[i].length-j/\vs=[.ptr (σ.next+1) 0,.ptr (σ.next+2) 0,.int .i64 O1.length,.int .i64 O2.length,.ptr (σ.next+3) 0,.int .i64 i,.int .i64 j]/\Keep H3 h/\TB (σ.next+3) h (λm=>m=N) O L N N (λj=>N-1-j) (σ.next+2) (σ.next+3) U (.sl G 0 N capP) T) C2[i].length ?_ ?_
  .exact⟨0,L',YW _,rfl,rfl,R,I⟩
  clear R I
  rintro E vs h ⟨j,L,hj,rfl,rfl,l,A⟩
  have fY:=l.next;simp only[Z3,seval,-ae,Y2 l,B,mA,yE];refine iteI (λJ=>?_) λez=>?_;rotate_left
  .simp only[Z3,seval,-ae,wi];exact⟨_,by omega,i+1,L,by omega,rfl,rfl,l,A⟩
  have j7:j<N-1-(O1.length+i):=by omega
  have iq:(j:Int)<((N-1-(O1.length+i):Nat):Int):=by omega
  have tY:(j:Int)<(C2[i].length:Int):=by omega
  obtain⟨sC,capC,u,kU,rfl,q7,Cp,B4,Cl,y8,put⟩:=A.putCx D j7;have DR:¬sC=h.next:=by omega
  have uT:¬u=h.next:=by omega
  obtain⟨w8,a8,ES⟩:=tq.rowI J;have EP:C2[i][j].length=O2.length:=Y.q.cq _ (YK B) _ (YK J);simp only[Z3,seval,-ae,A.r2,q7,D,W,wL,Y2 l,B,mA,yE,J,tY,ES];refine Qq (before:=O1.length) (behind:=0) ⟨w8,a8,rfl⟩ (by omega) (by omega) (by omega) λiB zs dw mM=>?_;have sX:zs.length=N:=by omega
  obtain⟨pz,G5,rC,w,I⟩:=put (xs:=zs) (cp:=iB) sX mM;have r2:(h.new (pis zs)).rd1 (σ.next+3) 2=some (.sl sC 0 N capC):=(A.new _).r2;have R:Keep H3 ((h.new (pis zs)).set u pz):=(l.new _).set (by omega) _;generalize h.new (pis zs)=g at *
  simp only[Z3,seval,-ae,r2,rC,D,W,j7,iq,w,wL,WX J];exact⟨_,by omega,j+1,G5,by omega,rfl,rfl,R,I⟩
 have D:i<N:=by omega
 have W:((i:Nat):Int)<(N:Int):=by omega
 have V:i<P1.length:=by omega
 have ub:(i:Int)<(P1.length:Int):=by omega
 have B:i<C1.length:=by omega
 have mA:(i:Int)<(C1.length:Int):=by omega
 have wi:IntKind.i64.wrap ((i:Int)+1)=((i+1:Nat):Int):=WQ
 have wL:IntKind.i64.wrap ((O1.length:Int)+(i:Int))=((O1.length+i:Nat):Int):=WQ
 obtain⟨G,capP,rfl,vK,oN,put⟩:=A.putPx D;have pK:¬G=h.next:=by omega
 obtain⟨w4,a4,hr⟩:=EL.rowI V;have bF:P1[i].length=O1.length:=X.q.pq _ (YK V);simp only[Z3,seval,-ae,A.r1,X1 l,V,ub,hr];refine Qq (before:=0) (behind:=O2.length) ⟨w4,a4,rfl⟩ (by omega) (by omega) (by omega) λbE ys iP cY=>?_;have lL:ys.length=N:=by omega
 obtain⟨ds,L',w,I⟩:=put (xs:=ys) (cp:=bE) lL cY;have r1:(h.new (pis ys)).rd1 (σ.next+3) 1=some (.sl G 0 N capP):=(A.new _).r1;have R:Keep H3 ((h.new (pis ys)).set G ds):=(l.new _).set (by omega) _;generalize h.new (pis ys)=g at *
 simp only[Z3,seval,-ae,r1,D,W,w,wi];generalize g.set G ds=g6 at *
 clear w r1 fY oN pK put l A;obtain⟨w7,a7,Dt,yE,tq⟩:=EN.rowL B;have fa:=Dy i B;refine zF (λE vs h=>∃(j:Nat) (L:Nat->Nat),j<=C1[i].length/\E=C1[i].length-j/\vs=[.ptr σ.next 0,.ptr (σ.next+1) 0,.ptr (σ.next+2) 0,.int .i64 O1.length,.int .i64 O2.length,.ptr (σ.next+3) 0,.int .i64 i,.int .i64 j]/\Keep H3 h/\TB (σ.next+3) h (λm=>m=N) O L N N (λj=>N-1-j) (σ.next+2) (σ.next+3) U (.sl G 0 N capP) T) C1[i].length ?_ ?_
 .exact⟨0,L',YW _,rfl,rfl,R,I⟩
 clear R I
 rintro E vs h ⟨j,L,hj,rfl,rfl,l,A⟩
 have fY:=l.next;simp only[Z3,seval,-ae,X2 l,B,mA,yE];refine iteI (λJ=>?_) λez=>?_;rotate_left
 .simp only[Z3,seval,-ae,wi];exact⟨_,by omega,i+1,L,by omega,rfl,rfl,l,A⟩
 have j7:j<N-1-(i):=by omega
 have iq:(j:Int)<((N-1-(i):Nat):Int):=by omega
 have tY:(j:Int)<(C1[i].length:Int):=by omega
 obtain⟨sC,capC,u,kU,rfl,q7,Cp,B4,Cl,y8,put⟩:=A.putCx D j7;have DR:¬sC=h.next:=by omega
 have uT:¬u=h.next:=by omega
 obtain⟨w8,a8,ES⟩:=tq.rowI J;have EP:C1[i][j].length=O1.length:=X.q.cq _ (YK B) _ (YK J);simp only[Z3,seval,-ae,A.r2,q7,D,W,X2 l,B,mA,yE,J,tY,ES];refine Qq (before:=0) (behind:=O2.length) ⟨w8,a8,rfl⟩ (by omega) (by omega) (by omega) λiB zs dw mM=>?_;have sX:zs.length=N:=by omega
 obtain⟨pz,G5,rC,w,I⟩:=put (xs:=zs) (cp:=iB) sX mM;have r2:(h.new (pis zs)).rd1 (σ.next+3) 2=some (.sl sC 0 N capC):=(A.new _).r2;have R:Keep H3 ((h.new (pis zs)).set u pz):=(l.new _).set (by omega) _;generalize h.new (pis zs)=g at *
 simp only[Z3,seval,-ae,r2,rC,D,W,j7,iq,w,WX J];exact⟨_,by omega,j+1,G5,by omega,rfl,rfl,R,I⟩
end
section
variable{b:Nat}{s:List UInt8}
theorem zFc{z:Int}(u:0<=z)(A:z<256):IntKind.u8.wrap z=z:=by
 unfold IntKind.wrap;have e:z % (2 ^ IntKind.u8.bits:Int)=z:=by
  have:(2 ^ IntKind.u8.bits:Int)=256:=by decide
  rw[this];omega
 have l:IntKind.u8.signed=false:=rfl;simp only[e,l,Bool.false_and,Bool.false_eq_true,if_false]
theorem zL6(hs:s.length<=1000)(G:∀y,-1<=y/\y<=1000000->K (.int .i64 y) σ):zA Tryz.prog 276 [.str s] σ K:=by
 have bad:=G (-1) (by decide);refine zD mix Tryz.func276 ?_;by_cases V:s.length=0
 .have l:((s.length:Nat):Int)=0:=by omega
  simp only[Z3,seval,-ae,l];exact bad
 have l:¬((s.length:Nat):Int)=0:=by omega
 by_cases Y:6<s.length
 .have d2:(6:Int)<((s.length:Nat):Int):=by omega
  simp only[Z3,seval,-ae,l,d2];exact bad
 have d2:¬(6:Int)<((s.length:Nat):Int):=by omega
 have H:0<s.length:=by omega
 by_cases W:1<s.length/\s[0].toNat=48
 .have u:(1:Int)<((s.length:Nat):Int):=by omega
  have B:((s[0].toNat:Nat):Int)=48:=by omega
  simp only[Z3,seval,-ae,l,d2,u,Int.toNat_zero,YQ H,B];exact bad
 by_cases X:1<s.length
 case' pos=>
  have u:(1:Int)<((s.length:Nat):Int):=by omega
  have B:¬((s[0].toNat:Nat):Int)=48:=by omega
  simp only[Z3,seval,-ae,l,d2,u,Int.toNat_zero,YQ H,B]
 case' neg=>
  have u:¬(1:Int)<((s.length:Nat):Int):=by omega
  simp only[Z3,seval,-ae,l,d2,u]
 all_goals
  refine zF (λm vs h=>∃(i:Nat) (y:Int),i<=s.length/\m=s.length-i/\vs=[.str s,.int .i64 y,.int .i64 i]/\0<=y/\y<10 ^ i/\h=σ) s.length ?_ ?_
  .exact⟨0,0,YW _,rfl,rfl,by decide,by decide,rfl⟩
  rintro m vs h ⟨i,y,Z,rfl,rfl,y0,y1,rfl⟩
  have I:∀k:Nat,k<=6->(10:Int) ^ k<=1000000:=λk S=>by
   have:k=0\/k=1\/k=2\/k=3\/k=4\/k=5\/k=6:=by omega
   rcases this with rfl|rfl|rfl|rfl|rfl|rfl|rfl<;>decide
  have vd:=I i (by omega);simp only[Z3,seval,-ae];refine iteI (λE=>?_) λR=>?_;rotate_left
  .exact G y (by omega)
  have gs:s[i]? = some s[i]:=YQ E;by_cases T:s[i].toNat<48
  .have A:((s[i].toNat:Nat):Int)<48:=by omega
   simp only[Z3,seval,-ae,Int.toNat_natCast,gs,A];exact bad
  have A:¬((s[i].toNat:Nat):Int)<48:=by omega
  by_cases U:57<s[i].toNat
  .have D:(57:Int)<((s[i].toNat:Nat):Int):=by omega
   simp only[Z3,seval,-ae,Int.toNat_natCast,gs,A,D];exact bad
  have D:¬(57:Int)<((s[i].toNat:Nat):Int):=by omega
  have w1:IntKind.u8.wrap ((s[i].toNat:Int)-48)=(s[i].toNat:Int)-48:=by
   exact zFc (by omega) (by omega)
  have w2:IntKind.i64.wrap ((s[i].toNat:Int)-48)=(s[i].toNat:Int)-48:=WE;have J:IntKind.i64.wrap (10*y)=10*y:=WE;have N:IntKind.i64.wrap (10*y+((s[i].toNat:Int)-48))=10*y+((s[i].toNat:Int)-48):=WE;simp only[Z3,seval,-ae,Int.toNat_natCast,gs,A,D,w1,w2,J,N,WX E];exact⟨_,by omega,i+1,_,by omega,rfl,rfl,by omega,by rw[Int.pow_succ];omega⟩
def Strs(n:Nat)(cells:List PV):Prop:=∀c∈cells,∃q:List UInt8,c=.str q/\q.length<=n
theorem Strs.bels{n:Nat}{cells:List PV}(a:Strs n cells)(b:Nat):Bels b cells:=zAp.2 λc l=>by obtain⟨q,rfl,_⟩:=a c l;trivial
theorem Strs.snoc{n:Nat}{cells:List PV}(a:Strs n cells){q:List UInt8}(l:q.length<=n):Strs n (cells++[.str q]):=λc hc=>by
 rcases YY.1 hc with hc|hc
 .exact a c hc
 .exact⟨q,YN.1 hc,l⟩
theorem zCL{c:Int}(hs:s.length<=1000)(X:∀a n cells,1<=n->n<=s.length+1->cells.length=n->Strs s.length cells->K (.fz true a n cells) σ):zA Tryz.prog 272 [.str s,.int .u8 c] σ K:=by
 refine zA.gh ?_;refine zD mix Tryz.func272 ?_;simp only[Z3,seval,-ae];refine zF (λm vs h=>∃(i l:Nat) (v:PV) (cells:List PV),i<=s.length/\l<=i/\m=s.length-i/\vs=[.str s,.int .u8 c,v,.int .i64 l,.int .i64 i]/\cells.length<=i/\Strs s.length cells/\Keep σ h/\PSl σ.next 1 h v cells.length cells) s.length ?_ ?_
 .exact⟨0,0,_,[],YW _,na _,rfl,rfl,YW _,λc V=>(by cases V),zC _ _,PSl.new _ 1 rfl (na _)⟩
 rintro m vs h ⟨i,l,v,cells,W,T,rfl,rfl,bY,B,H,D⟩
 have A:=D.one;simp only[Z3,seval,-ae,A];refine iteI (λR=>?_) λZ=>?_
 .have gs:s[i]? = some s[i]:=YQ R;have N:IntKind.i64.wrap ((i:Int)+1)=((i+1:Nat):Int):=WQ
  simp only[Z3,seval,-ae,gs,A];by_cases I:((s[i].toNat:Nat):Int)=c
  .have b1:((i:Int)<=(s.length:Int))=True:=by simp;omega
   have S:((l:Int)<=(i:Int))=True:=by simp;omega
   simp only[Z3,seval,-ae,I,b1,S,A,W,T];refine PSl.push (σb:=σ) (bytes:=16) H D (by omega) (by omega) λJ U G u=>?_;have E:=u.one;simp only[Z3,seval,-ae,N,E];have Y:(cells++[PV.str (List.drop l (List.take i s))]).length=cells.length+1:=by simp
   exact⟨_,by omega,i+1,i+1,J,cells++[.str (List.drop l (List.take i s))],by omega,na _,rfl,rfl,by omega,B.snoc (by rw[UK,Yu];omega),G,by rw[Y];exact u⟩
  .simp only[Z3,seval,-ae,I,N,A];exact⟨_,by omega,i+1,l,v,cells,by omega,by omega,rfl,rfl,by omega,B,H,D⟩
 have b1:l<=s.length:=by omega
 simp only[Z3,seval,-ae,A,b1,Yg];refine PSl.push (σb:=σ) (bytes:=16) H D (by omega) (by omega) λJ U G u=>?_;have E:=u.one;simp only[Z3,seval,-ae,E];refine u.fin G ((B.snoc ?_).bels 0) λo cap=>X _ _ _ (by omega) (by omega) (by simp) (B.snoc ?_)
 all_goals simp
end
section
variable{b:Nat}{s:List UInt8}
theorem zFi{g:PHeap}{z:Int}:zBh (g.new [.int .u8 z]) (.sl g.next 0 1 (.known 1))=some [UInt8.ofNat z.toNat]:=by
 simp only[Z3,seval,-ae,zBh];rw[ZH];simp only[Z3,seval,-ae];rfl
theorem zId{n:Int}(k:Nat)(l:0<=n/\n<=1000000/\n<10 ^ (k+1))(R:k<=100)(A:∀q:List UInt8,q.length<=k+1->K (.str q) σ):zA Tryz.prog 279 [.int .i64 n] σ K:=by
 induction k generalizing n σ K with
 |zero=>
  have u:n<10:=by have:=l.2.2;simpa using this
  have w1:IntKind.i64.wrap (48+n)=48+n:=WE;have w2:IntKind.u8.wrap (48+n)=48+n:=zFc (by omega) (by omega);refine zA.gh ?_;refine Zn mix Tryz.func279 cf279 rfl ?_;dsimp only[if279,qI,eI,qD,eD,mI0,cI0,mD0,I0,R0,S0];simp only[Z3,seval,-ae,u,w1,w2,zAn,zFi];exact Gh.fin0 (zC _ _) trivial (A _ (na _))
 |succ k ih=>
  by_cases u:n<10
  .have w1:IntKind.i64.wrap (48+n)=48+n:=WE;have w2:IntKind.u8.wrap (48+n)=48+n:=zFc (by omega) (by omega);refine zA.gh ?_;refine Zn mix Tryz.func279 cf279 rfl ?_;dsimp only[if279,qI,eI,qD,eD,mI0,cI0,mD0,I0,R0,S0];simp only[Z3,seval,-ae,u,w1,w2,zAn,zFi];exact Gh.fin0 (zC _ _) trivial (A _ (Nat.succ_le_succ (YW _)))
  have N:0<=n.tdiv 10:=Int.tdiv_nonneg l.1 (by decide);have B:n.tdiv 10<=1000000/\n.tdiv 10<10 ^ (k+1):=by
   have e:n.tdiv 10=n / 10:=US l.1
   have:=l.2.2
   rw[Int.pow_succ]at this;rw[e];omega
  have r0:0<=n.tmod 10/\n.tmod 10<10:=⟨Int.tmod_nonneg _ l.1,Int.tmod_lt_of_pos _ (by decide)⟩
  have D:IntKind.i64.wrap (n.tdiv 10)=n.tdiv 10:=WE;have E:IntKind.i64.wrap (n.tmod 10)=n.tmod 10:=WE;have w1:IntKind.i64.wrap (48+n.tmod 10)=48+n.tmod 10:=WE;have w2:IntKind.u8.wrap (48+n.tmod 10)=48+n.tmod 10:=zFc (by omega) (by omega);have G:∀{g:PHeap} {K':PV->PHeap->Prop},(∀q:List UInt8,q.length<=k+1->K' (.str q) g)->zA Tryz.prog 279 [.int .i64 (n.tdiv 10)] g K':=λH=>ih ⟨N,B.1,B.2⟩ (by omega) H;refine zA.gh ?_;refine Zn mix Tryz.func279 cf279 rfl ?_;dsimp only[if279,qI,eI,qD,eD,mI0,cI0,mD0,I0,R0,S0];simp only[Z3,seval,-ae,u,D,w1,w2,E,zAn,zFi,zGV,TVp_e,TVp_q,QB,QA];refine⟨?_,?_,?_⟩
  all_goals
   refine G λq J=>?_;have I:q.length+1<=9223372036854775807:=by omega
   simp only[Z3,seval,-ae,u,D,w1,w2,E,zAn,zFi,zGV,TVp_e,TVp_q,QB,QA,I];exact Gh.fin0 (zC _ _) trivial (A _ (by rw[YV];exact Nat.succ_le_succ J))
def Byts(cells:List PV):Prop:=∀c∈cells,∃z:Int,c=.int .u8 z
theorem Byts.bytes:∀{cells:List PV},Byts cells->∃q:List UInt8,zCZ cells=some q/\q.length=cells.length
 |[],_=>⟨[],rfl,rfl⟩
 |c::cells,a=>by
  obtain⟨z,rfl⟩:=a c (UW ..);obtain⟨q,l,u⟩:=Byts.bytes (cells:=cells) λc A=>a c (Yl _ A);exact⟨UInt8.ofNat z.toNat::q,by simp only[zCZ,l,Option.map_some],by simp[u]⟩
theorem Byts.snoc{cells:List PV}(a:Byts cells){z:Int}:Byts (cells++[.int .u8 z]):=λc hc=>by
 rcases YY.1 hc with hc|hc
 .exact a c hc
 .exact⟨z,YN.1 hc⟩
theorem PSl.bytes{cells:List PV}(a:PSl b 1 h v cells.length cells)(D:Byts cells):∃q:List UInt8,zBh h v=some q/\q.length=cells.length:=by
 obtain⟨s,cap,rfl,E,B,G,H,I⟩:=a;obtain⟨q,u,A⟩:=D.bytes;refine⟨q,?_,A⟩;unfold zBh;rw[zEF];simp only[YM];rw[ZH];by_cases l:cells.length=0
 .have:cells=[]:=List.length_eq_zero_iff.1 l
  subst this;rw[if_pos l];exact u
 .rw[if_neg l,if_pos (na _),Nat.mul_one,zZ B,if_pos (by omega),List.drop_zero,Yg];exact u
theorem zHA{w:Bool}{E:AV}(hn:x.length<=1000)(H:∀q:List UInt8,q.length<=x.length+1->K (.str q) σ):zA Tryz.prog 281 [.fz w E x.length (pis x)] σ K:=by
 refine zA.gh ?_;refine zD mix Tryz.func281 ?_;by_cases Z:x.length=0
 .have A:((x.length:Nat):Int)=0:=by omega
  simp only[Z3,seval,-ae,A];exact Gh.fin0 (Keep.refl _) trivial (H _ (by simp))
 have A:¬((x.length:Nat):Int)=0:=by omega
 simp only[Z3,seval,-ae,A];refine zF (λm vs h=>∃(i:Nat) (v:PV) (cells:List PV),i<=x.length/\m=x.length-i/\vs=[.fz w E x.length (pis x),v,.int .i64 i]/\cells.length=i/\Byts cells/\Keep σ h/\PSl σ.next 1 h v cells.length cells) x.length ?_ ?_
 .exact⟨0,_,[],YW _,rfl,rfl,rfl,λc T=>(by cases T),zC _ _,PSl.new _ 1 rfl (na _)⟩
 rintro m vs h ⟨i,v,cells,hi,rfl,rfl,N,J,I,B⟩
 have u:=B.one;simp only[Z3,seval,-ae,u];refine iteI (λl=>?_) λX=>?_
 .have aD:(i:Int)<(x.length:Int):=by omega
  have G:(pis x)[i]? = some (.int .i64 x[i]):=by rw[zK,gi l];rfl
  simp only[Z3,seval,-ae,u,l,aD,G];refine iteI (λU=>?_) λU=>?_
  all_goals
   simp only[Z3,seval,-ae,u,l,aD,G];refine PSl.push (σb:=σ) (bytes:=1) I B (by omega) (by omega) λW h2 V D=>?_;have S:=D.one;simp only[Z3,seval,-ae,S,WX l];exact⟨_,by omega,i+1,W,_,by omega,rfl,rfl,by rw[YV,N];rfl,J.snoc,V,by rw[YV];exact D⟩
 obtain⟨q,R,Y⟩:=PSl.bytes B J;simp only[Z3,seval,-ae,u,zAn,R];exact Gh.fin0 I trivial (H _ (by omega))
theorem zNj{cap:Cap}(T:σ.obj s0=some (pis x))(hs:s0<σ.next)(hn:x.length<=1000)(H:∀q:List UInt8,q.length<=x.length+1->K (.str q) σ):zA Tryz.prog 281 [.sl s0 0 x.length cap] σ K:=by
 refine zA.gh ?_;refine zD mix Tryz.func281 ?_;by_cases Z:x.length=0
 .have A:((x.length:Nat):Int)=0:=by omega
  simp only[Z3,seval,-ae,A];exact Gh.fin0 (Keep.refl _) trivial (H _ (by simp))
 have A:¬((x.length:Nat):Int)=0:=by omega
 simp only[Z3,seval,-ae,A];refine zF (λm vs h=>∃(i:Nat) (v:PV) (cells:List PV),i<=x.length/\m=x.length-i/\vs=[.sl s0 0 x.length cap,v,.int .i64 i]/\cells.length=i/\Byts cells/\Keep σ h/\PSl σ.next 1 h v cells.length cells) x.length ?_ ?_
 .exact⟨0,_,[],YW _,rfl,rfl,rfl,λc S=>(by cases S),zC _ _,PSl.new _ 1 rfl (na _)⟩
 rintro m vs h ⟨i,v,cells,hi,rfl,rfl,J,I,B,D⟩
 have u:=D.one;simp only[Z3,seval,-ae,u];refine iteI (λl=>?_) λX=>?_
 .have aD:(i:Int)<(x.length:Int):=by omega
  have G:h.rd1 s0 i=some (.int .i64 x[i]):=by rw[zI (by rw[B.obj _ hs];exact T),zK,gi l];rfl
  simp only[Z3,seval,-ae,u,l,aD,G];refine iteI (λU=>?_) λU=>?_
  all_goals
   simp only[Z3,seval,-ae,u,l,aD,G];refine PSl.push (σb:=σ) (bytes:=1) B D (by omega) (by omega) λW h2 V E=>?_;have R:=E.one;simp only[Z3,seval,-ae,R,WX l];exact⟨_,by omega,i+1,W,_,by omega,rfl,rfl,by rw[YV,J];rfl,I.snoc,V,by rw[YV];exact E⟩
 obtain⟨q,N,Y⟩:=PSl.bytes D I;simp only[Z3,seval,-ae,u,zAn,N];exact Gh.fin0 B trivial (H _ (by omega))
theorem zCK{i:Int}(A:-1000<=i/\i<=1000)(l:∀q:List UInt8,q.length<=2->K (.str q) σ):zA Tryz.prog 280 [.int .i64 i] σ K:=by
 refine zA.gh ?_;refine zD mix Tryz.func280 ?_;simp only[Z3,seval,-ae];refine zNj (x:=[IntKind.i64.wrap (i+1)]) (by rw[zH,if_pos rfl];rfl) (YP _) (by simp) λq u=>?_;simp only[Z3,seval,-ae];exact Gh.fin0 (zC _ _) trivial (l q u)
end
section
variable{b:Nat}
theorem qm{α:Type}{c:Prop}[Decidable c]{a:α}{K:α->Prop}(l:c)(u:K a):optK (if c then some a else none) K:=by rw[if_pos l];exact⟨a,rfl,u⟩
theorem zG9(S:FI v x)(hn:x.length<=6)(T:∀a∈x,0<=a/\a<=7)(R:∀u w,FI u w->w.length<=42->K u σ):zA Tryz.prog 282 [v] σ K:=by
 obtain⟨w,a,rfl⟩:=S;refine zA.gh ?_;refine zD mix Tryz.func282 ?_;simp only[Z3,seval,-ae];refine zF (λm vs h=>∃(i:Nat) (v:PV) (u:V1),i<=x.length/\m=x.length-i/\vs=[.fz w a x.length (pis x),v,.int .i64 i]/\u.length<=7*i/\Keep σ h/\PSl σ.next 1 h v u.length (pis u)) x.length ?_ ?_
 .exact⟨0,_,[],YW _,rfl,rfl,na _,zC _ _,PSl.new _ 1 rfl (na _)⟩
 rintro m vs h ⟨i,v,u,Z,rfl,rfl,G,B,l⟩
 have A:=l.one;simp only[Z3,seval,-ae,A];refine iteI (λD=>?_) λI=>?_;rotate_left
 .refine l.fin B (zL _ _) λo cap=>R _ u ⟨true,_,rfl⟩ (by omega)
 have H:(i:Int)<(x.length:Int):=by omega
 have J:(pis x)[i]? = some (.int .i64 x[i]):=by rw[zK,gi D];rfl
 have xb:=T _ (YK D);refine zF (λm vs h=>∃(j:Nat) (v:PV) (u:V1),j<=7/\m=7-j/\vs=[.fz w a x.length (pis x),v,.int .i64 i,.int .i64 j]/\u.length<=7*i+j/\Keep σ h/\PSl σ.next 1 h v u.length (pis u)) 7 ?_ ?_
 .exact⟨0,v,u,YW _,rfl,rfl,by omega,B,l⟩
 clear l B A G
 rintro m vs h ⟨j,v,u,hj,rfl,rfl,G,B,l⟩
 have A:=l.one;simp only[Z3,seval,-ae,A,D,H,J];refine iteI (λtW=>?_) λI=>?_;rotate_left
 .simp only[Z3,seval,-ae,A,WX D];exact⟨_,by omega,i+1,v,u,by omega,rfl,rfl,by omega,B,l⟩
 have W:IntKind.i64.wrap ((i:Int)+1)=(i:Int)+1:=WE;have X:IntKind.i64.wrap ((j:Int)+1)=((j+1:Nat):Int):=WQ
 simp only[Z3,seval,-ae,A,W];refine PSl.push (σb:=σ) (bytes:=8) B l (by omega) (by omega) λV Y U E=>?_;have N:=E.one;simp only[Z3,seval,-ae,N,X];have e:pis (u++[(i:Int)+1])=pis u++[.int .i64 ((i:Int)+1)]:=by simp[pis]
 exact⟨_,by omega,j+1,V,u++[(i:Int)+1],by omega,rfl,rfl,by rw[YV,Yz];omega,U,by rw[e,YV];exact E⟩
theorem zNi(hR:IsPr vO vP vC O P C)(hp:qE O P C)(hk:∀q:List UInt8,K (.str q) σ):zA Tryz.prog 275 [.agg [vO,vP,vC]] σ K:=by
 have Y:=hp.shp;have be:=Y.le;have o1:=hR.O.one;have p1:=hR.P.one;have c1:=hR.C.one;obtain⟨⟨wO,aO,rfl⟩,⟨wP,aP,rP,rfl,MA⟩,⟨wC,aC,rC,rfl,EO⟩⟩:=hR;have lg:=Y.pl;have bY:=Y.cl;refine zA.gh ?_;refine qG mix Tryz.func275 ?_;simp only[Z3,seval,-ae,o1,p1,c1];generalize hH:σ.new [PV.fz wO aO O.length (pis O),PV.fz wP aP P.length rP,PV.fz wC aC C.length rC]=H;have kH:Keep σ H:=by rw[<-hH];exact zC _ _
 have r0:H.rd1 σ.next 0=some (.fz wO aO O.length (pis O)):=by rw[<-hH];simp only[Z3,seval,-ae]
 have r1:H.rd1 σ.next 1=some (.fz wP aP P.length rP):=by rw[<-hH];simp only[Z3,seval,-ae]
 have r2:H.rd1 σ.next 2=some (.fz wC aC C.length rC):=by rw[<-hH];simp only[Z3,seval,-ae]
 clear hH;have fin:∀{q:List UInt8},Gh σ K (.str q) H:=Gh.fin0 kH trivial (hk _);have hO:∀i (B:i<O.length),2<=O[i]/\O[i]<=7:=λi B=>by have:=Y.pr i B;rw[at_eq B]at this;exact this
 have ent:∀{k:Nat} {y:V1},TT O k y->∀a∈y,0<=a/\a<=7:=λ{k y} h a ha=>by
  obtain⟨j,hj,rfl⟩:=YE.1 ha;have b:=h.bd j (by have:=h.len;omega);rw[at_eq hj]at b;have o:=Y.pr j (by have:=h.len;omega);omega
 have PR:∀i (B:i<P.length),P[i].length=O.length/\∀a∈P[i],0<=a/\a<=7:=λi B=>by
  have h:=Y.pw i (by omega);have e:pvec P i=P[i]:=by unfold pvec;rw[YB,YQ B];rfl
  rw[e]at h;exact⟨h.len,ent h⟩
 have CL:∀i (B:i<C.length),C[i].length=O.length-1-i:=λi B=>by
  have h:=Y.row i (by omega);rw[YB,YQ B]at h;exact h
 have CR:∀i (B:i<C.length) k (hk:k<C[i].length),C[i][k].length=O.length/\∀a∈C[i][k],0<=a/\a<=7:=λi B k bA=>by
  have hl:=CL i B;have h:=Y.cj i (i+1+k) (by omega) (by omega);have e:cvec C i (i+1+k)=C[i][k]:=by
   unfold cvec;rw[show i+1+k-i-1=k by omega,YB,YB,YQ B];simp only[Option.getD_some];rw[YQ bA];rfl
  rw[e]at h;exact⟨h.len,ent h⟩
 have dec:∀{g:PHeap} {K':PV->PHeap->Prop} {a:Int},2<=a/\a<=7->(∀d:List UInt8,d.length<=6->K' (.str d) g)->zA Tryz.prog 279 [.int .i64 a] g K':=λ{g K' a} ha bA=>
  zId 5 ⟨by omega,by omega,Int.lt_of_lt_of_le (show a<1000000 by omega) (by decide)⟩ (by decide) bA
 refine iteI (λ_=>fin) λdf=>?_;refine zF (λm vs h=>∃(i:Nat) (q:List UInt8),i<=O.length/\m=O.length-i/\vs=[.ptr σ.next 0,.int .i64 O.length,.str q,.int .i64 i]/\q.length<=9*i/\h=H) O.length ?_ ?_
 .exact⟨0,[],YW _,rfl,rfl,na _,rfl⟩
 rintro m vs h ⟨i,q,B,rfl,rfl,Z,rfl⟩
 simp only[Z3,seval,-ae];refine iteI (λA=>?_) λaF=>?_
 .have I:(i:Int)<(O.length:Int):=by omega
  have R:(pis O)[i]? = some (.int .i64 O[i]):=by rw[zK,gi A];rfl
  have ob:=hO i A;refine iteI (λhp=>qm (by first|omega|(simp only[YV,YS,List.length_nil];omega)) ?_) λhp=>?_
  all_goals
   simp only[Z3,seval,-ae,r0,A,I,R];refine dec ob λd hd=>?_;simp only[Z3,seval,-ae];refine qm (by first|omega|(simp only[YV,YS,List.length_nil];omega)) ?_;simp only[Z3,seval,-ae,WX A];exact⟨_,by omega,i+1,_,by omega,rfl,rfl,by simp only[YV,Yz];omega⟩
 refine zF (λm vs h'=>∃(i:Nat) (q:List UInt8),i<=O.length/\m=O.length-i/\vs=[.ptr σ.next 0,.int .i64 O.length,.str q,.int .i64 i]/\q.length<=60+60*i/\h'=h) O.length ?_ ?_
 .exact⟨0,q,YW _,rfl,rfl,by omega,rfl⟩
 clear Z aF B
 rintro m vs h ⟨i,q,B,rfl,rfl,Z,rfl⟩
 simp only[Z3,seval,-ae];refine iteI (λA=>?_) λaF=>?_
 .have eh:i<P.length:=by omega
  have V:(i:Int)<(P.length:Int):=by omega
  have I:(i:Int)<(O.length:Int):=by omega
  have R:(pis O)[i]? = some (.int .i64 O[i]):=by rw[zK,gi A];rfl
  have ob:=hO i A;obtain⟨w4,a4,l⟩:=MA.rowI eh;obtain⟨pl,pe⟩:=PR i eh;have W:=WX A;simp only[Z3,seval,-ae,r0,r1,eh,V,l];refine ZO rfl (by omega) ?_;simp only[Z3,seval,-ae];by_cases E:isZ P[i]
  .simp only[Z3,seval,-ae,E,W];exact⟨_,by omega,i+1,_,by omega,rfl,rfl,by omega⟩
  simp only[Z3,seval,-ae,E,r0,r1,eh,V,l,A,I,R];refine qm (by first|omega|(simp only[YV,YS,List.length_nil];omega)) ?_;simp only[Z3,seval,-ae,E,r0,r1,eh,V,l,A,I,R];refine zCK (by omega) λd1 Cj=>?_;simp only[Z3,seval,-ae,r0,r1,eh,V,l,A,I,R];refine qm (by first|omega|(simp only[YV,YS,List.length_nil];omega)) ?_;simp only[Z3,seval,-ae,r0,r1,eh,V,l,A,I,R,W];refine qm (by first|omega|(simp only[YV,YS,List.length_nil];omega)) ?_;simp only[Z3,seval,-ae,r0,r1,eh,V,l,A,I,R,W];refine dec ob λd2 Ci=>?_;simp only[Z3,seval,-ae,r0,r1,eh,V,l,A,I,R,W];refine qm (by first|omega|(simp only[YV,YS,List.length_nil];omega)) ?_;simp only[Z3,seval,-ae,r0,r1,eh,V,l,A,I,R,W];refine qm (by first|omega|(simp only[YV,YS,List.length_nil];omega)) ?_;simp only[Z3,seval,-ae,r0,r1,eh,V,l,A,I,R,W];refine zG9 ⟨w4,a4,rfl⟩ (by omega) pe λu wd hu BP=>?_;obtain⟨w5,a5,rfl⟩:=hu;simp only[Z3,seval,-ae,r0,r1,eh,V,l,A,I,R,W];refine zHA (by omega) λd3 Nu=>?_;simp only[Z3,seval,-ae,r0,r1,eh,V,l,A,I,R,W];refine qm (by first|omega|(simp only[YV,YS,List.length_nil];omega)) ?_;simp only[Z3,seval,-ae,r0,r1,eh,V,l,A,I,R,W];exact⟨_,by omega,i+1,_,by omega,rfl,rfl,by simp only[YV,YS,List.length_nil];omega⟩
 refine zF (λm vs h'=>∃(i:Nat) (q:List UInt8),i<=O.length/\m=O.length-i/\vs=[.ptr σ.next 0,.int .i64 O.length,.str q,.int .i64 i]/\q.length<=420+420*i/\h'=h) O.length ?_ ?_
 .exact⟨0,q,YW _,rfl,rfl,by omega,rfl⟩
 clear Z aF B
 rintro m vs h ⟨i,q,B,rfl,rfl,Z,rfl⟩
 simp only[Z3,seval,-ae];refine iteI (λA=>?_) λaF=>?_;rotate_left
 .exact fin
 have I:(i:Int)<(O.length:Int):=by omega
 have D:i<C.length:=by omega
 have J:(i:Int)<(C.length:Int):=by omega
 have W:=WX A;obtain⟨w4,a4,BA,l,dy⟩:=EO.rowL D;have cl:=CL i D;simp only[Z3,seval,-ae,W];refine zF (λm vs h'=>∃(j:Nat) (q:List UInt8),i+1<=j/\j<=O.length/\m=O.length-j/\vs=[.ptr σ.next 0,.int .i64 O.length,.str q,.int .i64 i,.int .i64 j]/\q.length<=420+420*i+60*j/\h'=h) (O.length-(i+1)) ?_ ?_
 .exact⟨i+1,q,na _,by omega,rfl,rfl,by omega,rfl⟩
 clear Z
 rintro m vs h ⟨j,q,rh,hj,rfl,rfl,Z,rfl⟩
 simp only[Z3,seval,-ae];refine iteI (λtW=>?_) λaF=>?_;rotate_left
 .simp only[Z3,seval,-ae,W];exact⟨_,by omega,i+1,q,by omega,rfl,rfl,by omega⟩
 have G:j-i-1<C[i].length:=by omega
 have N:((j-i-1:Nat):Int)<(C[i].length:Int):=by omega
 have X:=WX tW;have U:IntKind.i64.wrap ((j:Int)-(i:Int))=(j:Int)-(i:Int):=WE;have S:IntKind.i64.wrap ((j:Int)-(i:Int)-1)=((j-i-1:Nat):Int):=WQ
 obtain⟨w6,a6,T⟩:=dy.rowI G;obtain⟨pl,pe⟩:=CR i D _ G;simp only[Z3,seval,-ae,r2,D,J,l,U,S,G,N,T];refine Z4 (by omega) tW λwu hu=>?_;obtain⟨w7,a7,rfl⟩:=hu;simp only[Z3,seval,-ae,r2,D,J,l,U,S,G,N,T];refine Ql rfl rfl (by omega) ?_;by_cases E:C[i][j-i-1]=unitL O.length j
 .simp only[Z3,seval,-ae,E,X];exact⟨_,by omega,j+1,q,by omega,by omega,rfl,rfl,by omega⟩
 simp only[Z3,seval,-ae,E,r2,D,J,l,U,S,G,N,T,X];refine qm (by first|omega|(simp only[YV,YS,List.length_nil];omega)) ?_;simp only[Z3,seval,-ae,E,r2,D,J,l,U,S,G,N,T,X];refine zCK (by omega) λd1 Cj=>?_;simp only[Z3,seval,-ae,E,r2,D,J,l,U,S,G,N,T,X];refine qm (by first|omega|(simp only[YV,YS,List.length_nil];omega)) ?_;simp only[Z3,seval,-ae,E,r2,D,J,l,U,S,G,N,T,X];refine qm (by first|omega|(simp only[YV,YS,List.length_nil];omega)) ?_;simp only[Z3,seval,-ae,E,r2,D,J,l,U,S,G,N,T,X];refine zCK (by omega) λd2 Ci=>?_;simp only[Z3,seval,-ae,E,r2,D,J,l,U,S,G,N,T,X];refine qm (by first|omega|(simp only[YV,YS,List.length_nil];omega)) ?_;simp only[Z3,seval,-ae,E,r2,D,J,l,U,S,G,N,T,X];refine qm (by first|omega|(simp only[YV,YS,List.length_nil];omega)) ?_;simp only[Z3,seval,-ae,E,r2,D,J,l,U,S,G,N,T,X];refine zG9 ⟨w6,a6,rfl⟩ (by omega) pe λu wd hu BP=>?_;obtain⟨w5,a5,rfl⟩:=hu;simp only[Z3,seval,-ae,E,r2,D,J,l,U,S,G,N,T,X];refine zHA (by omega) λd3 Nu=>?_;simp only[Z3,seval,-ae,E,r2,D,J,l,U,S,G,N,T,X];refine qm (by first|omega|(simp only[YV,YS,List.length_nil];omega)) ?_;simp only[Z3,seval,-ae,E,r2,D,J,l,U,S,G,N,T,X];exact⟨_,by omega,j+1,_,by omega,by omega,rfl,rfl,by simp only[YV,YS,List.length_nil];omega⟩
end
section
variable{s t:List UInt8}
theorem zIb{cap:Cap}(H:σ.obj s0=some (pis O))(U:O.length<=6)(I:∀a∈O,isP a)(G:∀r:Int,K (.int .i64 r) σ):zA Tryz.prog 213 [.sl s0 0 O.length cap] σ K:=by
 refine zD mix Tryz.func213 ?_;simp only[Z3,seval,-ae];refine zF (λm vs h=>∃(i:Nat) (y:Int),i<=O.length/\m=O.length-i/\vs=[.sl s0 0 O.length cap,.int .i64 y,.int .i64 i]/\1<=y/\y<=729000/\h=σ) O.length ?_ ?_
 .exact⟨0,1,YW _,rfl,rfl,by decide,by decide,rfl⟩
 rintro m vs h ⟨i,y,V,rfl,rfl,D,S,rfl⟩
 simp only[Z3,seval,-ae];refine iteI (λl=>?_) λT=>?_;rotate_left
 .exact G y
 have E:(i:Int)<(O.length:Int):=by omega
 have A:=(I _ (YK l)).b1;have rd:h.rd1 s0 i=some (.int .i64 O[i]):=by rw[zI H,zK,gi l];rfl
 have B:=WX l;refine iteI (λu=>?_) λu=>?_;rotate_left
 .simp only[Z3,seval,-ae,B];exact⟨_,by omega,i+1,y,by omega,rfl,rfl,D,S⟩
 have J:1<=y*O[i]:=by have:=Int.mul_le_mul D A.1 (by decide) (by omega);omega
 have N:y*O[i]<=729000:=by have:=Int.mul_le_mul u A.2 (by omega) (by decide:(0:Int)<=729);omega
 have R:IntKind.i64.wrap (y*O[i])=y*O[i]:=WE;simp only[Z3,seval,-ae,l,E,rd,B,R];exact⟨_,by omega,i+1,_,by omega,rfl,rfl,J,N⟩
theorem PSl.fin_tf{t:Bool}(A:Keep σ h)(B:PSl σ.next 1 h v x.length (pis x))(l:∀u,FI u x->K (.tup [u,.bool t]) σ):Gh σ K (.tup [v,.bool t]) h:=by
 obtain⟨s,cap,rfl,D,E,I,G,H⟩:=B;have e:(TR.tup [TR.row s cap x,.leaf (.bool t)]).pv=.tup [.sl s 0 x.length cap,.bool t]:=by simp only[TR.pv,TR.pvs,TR.row_pv]
 rw[<-e];refine Gh.treeF A (tr_okF ⟨TR.row_ok D E G H,trivial,trivial⟩) λa=>?_
 have:=l ((TR.row s cap x).fz a) TR.row_FI
 simpa only[TR.fz,TR.fzs]using this
theorem zNU(A:Keep σ h)(l:∀u,FI u []->K (.tup [u,.bool false]) σ):Gh σ K (.tup [.fz true .nils 0 [],.bool false]) h:=by
 have e:(TR.tup [TR.nil,.leaf (.bool false)]).pv=.tup [.fz true .nils 0 [],.bool false]:=by simp only[TR.pv,TR.pvs]
 rw[<-e];refine Gh.treeF A ⟨trivial,trivial,trivial⟩ λa=>?_
 have:=l (.fz true .nils 0 []) ⟨true,.nils,rfl⟩
 simpa only[TR.fz,TR.fzs]using this
theorem zKM(hs:s.length<=500)(I:∀v O t,FI v O->O.length<=6->(∀a∈O,isP a)->K (.tup [v,.bool t]) σ):zA Tryz.prog 273 [.str s] σ K:=by
 have nil:∀{h:PHeap},Keep σ h->Gh σ K (.tup [.fz true .nils 0 [],.bool false]) h:=λ{h} l=>zNU l λu A=>I u [] false A (by decide) λa ha=>by cases ha
 refine zA.gh ?_;refine zD mix Tryz.func273 ?_;simp only[Z3,seval,-ae];refine iteI (λB=>?_) λB=>?_
 .simp only[Z3,seval,-ae];exact PSl.fin_tf (x:=[]) (zC _ _) (PSl.new _ 1 rfl (na _)) λu A=>I u [] true A (by decide) λa ha=>by cases ha
 simp only[Z3,seval,-ae];refine zCL (s:=s) (by omega) λa n cells dQ vi bY V=>?_;simp only[Z3,seval,-ae];refine zF (λm vs h=>∃(i:Nat) (v:PV) (O:V1),i<=n/\m=n-i/\vs=[v,.fz true a n cells,.int .i64 i]/\O.length=i/\i<=6/\(∀a∈O,isP a)/\Keep σ h/\PSl σ.next 1 h v O.length (pis O)) n ?_ ?_
 .exact⟨0,_,[],YW _,rfl,rfl,rfl,YW _,λa ha=>(by cases ha),zC _ _,PSl.new _ 1 rfl (na _)⟩
 rintro m vs h ⟨i,v,O,hi,rfl,rfl,S,R4,H,l,E⟩
 have B:=E.one;simp only[Z3,seval,-ae,B];refine iteI (λN=>?_) λaF=>?_;rotate_left
 .have BH:=E;obtain⟨sO,cap,rfl,q1,Z,q3,q4,q5⟩:=BH;refine zIb Z (by omega) H λr=>?_;simp only[Z3,seval,-ae];exact PSl.fin_tf l E λu A=>I u O _ A (by omega) H
 have U:(i:Int)<(n:Int):=by omega
 obtain⟨q,T,hq⟩:=V _ (YK (by omega:i<cells.length));have W:cells[i]? = some (.str q):=by rw[YQ (by omega),T]
 simp only[Z3,seval,-ae,N,U,W];refine zL6 (by omega) λy hy=>?_;have wi:=WX N;simp only[Z3,seval,-ae];refine zAt ?_;by_cases D:isP y;rotate_left
 .simp only[Z3,seval,-ae,D];exact nil l
 by_cases R:6<=i
 .have G:(6:Int)<=(i:Int):=by omega
  simp only[Z3,seval,-ae,D,R,G];exact nil l
 have G:¬(6:Int)<=(i:Int):=by omega
 simp only[Z3,seval,-ae,D,R,G,B];refine PSl.push (σb:=σ) (bytes:=8) l E (by omega) (by omega) λv2 h2 Y J=>?_;have X:=J.one;simp only[Z3,seval,-ae,X,wi];have e:pis (O++[y])=pis O++[.int .i64 y]:=by simp[pis]
 refine⟨_,by omega,i+1,v2,O++[y],by omega,rfl,rfl,by rw[YV,S];rfl,by omega,λa ha=>?_,Y,by rw[e,YV];exact J⟩;rcases YY.1 ha with ha|ha
 .exact H a ha
 .rw[YN.1 ha];exact D
theorem zL5{n:Nat}(hn:n<=6)(hs:s.length<=500)(H:∀v xs t,FI v xs->(∀x∈xs,-6<=x/\x<=(n:Int)/\x≠0)->xs.length<=s.length->K (.tup [v,.bool t]) σ):zA Tryz.prog 277 [.int .i64 n,.str s] σ K:=by
 have nil:∀{h:PHeap},Keep σ h->Gh σ K (.tup [.fz true .nils 0 [],.bool false]) h:=λ{h} A=>zNU A λu D=>H u [] false D (λa ha=>by cases ha) (YW _);refine zA.gh ?_;refine zD mix Tryz.func277 ?_;simp only[Z3,seval,-ae];refine iteI (λl=>?_) λl=>?_
 .simp only[Z3,seval,-ae];exact PSl.fin_tf (x:=[]) (zC _ _) (PSl.new _ 1 rfl (na _)) λu D=>H u [] true D (λa ha=>by cases ha) (YW _)
 simp only[Z3,seval,-ae];refine zF (λm vs h=>∃(i:Nat) (v:PV) (xs:V1),i<=s.length/\m=s.length-i/\vs=[.int .i64 n,.str s,v,.int .i64 i]/\xs.length=i/\(∀x∈xs,-6<=x/\x<=(n:Int)/\x≠0)/\Keep σ h/\PSl σ.next 1 h v xs.length (pis xs)) s.length ?_ ?_
 .exact⟨0,_,[],YW _,rfl,rfl,rfl,λa ha=>(by cases ha),zC _ _,PSl.new _ 1 rfl (na _)⟩
 rintro m vs h ⟨i,v,xs,hi,rfl,rfl,R,U,A,E⟩
 have l:=E.one;simp only[Z3,seval,-ae,l];refine iteI (λN=>?_) λaF=>?_;rotate_left
 .have hl:pLen v=some (.int .i64 xs.length):=by obtain⟨s',cap,rfl,_⟩:=E;rfl
  simp only[Z3,seval,-ae,l,hl];exact PSl.fin_tf A E λu D=>H u xs _ D U (by omega)
 have gs:s[i]? = some s[i]:=YQ N;have c0:(s[i].toNat:Int)<256:=by have:=s[i].toNat_lt;omega
 have c1:(0:Int)<=(s[i].toNat:Int):=by omega
 have V:=WX N;have Y:IntKind.i64.wrap (s[i].toNat:Int)=(s[i].toNat:Int):=WE;have Z:IntKind.i64.wrap ((s[i].toNat:Int)-97)=(s[i].toNat:Int)-97:=WE;have q2:IntKind.i64.wrap ((s[i].toNat:Int)-97+1)=(s[i].toNat:Int)-97+1:=WE;have q3:IntKind.i64.wrap ((s[i].toNat:Int)-65)=(s[i].toNat:Int)-65:=WE;have q4:IntKind.i64.wrap ((s[i].toNat:Int)-65+1)=(s[i].toNat:Int)-65+1:=WE;have q5:IntKind.i64.wrap (0-((s[i].toNat:Int)-65+1))=-((s[i].toNat:Int)-65+1):=WQ
 simp only[Z3,seval,-ae,gs,Y,Z,q2,q3,q4,l];refine zBm ?_;have put:∀{y:Int},(-6<=y/\y<=(n:Int)/\y≠0)->∀a∈xs++[y],-6<=a/\a<=(n:Int)/\a≠0:=λ{y} X a ha=>by
  rcases YY.1 ha with ha|ha
  .exact U a ha
  .rw[YN.1 ha];exact X
 have e:∀y:Int,pis (xs++[y])=pis xs++[.int .i64 y]:=λy=>by simp[pis]
 have el:∀y:Int,(xs++[y]).length=xs.length+1:=λy=>by simp
 by_cases S:1<=(s[i].toNat:Int)-97+1/\(s[i].toNat:Int)-97+1<=(n:Int)
 .simp only[Z3,seval,-ae,S,l];refine PSl.push (σb:=σ) (bytes:=8) A E (by omega) (by omega) λJ W I B=>?_;have G:=B.one;simp only[Z3,seval,-ae,G,V];exact⟨_,by omega,i+1,J,xs++[(s[i].toNat:Int)-97+1],by omega,rfl,rfl,by rw[el,R],put (by omega),I,by rw[e,el];exact B⟩
 simp only[Z3,seval,-ae,S,l];refine zBm ?_;by_cases T:1<=(s[i].toNat:Int)-65+1/\(s[i].toNat:Int)-65+1<=(n:Int)
 .simp only[Z3,seval,-ae,T,l,q5];refine PSl.push (σb:=σ) (bytes:=8) A E (by omega) (by omega) λJ W I B=>?_;have G:=B.one;simp only[Z3,seval,-ae,G,V];exact⟨_,by omega,i+1,J,xs++[-((s[i].toNat:Int)-65+1)],by omega,rfl,rfl,by rw[el,R],put (by omega),I,by rw[e,el];exact B⟩
 simp only[Z3,seval,-ae,T,l];exact nil A
end
section
variable{b:Nat}{L L':Nat->Nat}{Q:Nat->Prop}{len:Nat->Nat}{s t:List UInt8}
theorem zKK{n:Nat}(hn:n<=6)(U:FI v x)(V:∀a∈x,-6<=a/\a<=(n:Int)/\a≠0)(hl:x.length<=1000)(N:∀h,Keep σ h->K (.tup [.fz true .nils 0 [],.bool false]) h)(I:∀ys,ys.length=n->K (.tup [.sl σ.next 0 n (.known n),.bool true]) (σ.new (pis ys))):zA Tryz.prog 278 [.int .i64 n,v] σ K:=by
 obtain⟨w,a,rfl⟩:=U;refine zD mix Tryz.func278 ?_;simp only[Z3,seval,-ae,zf,mk8 (n:=n) (by omega),Go.Ab.mkL (n:=n) (by omega)];refine zF (λm vs h=>∃(i:Nat) (ys:V1),i<=x.length/\m=x.length-i/\vs=[.fz w a x.length (pis x),.sl σ.next 0 n (.known n),.int .i64 i]/\ys.length=n/\(∀y∈ys,0<=y/\y<=(i:Int))/\h=σ.new (pis ys)) x.length ?_ ?_
 .exact⟨0,List.replicate n 0,YW _,rfl,rfl,by simp,λy u=>by rw[(List.mem_replicate.1 u).2];exact⟨UD _,UD _⟩,rfl⟩
 rintro m vs h ⟨i,ys,hi,rfl,rfl,H,u,rfl⟩
 simp only[Z3,seval,-ae];refine iteI (λl=>?_) λX=>?_;rotate_left
 .exact I ys H
 have E:(i:Int)<(x.length:Int):=by omega
 have B:(pis x)[i]? = some (.int .i64 x[i]):=by rw[zK,gi l];rfl
 have xb:=V _ (YK l);have W:=WX l;simp only[Z3,seval,-ae,l,E,B];refine iteI (λZ=>?_) λY=>?_
 .exact N _ (zC _ _)
 obtain⟨j,hj⟩:∃j:Nat,x[i]=(j:Int)+1:=⟨(x[i] - 1).toNat,by omega⟩
 have R:j<n:=by omega
 have S:(j:Int)<(n:Int):=by omega
 have A:j<ys.length:=by omega
 rw[hj]at B;have w1:IntKind.i64.wrap ((j:Int)+1-1)=(j:Int):=WQ
 have yb:=u _ (YK A);have w2:IntKind.i64.wrap (ys[j] + 1)=ys[j] + 1:=WE;have T:(pis ys)[j]? = some (.int .i64 ys[j]):=by rw[zK,gi A];rfl
 have wr:(σ.new (pis ys)).wr σ.next j [.int .i64 (ys[j] + 1)]=some ((σ.new (pis ys)).set σ.next (pis (ys.set j (ys[j] + 1)))):=zDM (by rw[zH,if_pos rfl]) A;have J:(σ.new (pis ys)).set σ.next (pis (ys.set j (ys[j] + 1)))=σ.new (pis (ys.set j (ys[j] + 1))):=by
  unfold PHeap.set PHeap.new;congr 1;funext q;by_cases e:q=σ.next<;>simp[e]
 have rd:(σ.new (pis ys)).rd1 σ.next j=some (.int .i64 ys[j]):=by rw[zI (by rw[zH,if_pos rfl])];exact T
 rw[J]at wr;generalize hG:σ.new (pis ys)=G at *
 simp only[Z3,seval,-ae,l,E,B,hj,w1,R,S,rd,w2,wr,W];refine⟨_,by omega,i+1,ys.set j (ys[j] + 1),by omega,rfl,rfl,by rw[YC];exact H,λy D=>?_,rfl⟩;rcases List.mem_or_eq_of_mem_set D with D|rfl
 .have:=u y D;omega
 .omega
theorem PW.fin2b{e:Bool}(a:PW L b h Q O nP nC len vO vP vC)(Y:Keep σ h)(X:σ.next<=b)(k:∀G H E P C,IsPr G H E O P C->PQ3 Q P C nP nC len->K (.tup [.agg [G,H,E],.bool e]) σ):Gh σ K (.tup [.agg [vO,vP,vC],.bool e]) h:=by
 obtain⟨u,I,rfl,J⟩:=a.hO.tree;obtain⟨A,P,⟨b1,rfl,D⟩,N⟩:=a.hP.tree;obtain⟨B,C,⟨R,rfl,S⟩,T,U,V⟩:=a.hC.tree;have W:(TR.tup [TR.agg [u,A,B],.leaf (.bool e)]).pv=.tup [.agg [u.pv,A.pv,B.pv],.bool e]:=by simp only[TR.pv,TR.pvs]
 rw[<-W];refine Gh.treeF Y (zCU (b:=b) X ⟨⟨tr_okF I,tr_okF b1,tr_okF R,trivial⟩,trivial,trivial⟩) λl=>?_
 have:=k (u.fz l) (A.fz l) (B.fz l) P C ⟨J l,(D l).1,S l⟩ ⟨N,T,(D l).2,U,V⟩
 simpa only[TR.fz,TR.fzs]using this
set_option maxHeartbeats 1600000 in
theorem zHa(Y:IsPr vO vP vC O P C)(hO:O.length<=6)(hp:∀a∈O,isP a)(T:PQ3 (λm=>m=O.length) P C O.length O.length (λi=>O.length-1-i))(hs:s.length<=500)
  (hk:∀B wP wC P' C' t,IsPr B wP wC O P' C'->PQ3 (λm=>m=O.length) P' C' O.length O.length (λi=>O.length-1-i)->K (.tup [.agg [B,wP,wC],.bool t]) σ):zA Tryz.prog 274 [.agg [vO,vP,vC],.str s] σ K:=by
 have D:=Y.O.one;have E:=Y.P.one;have A:=Y.C.one;have aK:=Y;have bad:∀{h:PHeap},Keep σ h->Gh σ K (.tup [.agg [vO,vP,vC],.bool false]) h:=λ{h} kk=>Gh.fin0 kk ⟨⟨Y.O.bel _,Y.P.bel _,Y.C.bel _,trivial⟩,trivial,trivial⟩ (hk _ _ _ P C false Y T);obtain⟨⟨B,N,rfl⟩,IM,IN⟩:=Y;refine zA.gh ?_;refine zD mix Tryz.func274 ?_;simp only[Z3,seval,-ae,D,E,A];generalize hH:(σ.new [PV.fz B N O.length (pis O),vP,vC]).new [PV.fz true AV.nils 0 [],PV.fz true AV.nils 0 [],PV.fz true AV.nils 0 []]=H;have eX:H.next=σ.next+2:=by rw[<-hH];rfl
 have kH:Keep σ H:=by rw[<-hH];exact(zC _ _).new _
 have xw:H.obj σ.next=some [PV.fz B N O.length (pis O),vP,vC]:=by rw[<-hH];simp only[Z3,seval,-ae]
 have BI:H.obj (σ.next+1)=some [PV.fz true AV.nils 0 [],PV.fz true AV.nils 0 [],PV.fz true AV.nils 0 []]:=by rw[<-hH];simp only[Z3,seval,-ae]
 clear hH;have fin0:∀{g:PHeap},Keep H g->g.rd σ.next 0 3=some [PV.fz B N O.length (pis O),vP,vC]/\g.wr (σ.next+1) 0 [PV.fz B N O.length (pis O),vP,vC]=some (g.set (σ.next+1) [PV.fz B N O.length (pis O),vP,vC])/\(g.set (σ.next+1) [PV.fz B N O.length (pis O),vP,vC]).rd (σ.next+1) 0 3=some [PV.fz B N O.length (pis O),vP,vC]/\Gh σ K (.tup [.agg [PV.fz B N O.length (pis O),vP,vC],.bool false]) (g.set (σ.next+1) [PV.fz B N O.length (pis O),vP,vC]):=λ{g} R=>by
  refine⟨by rw[zZ (by rw[R.obj _ (by omega)];exact xw)];rfl,by rw[zT (by rw[R.obj _ (by omega)];exact BI),if_pos ⟨by simp,by simp[D,E,A]⟩];rfl,by rw[qH,if_pos rfl];rfl,bad ((kH.trans R).set (by omega) _)⟩
 obtain⟨e1,e2,e3,e4⟩:=fin0 (Keep.refl H);refine zCL (s:=s) (by omega) λa n cells dQ vi bY bX=>?_;by_cases h2:n=2;rotate_left
 .have d2:¬((n:Nat):Int)=2:=by omega
  simp only[Z3,seval,-ae,d2,D,E,A,e1,e2,e3];exact e4
 subst h2;obtain⟨l,fG,E5⟩:=bX _ (YK (by omega:0<cells.length));obtain⟨p1,gZ,E4⟩:=bX _ (YK (by omega:1<cells.length));have S:cells[0]? = some (.str l):=by rw[YQ (by omega),fG]
 have c1:cells[1]? = some (.str p1):=by rw[YQ (by omega),gZ]
 have d2:((2:Nat):Int)=2:=rfl;have X:(0:Int)<((2:Nat):Int):=by decide
 have JK:(1:Int)<((2:Nat):Int):=by decide
 by_cases h4:l.length=4;rotate_left
 .have d4:¬((l.length:Nat):Int)=4:=by omega
  simp only[Z3,seval,-ae,d2,X,S,d4,D,E,A,e1,e2,e3];exact e4
 have d4:((l.length:Nat):Int)=4:=by omega
 by_cases SA:l[0].toNat=32;rotate_left
 .have d5:¬((l[0].toNat:Nat):Int)=32:=by omega
  simp only[Z3,seval,-ae,d2,X,S,d4,d5,D,E,A,e1,e2,e3,Int.toNat_zero,YQ (by omega:0<l.length)];exact e4
 have d5:((l[0].toNat:Nat):Int)=32:=by omega
 have n2:(2:Int).toNat=2:=rfl;have n1:(1:Int).toNat=1:=rfl;have n3:(3:Int).toNat=3:=rfl;by_cases Sx:l[2].toNat=94;rotate_left
 .have d6:¬((l[2].toNat:Nat):Int)=94:=by omega
  simp only[Z3,seval,-ae,d2,X,S,d4,d5,d6,n2,D,E,A,e1,e2,e3,Int.toNat_zero,Int.toNat_one,YQ (by omega:0<l.length),YQ (by omega:1<l.length),YQ (by omega:2<l.length),YQ (by omega:3<l.length)];exact e4
 have d6:((l[2].toNat:Nat):Int)=94:=by omega
 simp only[Z3,seval,-ae,d2,X,JK,S,c1,d4,d5,d6,n2,D,E,A,Int.toNat_zero,Int.toNat_one,YQ (by omega:0<l.length),YQ (by omega:1<l.length),YQ (by omega:2<l.length),YQ (by omega:3<l.length)];refine zL5 (n:=O.length) hO (s:=p1) (by omega) λvu u t1 hu ta dO=>?_;have BS:=hu.one;cases t1
 .simp only[Z3,seval,-ae,D,E,A,e1,e2,e3,BS];exact e4
 have b1:(l[1].toNat:Int)<256:=by have:=l[1].toNat_lt;omega
 have b3:(l[3].toNat:Int)<256:=by have:=l[3].toNat_lt;omega
 have q1:IntKind.i64.wrap (l[1].toNat:Int)=(l[1].toNat:Int):=WE;have q3:IntKind.i64.wrap (l[3].toNat:Int)=(l[3].toNat:Int):=WE;have uN:IntKind.i64.wrap ((l[1].toNat:Int)-97)=(l[1].toNat:Int)-97:=WE;have BE:IntKind.i64.wrap ((l[3].toNat:Int)-97)=(l[3].toNat:Int)-97:=WE;simp only[Z3,seval,-ae,BS];refine zKK (n:=O.length) hO hu ta (by omega) (λg R=>?_) λys iP=>?_
 .obtain⟨G,I,J,Z⟩:=fin0 R;simp only[Z3,seval,-ae,X,S,n1,n3,q1,q3,uN,BE,D,E,A,G,I,J,Int.toNat_zero,Int.toNat_one,YQ (by omega:0<l.length),YQ (by omega:1<l.length),YQ (by omega:2<l.length),YQ (by omega:3<l.length)];exact Z
 have R:=zC H (pis ys);have Ol:(H.new (pis ys)).next=H.next+1:=rfl;have Le:(H.new (pis ys)).obj H.next=some (pis ys):=by rw[zH,if_pos rfl]
 have DM:(H.new (pis ys)).obj σ.next=some [PV.fz B N O.length (pis O),vP,vC]:=by rw[zH,if_neg (by omega)];exact xw
 have DN:(H.new (pis ys)).obj (σ.next+1)=some [PV.fz true AV.nils 0 [],PV.fz true AV.nils 0 [],PV.fz true AV.nils 0 []]:=by rw[zH,if_neg (by omega)];exact BI
 generalize H.new (pis ys)=H1 at *
 obtain⟨G,I,J,Z⟩:=fin0 R;by_cases j0:(l[1].toNat:Int)-97<0
 .simp only[Z3,seval,-ae,X,S,n1,n3,q1,q3,uN,BE,j0,D,E,A,G,I,J,Int.toNat_zero,Int.toNat_one,YQ (by omega:0<l.length),YQ (by omega:1<l.length),YQ (by omega:2<l.length),YQ (by omega:3<l.length)];exact Z
 by_cases j1:(O.length:Int)<=(l[1].toNat:Int)-97
 .simp only[Z3,seval,-ae,X,S,n1,n3,q1,q3,uN,BE,j0,j1,D,E,A,G,I,J,Int.toNat_zero,Int.toNat_one,YQ (by omega:0<l.length),YQ (by omega:1<l.length),YQ (by omega:2<l.length),YQ (by omega:3<l.length)];exact Z
 simp only[Z3,seval,-ae,X,S,n1,n3,q1,q3,uN,BE,j0,j1,D,E,A,G,Int.toNat_zero,Int.toNat_one,YQ (by omega:0<l.length),YQ (by omega:1<l.length),YQ (by omega:2<l.length),YQ (by omega:3<l.length)];obtain⟨j,hj⟩:∃j:Nat,(l[1].toNat:Int)-97=j:=⟨((l[1].toNat:Int)-97).toNat,by omega⟩
 rw[hj]at j0 j1 ⊢;have gJ:j<O.length:=by omega
 have gk:(j:Int)<(O.length:Int):=by omega
 refine zFI (Q:=λm=>m=O.length) aK (by omega) (by rw[T.pl];omega) (by rw[T.cl];omega) (λq aR=>?_) (λr hr=>T.pq r hr) (λq aR r hr=>T.cq q aR r hr) (λm hm=>by omega) λL h V W U k1 p1=>?_
 .obtain⟨i,hi,rfl⟩:=YE.1 aR
  have:=T.row i (by rw[<-T.cl];exact hi)
  rw[YB,YQ hi]at this;have e:C[i].length=O.length-1-i:=this;omega
 have yW:=k1.next;rw[T.pl,T.cl]at p1;have p2:=(p1.lenE T.row).mark (b':=H.next) (L':=mkM L H.next 1) (by omega) λt ht=>by unfold mkM;rw[if_neg (by omega)]
 have a:=TB.start p2 (r:=σ.next+1) (by omega) (by rw[k1.obj _ (by omega)];exact DN) (by omega);have hv:RowAt (mkM (mkM L H.next 1) h.next 7) (h.new [V,W,U]) H.next (λm=>m=O.length) (.sl H.next 0 O.length (.known O.length)):=by
  refine⟨ys,iP,H.next,.known O.length,by rw[iP],.inr (by rw[iP]),by rw[zH,if_neg (by omega),k1.obj _ (by omega)];exact Le,na _,by show H.next<h.next+1;omega,?_⟩;unfold mkM;rw[if_neg (by omega),if_pos rfl]
 have k2:Keep H1 (h.new [V,W,U]):=k1.new _;simp only[Z3,seval,-ae,p2.hO.one,p2.hP.one,p2.hC.one];generalize h.next=sl at *
 generalize h.new [V,W,U]=g at *
 clear p1 p2 k1;have ob:=hp _ (YK gJ);have Rx:=ob.b1;have gx:(pis O)[j]? = some (.int .i64 O[j]):=by rw[zK,gi gJ];rfl
 have rx:g.rd1 σ.next 0=some (.fz B N O.length (pis O)):=by rw[zI (by rw[k2.obj _ (by omega)];exact DM)];rfl
 have fin:∀{g:PHeap} {L':Nat->Nat} {t:Bool},Keep H g->TB H.next g (λm=>m=O.length) O L' O.length O.length (λi=>O.length-1-i) (σ.next+1) sl V W U->
   g.wr (σ.next+1) 0 [V,W,U]=some (g.set (σ.next+1) [V,W,U])/\(g.set (σ.next+1) [V,W,U]).rd (σ.next+1) 0 3=some [V,W,U]/\Gh σ K (.tup [.agg [V,W,U],.bool t]) (g.set (σ.next+1) [V,W,U]):=λ{g L' t} LF a=>by
  obtain⟨e1,e2,e3⟩:=a.fin;exact⟨e1,e2,e3.fin2b ((kH.trans LF).set (by omega) _) (by omega) λB wP wC P C r1 r2=>hk B wP wC P C t r1 r2⟩
 have l3:(3:Int)<=(l.length:Int):=by omega
 have HO:3<=l.length:=by omega
 have HN:(3:Int)<=((4:Nat):Int):=by decide
 simp only[Z3,seval,-ae,X,S,n3,rx,gJ,gk,gx,l3,HO,h4,HN,Int.toNat_zero,Int.toNat_one,YQ (by omega:0<l.length),YQ (by omega:1<l.length),YQ (by omega:2<l.length),YQ (by omega:3<l.length)];have t10:(10:Int) ^ (5+1)=1000000:=by decide
 refine zId (n:=O[j]) 5 ⟨by omega,by omega,by rw[t10];omega⟩ (by decide) λd hd=>?_;simp only[Z3,seval,-ae,X,S,n3,rx,gJ,gk,gx,l3,HO,h4,HN,Int.toNat_zero,Int.toNat_one,YQ (by omega:0<l.length),YQ (by omega:1<l.length),YQ (by omega:2<l.length),YQ (by omega:3<l.length)];generalize (List.drop 3 (List.take 4 l) == d)=bb;cases bb;rotate_left
 .obtain⟨sP,capP,ds,rfl,w1,w2,w3,a2⟩:=a.putP gJ hv;have k3:Keep H (g.set sP ds):=(R.trans k2).set w1 _;obtain⟨G,I,J⟩:=fin (t:=true) k3 a2;have r1:=a.r1;have r3:=a2.r3;generalize g.set sP ds=A at *
  simp only[Z3,seval,-ae,r1,gJ,gk,w3,r3,G,I];exact J
 simp only[Z3,seval,-ae];by_cases i0:(l[3].toNat:Int)-97<0
 .obtain⟨G,I,J,Z⟩:=fin0 (R.trans k2);simp only[Z3,seval,-ae,i0,G,I,J,D,E,A];exact Z
 obtain⟨i,hi⟩:∃i:Nat,(l[3].toNat:Int)-97=i:=⟨((l[3].toNat:Int)-97).toNat,by omega⟩
 rw[hi]at i0 ⊢;by_cases i1:(j:Int)<=(i:Int)
 .obtain⟨G,I,J,Z⟩:=fin0 (R.trans k2);simp only[Z3,seval,-ae,i0,i1,G,I,J,D,E,A];exact Z
 have dr:i<O.length:=by omega
 have oV:(i:Int)<(O.length:Int):=by omega
 have j7:j-i-1<O.length-1-i:=by omega
 have iq:((j-i-1:Nat):Int)<((O.length-1-i:Nat):Int):=by omega
 have wk:IntKind.i64.wrap ((j:Int)-(i:Int))=(j:Int)-(i:Int):=WE;have jq:IntKind.i64.wrap ((j:Int)-(i:Int)-1)=((j-i-1:Nat):Int):=WQ
 obtain⟨sC,capC,u',kU,ds,rfl,rC,w1,w2,w3,w4,w5,a2⟩:=a.putC dr j7 hv;have k3:Keep H (g.set u' ds):=(R.trans k2).set w3 _;obtain⟨G,I,J⟩:=fin (t:=true) k3 a2;have r2:=a.r2;have r3:=a2.r3;generalize g.set u' ds=A at *
 simp only[Z3,seval,-ae,i0,i1,r2,rC,dr,oV,j7,iq,wk,jq,w5,r3,G,I];exact J
end
section
variable{L:Nat->Nat}{s t:List UInt8}
theorem zHZ(D:FI vX O)(E:O.length<=1000)(G:∀u A l P C,IsPr u A l O P C->PQ3 (λm=>m=O.length) P C O.length O.length (λj=>O.length-1-j)->K (.agg [u,A,l]) σ):zA Tryz.prog 197 [vX] σ K:=
 zA.gh (zDE D E λL h vO vP vC I a=>a.fin I (na _) λu A l P C B H=>G u A l P C B H)
theorem Fm.sz{N:Nat}(a:Fm N O P C)(A:N<=1000):SzP O P C:=by
 have n:=a.n;have q:=a.q;refine⟨by omega,⟨by rw[q.pl];omega,λr l=>by have:=q.pq r l;omega⟩,⟨by rw[q.cl];omega,λw hw=>⟨?_,λr l=>by have:=q.cq w hw r l;omega⟩⟩⟩;obtain⟨i,u,rfl⟩:=YE.1 hw
 have:=q.row i (by rw[<-q.cl];exact u)
 rw[YB,YQ u]at this;have e:C[i].length=O.length-1-i:=this;omega
theorem zDK(hs:s.length<=500)(hk:∀e A B u O P C,IsPr A B u O P C->Fm 6 O P C->K (.tup [.agg [A,B,u],.int .i64 e]) σ):zA Tryz.prog 269 [.str s] σ K:=by
 have DQ:=hk 6 _ _ _ [] [] [] ⟨⟨true,.nils,rfl⟩,⟨true,.nils,[],rfl,All2.nil _⟩,⟨true,.nils,[],rfl,All2.nil _⟩⟩ (Fm.nil 6);have nil:∀{h:PHeap},Keep σ h->Gh σ K (.tup [.agg [.fz true .nils 0 [],.fz true .nils 0 [],.fz true .nils 0 []],.int .i64 6]) h:=λ{h} I=>Gh.fin0 I ⟨⟨trivial,trivial,trivial,trivial⟩,trivial,trivial⟩ DQ;refine zA.gh ?_;refine zD mix Tryz.func269 ?_;simp only[Z3,seval,-ae];refine zCL (s:=s) (by omega) λa n cells dQ vi bY bX=>?_;obtain⟨p0,fG,E5⟩:=bX _ (YK (by omega:0<cells.length));have c0:cells[0]? = some (.str p0):=by rw[YQ (by omega),fG]
 have z0:(0:Int)<(n:Int):=by omega
 have JL:0<n:=by omega
 simp only[Z3,seval,-ae,z0,JL,c0];refine zKM (s:=p0) (by omega) λvX O t hX Gf IS=>?_;have IK:=hX.one;cases t
 .simp only[Z3,seval,-ae,IK];exact nil (zC _ _)
 simp only[Z3,seval,-ae,IK];refine zHZ hX (by omega) λA B u P C l H=>?_;have J:=l.O.one;have N:=l.P.one;have R:=l.C.one;simp only[Z3,seval,-ae,J,N,R];have nil3:∀{h:PHeap},Keep σ h->σ.next<h.next->h.obj σ.next=some [PV.fz true AV.nils 0 [],PV.fz true AV.nils 0 [],PV.fz true AV.nils 0 []]->
   h.wr σ.next 0 [.fz true .nils 0 [],.fz true .nils 0 [],.fz true .nils 0 []]=some (h.set σ.next [.fz true .nils 0 [],.fz true .nils 0 [],.fz true .nils 0 []])/\(h.set σ.next [.fz true .nils 0 [],.fz true .nils 0 [],.fz true .nils 0 []]).rd σ.next 0 3=some [.fz true .nils 0 [],.fz true .nils 0 [],.fz true .nils 0 []]/\Gh σ K (.tup [.agg [.fz true .nils 0 [],.fz true .nils 0 [],.fz true .nils 0 []],.int .i64 6]) (h.set σ.next [.fz true .nils 0 [],.fz true .nils 0 [],.fz true .nils 0 []]):=λ{h} kh hl ho=>
  ⟨by rw[zT ho,if_pos ⟨by simp,rfl⟩];rfl,by rw[qH,if_pos rfl];rfl,nil (kh.set (na _) _)⟩
 refine zF (λm vs h=>∃(i:Nat) (A B u:PV) (P:V2) (C:V3),1<=i/\i<=n/\m=n-i/\vs=[.str s,.ptr σ.next 0,.fz true a n cells,.ptr (σ.next+1) 0,.int .i64 i]/\IsPr A B u O P C/\PQ3 (λm=>m=O.length) P C O.length O.length (λj=>O.length-1-j)/\
  Keep σ h/\σ.next+1<h.next/\h.obj σ.next=some [PV.fz true AV.nils 0 [],PV.fz true AV.nils 0 [],PV.fz true AV.nils 0 []]/\h.obj (σ.next+1)=some [A,B,u]) (n-1) ?_ ?_
 .exact⟨1,A,B,u,P,C,na _,dQ,rfl,rfl,l,H,(zC _ _).new _,by show _<σ.next+2;omega,by simp only[Z3,seval,-ae],by simp only[Z3,seval,-ae]⟩
 clear l H J N R
 rintro m vs h ⟨i,A,B,u,P,C,Cc,hi,rfl,rfl,l,H,I,hl,W,di⟩
 have J:=l.O.one;have N:=l.P.one;have R:=l.C.one;have r3:h.rd (σ.next+1) 0 3=some [A,B,u]:=by rw[zZ di];rfl
 have fm:Fm 6 O P C:=⟨Gf,λa ha=>(IS a ha).b1,H⟩
 simp only[Z3,seval,-ae];refine iteI (λah=>?_) λaF=>?_
 .have aD:(i:Int)<(n:Int):=by omega
  obtain⟨p1,gZ,E4⟩:=bX _ (YK (by omega:i<cells.length));have ci:cells[i]? = some (.str p1):=by rw[YQ (by omega),gZ]
  have wi:=WX ah;simp only[Z3,seval,-ae,r3,ah,aD,ci];refine zHa l Gf IS H (s:=p1) (by omega) λE G D P' C' t S aR=>?_;have X:=S.O.one;have Y:=S.P.one;have Z:=S.C.one;have w:h.wr (σ.next+1) 0 [E,G,D]=some (h.set (σ.next+1) [E,G,D]):=by rw[zT di,if_pos ⟨by simp,by simp[X,Y,Z]⟩];rfl
  have uU:Keep σ (h.set (σ.next+1) [E,G,D]):=I.set (by omega) _;have bH:σ.next+1<(h.set (σ.next+1) [E,G,D]).next:=hl;have jt:(h.set (σ.next+1) [E,G,D]).obj σ.next=some [PV.fz true AV.nils 0 [],PV.fz true AV.nils 0 [],PV.fz true AV.nils 0 []]:=by rw[zG,if_neg (by omega)];exact W
  have sL:(h.set (σ.next+1) [E,G,D]).obj (σ.next+1)=some [E,G,D]:=by rw[zG,if_pos rfl]
  generalize h.set (σ.next+1) [E,G,D]=g at *
  cases t
  .obtain⟨T,U,V⟩:=nil3 uU (by omega) jt;simp only[Z3,seval,-ae,X,Y,Z,w,T,U];exact V
  simp only[Z3,seval,-ae,X,Y,Z,w,wi];exact⟨_,by omega,i+1,E,G,D,P',C',by omega,by omega,rfl,rfl,S,aR,uU,bH,jt,sL⟩
 simp only[Z3,seval,-ae,r3];refine Z5 l (fm.sz (by decide)) λt ht=>?_;obtain⟨T,U,V⟩:=nil3 I (by omega) W;cases t
 .simp only[Z3,seval,-ae,T,U];exact V
 simp only[Z3,seval,-ae,r3];refine zNi l (ht.1 rfl) λq=>?_;cases iG:q == s
 .have an:¬q=s:=λe=>by rw[e]at iG;simp at iG
  simp only[Z3,seval,-ae,iG,T,U];exact V
 have w:h.wr σ.next 0 [A,B,u]=some (h.set σ.next [A,B,u]):=by rw[zT W,if_pos ⟨by simp,by simp[J,N,R]⟩];rfl
 have r:(h.set σ.next [A,B,u]).rd σ.next 0 3=some [A,B,u]:=by rw[qH,if_pos rfl];rfl
 simp only[Z3,seval,-ae,iG,r3,w,r,J,N,R];exact Gh.fin0 (I.set (na _) _) ⟨⟨l.O.bel _,l.P.bel _,l.C.bel _,trivial⟩,trivial,trivial⟩ (hk 0 A B u O P C l fm)
end
section
variable{s:List UInt8}
def strOK:PV->Bool
 | .str q=>decide (q.length<=500)
 |_=>false
theorem zO4{l:List PV}{r:Nat}{K:PV->Prop}(h:l.all strOK=true)(A:r<l.length)(B:∀q:List UInt8,q.length<=500->K (.str q)):optK l[r]? K:=by
 have u:=List.all_eq_true.1 h _ (YK A);rw[YQ A];refine⟨_,rfl,?_⟩;generalize l[r]=c at *
 cases c<;>simp only[strOK,Bool.false_eq_true,decide_eq_true_eq]at u
 exact B _ u
theorem zKL{k:Int}(fg:0<=k/\k<=1000)(hk:∀D E B O P C,IsPr D E B O P C->Fm 18 O P C->K (.agg [D,E,B]) σ):zA Tryz.prog 257 [.int .i64 k] σ K:=by
 refine zA.gh ?_;have r0:0<=k.tmod 10/\k.tmod 10<10:=⟨Int.tmod_nonneg _ fg.1,Int.tmod_lt_of_pos _ (by decide)⟩
 obtain⟨r,hr⟩:∃r:Nat,k.tmod 10=r:=⟨(k.tmod 10).toNat,by omega⟩
 have yH:r<10:=by omega
 have yG:(r:Int)<((10:Nat):Int):=by omega
 have wi:IntKind.i64.wrap (r:Int)=(r:Int):=WE;refine zD mix Tryz.func257 ?_;simp only[Z3,seval,-ae,hr,wi,yH,yG];refine zO4 rfl yH λq hq=>?_;simp only[Z3,seval,-ae];generalize N:(σ.new [PV.fz true AV.nils 0 [],PV.fz true AV.nils 0 [],PV.fz true AV.nils 0 []]).new _=H;have eX:H.next=σ.next+2:=by rw[<-N];rfl
 have kH:Keep σ H:=by rw[<-N];exact(zC _ _).new _
 have dB:H.obj σ.next=some [PV.fz true AV.nils 0 [],PV.fz true AV.nils 0 [],PV.fz true AV.nils 0 []]:=by rw[<-N];simp only[Z3,seval,-ae]
 clear N;refine zDK (s:=q) hq λe D E B O P C J fm=>?_;have X:=J.O.one;have Y:=J.P.one;have Z:=J.C.one;have W:¬σ.next=H.next:=by omega
 have wF:=fm.mono (N':=18) (by decide);have wH:∀{u A l:PV},u.one=true->A.one=true->l.one=true->H.wr σ.next 0 [u,A,l]=some (H.set σ.next [u,A,l]):=λ{u A l} h1 h2 h3=>by rw[zT dB,if_pos ⟨by simp,by simp[h1,h2,h3]⟩];rfl
 by_cases U:e=0
 .subst U;have w:=wH X Y Z;have r:(H.set σ.next [D,E,B]).rd σ.next 0 3=some [D,E,B]:=by rw[qH,if_pos rfl];rfl
  have V:Keep σ (H.set σ.next [D,E,B]):=kH.set (na _) _;have n2:¬σ.next=(H.set σ.next [D,E,B]).next:=W;generalize H.set σ.next [D,E,B]=g at *
  simp only[Z3,seval,-ae,X,Y,Z,W,w,r,n2];exact Gh.fin0 (V.new _) ⟨J.O.bel _,J.P.bel _,J.C.bel _,trivial⟩ (hk D E B O P C J wF)
 have d0:(e=0)=False:=by simp[U]
 simp only[Z3,seval,-ae,X,Y,Z,W,U,d0];have kG:Keep H ((H.new [D,E,B]).new [PV.int IntKind.i64 2]):=(zC _ _).new _;have Lk:((H.new [D,E,B]).new [PV.int IntKind.i64 2]).obj (H.next+1)=some (pis [2]):=by rw[zH];exact if_pos rfl
 have Lh:((H.new [D,E,B]).new [PV.int IntKind.i64 2]).obj H.next=some [D,E,B]:=by rw[zH,if_neg (by show ¬H.next=H.next+1;omega),zH,if_pos rfl]
 have Sv:((H.new [D,E,B]).new [PV.int IntKind.i64 2]).next=H.next+2:=rfl;generalize (H.new [D,E,B]).new [PV.int IntKind.i64 2]=G at *
 refine zDh (s:=H.next+1) (O:=[2]) (cap:=.known 1) Lk (by omega) (by decide) λu A l P' C' I aR=>?_;have R:=I.O.one;have S:=I.P.one;have T:=I.C.one;have w1:G.wr H.next 0 [u,A,l]=some (G.set H.next [u,A,l]):=by rw[zT Lh,if_pos ⟨by simp,by simp[R,S,T]⟩];rfl
 have kS:Keep H (G.set H.next [u,A,l]):=kG.set (na _) _;have r1:(G.set H.next [u,A,l]).rd H.next 0 3=some [u,A,l]:=by rw[qH,if_pos rfl];rfl
 have jt:(G.set H.next [u,A,l]).obj σ.next=some [PV.fz true AV.nils 0 [],PV.fz true AV.nils 0 [],PV.fz true AV.nils 0 []]:=by rw[kS.obj _ (by omega)];exact dB
 generalize G.set H.next [u,A,l]=g at *
 have w2:g.wr σ.next 0 [u,A,l]=some (g.set σ.next [u,A,l]):=by rw[zT jt,if_pos ⟨by simp,by simp[R,S,T]⟩];rfl
 have r2:(g.set σ.next [u,A,l]).rd σ.next 0 3=some [u,A,l]:=by rw[qH,if_pos rfl];rfl
 have V:Keep σ (g.set σ.next [u,A,l]):=(kH.trans kS).set (na _) _;simp only[Z3,seval,-ae,R,S,T,w1,r1,w2,r2];exact Gh.fin0 V ⟨I.O.bel _,I.P.bel _,I.C.bel _,trivial⟩ (hk u A l [2] P' C' I ⟨by decide,by decide,aR⟩)
end
section
open Go.Mx
variable{b:Nat}{cs:List PV}
abbrev nil3:List PV:=[.fz true .nils 0 [],.fz true .nils 0 [],.fz true .nils 0 []]
theorem zQY{N:Nat}(I:s0<σ.next)(R:∀u A l O P C σ',IsPr u A l O P C->Fm N O P C->Mv σ s0 σ'->So σ' s0 vS bs->K (.agg [u,A,l]) σ')
  {g:PHeap} (km:KM σ s0 g) (V:So g s0 vS bs) (U:g.obj σ.next=some nil3) {u A l:PV} (B:IsPr u A l O P C) (J:Fm N O P C):
  u.one=true/\A.one=true/\l.one=true/\g.wr σ.next 0 [u,A,l]=some (g.set σ.next [u,A,l])/\(g.set σ.next [u,A,l]).rd σ.next 0 3=some [u,A,l]/\Gh σ K (.agg [u,A,l]) (g.set σ.next [u,A,l]):=by
 have D:=B.O.one;have E:=B.P.one;have G:=B.C.one;refine⟨D,E,G,by rw[zT U,if_pos ⟨by simp[nil3],by simp[D,E,G]⟩];rfl,by rw[qH,if_pos rfl];rfl,?_⟩;refine Gh.km (km.set (na _) _) (V.set (by omega) _) I λσ' T H S=>Gh.fin0 S ⟨B.O.bel _,B.P.bel _,B.C.bel _,trivial⟩ (R _ _ _ O P C σ' B J T H)
theorem ve_of{p:Int}{v:V1}(l:0<p)(h:∀x∈v,0<=x/\x<p):Ve p v.length v:=by
 refine⟨rfl,λj=>?_⟩;rcases YG j v.length with hj|hj
 .rw[at_eq hj];exact h _ (YK hj)
 .unfold at_;rw[YB,Yq hj];exact⟨UD _,l⟩
theorem ma_of{p:Int}{n:Nat}{M:V2}(A:0<p)(h:∀r∈M,r.length=n/\∀x∈r,0<=x/\x<p):Ma p n M:=λr B=>by
 obtain⟨l,u⟩:=h r B;rw[<-l];exact ve_of A u
def RowS(h:PHeap)(c:PV)(x:V1):Prop:=∃t cap,c=PV.sl t 0 x.length cap/\h.obj t=some (pis x)/\t<h.next
theorem qQ{h:PHeap}{c:PV}{x:V1}{M:V2}(a:RowS h c x)(b:All2 (RowS h) cs M):All2 (RowS h) (c::cs) (x::M):=by
 refine⟨by simp[b.1],λi v y l u=>?_⟩;cases i with
 |zero=>simp only[List.getElem?_cons_zero,YD]at l u;rw[<-l,<-u];exact a
 |succ i=>simp only[List.getElem?_cons_succ]at l u;exact b.2 i v y l u
theorem PSl.mv'{e n:Nat}{cs:List PV}(a:PSl b e h v n cs)(hs:s0<b)(m:Mv h s0 h'):PSl b e h' v n cs:=by
 obtain⟨s,cap,rfl,l,u,A,B,D⟩:=a;exact⟨s,cap,rfl,l,by rw[m.obj (by omega)];exact u,A,B,by rw[m.next];exact D⟩
theorem zDi(so:So σ s0 vS bs)(hk:∀Y Z X O P C σ',IsPr Y Z X O P C->Fm 18 O P C->Mv σ s0 σ'->So σ' s0 vS bs->K (.agg [Y,Z,X]) σ'):zA Tryz.prog 232 [.ptr s0 0] σ K:=by
 have cA:=so.lt;refine zA.gh ?_;refine zD mix Tryz.func232 ?_;simp only[Z3,seval,-ae];generalize hH:σ.new [PV.fz true AV.nils 0 [],PV.fz true AV.nils 0 [],PV.fz true AV.nils 0 []]=H;have eX:H.next=σ.next+1:=by rw[<-hH];rfl
 have cV:s0<H.next:=by omega
 have dB:H.obj σ.next=some nil3:=by rw[<-hH];simp only[Z3,seval,-ae]
 have nH:KM σ s0 H:=by rw[<-hH];exact so.kmK (zC _ _)
 have jT:So H s0 vS bs:=by rw[<-hH];exact so.keep (zC _ _)
 clear hH;have fin:∀{g:PHeap} {Y Z X:PV} {O:V1} {P:V2} {C:V3},KM H s0 g->So g s0 vS bs->IsPr Y Z X O P C->Fm 18 O P C->
   Y.one=true/\Z.one=true/\X.one=true/\g.wr σ.next 0 [Y,Z,X]=some (g.set σ.next [Y,Z,X])/\(g.set σ.next [Y,Z,X]).rd σ.next 0 3=some [Y,Z,X]/\Gh σ K (.agg [Y,Z,X]) (g.set σ.next [Y,Z,X]):=λ{g Y Z X O P C} km bW l u=>
  zQY cA hk (nH.trans cA km) bW (by rw[km.obj (by omega) (by omega)];exact dB) l u
 have fin2:∀{g:PHeap} {Y Z X:PV} {O:V1} {P:V2} {C:V3},KM σ s0 g->So g s0 vS bs->IsPr Y Z X O P C->Fm 18 O P C->Gh σ K (.agg [Y,Z,X]) g:=λ{g Y Z X O P C} km bW l u=>
  Gh.km km bW cA λσ' m' lD kp=>Gh.fin0 kp ⟨l.O.bel _,l.P.bel _,l.C.bel _,trivial⟩ (hk _ _ _ O P C σ' l u m' lD)
 refine zV (n:=9) jT (by decide) λx1 h gD m1 dh=>?_;have eQ:KM H s0 h:=jT.km.mv cV m1;have dQ:=m1.next;clear m1;by_cases e0:x1=0
 .subst e0;simp only[Z3,seval,-ae];refine zV (n:=5) (dh.keep (zC _ _)) (by decide) λx2 h2 iD W R=>?_;have N:=(eQ.new []).mv cV W;have HU:=iD.lt (by decide);have eR:=iD.1;have sG:PSl H.next 1 h2 (.sl h.next 0 0 (.known 0)) 0 []:=PSl.mv' (PSl.own (n:=0) (.inr rfl) (by rw[zH,if_pos rfl]) rfl (by omega) (YP _)) cV W;simp only[Z3,seval,-ae];refine zF (λm vs g=>∃(x:Nat) (v:PV) (O:V1),m=x/\vs=[.ptr s0 0,.ptr σ.next 0,v,.int .i64 x]/\O.length+x<=5/\(∀a∈O,1<=a/\a<=1000)/\KM H s0 g/\So g s0 vS bs/\PSl H.next 1 g v O.length (pis O)) x2.toNat ?_ ?_
  .exact⟨x2.toNat,_,[],rfl,by rw[YI eR];rfl,by simp;omega,λa ha=>(by cases ha),N,R,sG⟩
  rintro x vs g ⟨x',v,O,rfl,rfl,hx,hO,km,bW,pa⟩
  have p1:=pa.one;simp only[Z3,seval,-ae,p1];refine iteI (λaQ=>?_) λaF=>?_
  .refine QU (xs:=[2,2,3]) (t:=g.next) (bW.keep (zC _ _)) (by have:=km.next;omega) (by rw[zH,if_pos rfl];rfl) (by decide) λy g' hy m3 cQ=>?_;have ks:=PSl.mv' (pa.keep (zC g [PV.int .i64 2,PV.int .i64 2,PV.int .i64 3])) cV m3;obtain⟨σ',m',kp⟩:=(km.new _).mv cV m3;have yb:2<=y/\y<=3:=by
    simp only[YH,Yp,or_false]at hy;omega
   simp only[Z3,seval,-ae,p1];have cb:=m'.next;refine PSl.push (σb:=σ') (bytes:=8) kp (by rw[cb];exact ks) (by omega) (by omega) λv2 A k2 a2=>?_;have p2:=a2.one;have wx:IntKind.i64.wrap ((x:Int)-1)=((x-1:Nat):Int):=WQ
   simp only[Z3,seval,-ae,p2,wx];refine⟨x-1,by omega,x-1,v2,O++[y],rfl,rfl,by rw[YV,Yz];omega,λa ha=>?_,⟨σ',m',k2⟩,(zHt kp cQ (by rw[cb];exact cV)).keep k2,?_⟩
   .rcases YY.1 ha with ha|ha
    .exact hO a ha
    .rw[YN.1 ha];omega
   .have e:pis (O++[y])=pis O++[.int .i64 y]:=by simp[pis]
    rw[e,YV,<-cb];exact a2
  obtain⟨st,dH,rfl,q1,q2,q3,q4,q5⟩:=pa;simp only[Z3,seval,-ae];refine zDh q2 q5 (by omega) λT U S P' C' du aR=>?_;obtain⟨E,A,I,B,D,J⟩:=fin km bW du ⟨by omega,hO,aR⟩;simp only[Z3,seval,-ae,E,A,I,B,D];exact J
 by_cases e1:x1=1
 .subst e1;simp only[Z3,seval,-ae];refine QU (xs:=[1,4,6,8,9,12,5,7,27,25,36]) (t:=h.next) (dh.keep (zC _ _)) (by omega) (by rw[zH,if_pos rfl];rfl) (by decide) λy g hy W R=>?_;have N:=(eQ.new [PV.int .i64 1,PV.int .i64 4,PV.int .i64 6,PV.int .i64 8,PV.int .i64 9,PV.int .i64 12,PV.int .i64 5,PV.int .i64 7,PV.int .i64 27,PV.int .i64 25,PV.int .i64 36]).mv cV W;have yb:1<=y/\y<=36:=by
   simp only[YH,Yp,or_false]at hy;omega
  have w1:IntKind.i64.wrap (y-1)=y-1:=WE;simp only[Z3,seval,-ae];refine zOI (by omega) λe T U S O P C l u=>?_;have o1:=l.O.one;have o2:=l.P.one;have o3:=l.C.one;have wF:=u.mono (N':=18) (by decide);have Iu:=N.next;have n1:¬σ.next=g.next:=by omega
  obtain⟨E,A,I,B,D,J⟩:=fin N R l wF;have ng:(g.set σ.next [T,U,S]).next=g.next:=rfl;simp only[Z3,seval,-ae,o1,o2,o3,n1,B,D,ng];exact fin2 (((nH.trans cA N).set (na _) _).new _) ((R.set (by omega) _).keep (zC _ _)) l wF
 by_cases e2:x1=2
 .subst e2;simp only[Z3,seval,-ae];refine QU (xs:=[3,4,5,6,7,8,9,12]) (t:=h.next) (dh.keep (zC _ _)) (by omega) (by rw[zH,if_pos rfl];rfl) (by decide) λy g hy W R=>?_;have N:=(eQ.new [PV.int .i64 3,PV.int .i64 4,PV.int .i64 5,PV.int .i64 6,PV.int .i64 7,PV.int .i64 8,PV.int .i64 9,PV.int .i64 12]).mv cV W;have yb:3<=y/\y<=12:=by
   simp only[YH,Yp,or_false]at hy;omega
  have w1:IntKind.i64.wrap (y-1)=y-1:=WE;simp only[Z3,seval,-ae,w1];refine Zg (n:=2) (by decide) (by omega) (by omega) (by decide) λT U S O P C l u=>?_;obtain⟨E,A,I,B,D,J⟩:=fin N R l u;simp only[Z3,seval,-ae,E,A,I,B,D];exact J
 by_cases e3:x1=3
 .subst e3;simp only[Z3,seval,-ae];refine QU (xs:=[4,6,8,12]) (t:=h.next) (dh.keep (zC _ _)) (by omega) (by rw[zH,if_pos rfl];rfl) (by decide) λy g hy W R=>?_;have N:=(eQ.new [PV.int .i64 4,PV.int .i64 6,PV.int .i64 8,PV.int .i64 12]).mv cV W;have yb:4<=y/\y<=12:=by
   simp only[YH,Yp,or_false]at hy;omega
  have w1:IntKind.i64.wrap (y-1)=y-1:=WE;have d1:0<=y.tdiv 2:=Int.tdiv_nonneg (by omega) (by decide);have d2:y.tdiv 2<=y:=Int.tdiv_le_self _ (by omega);have w2:IntKind.i64.wrap (y.tdiv 2)=y.tdiv 2:=WE;simp only[Z3,seval,-ae,w1,w2];refine Zg (n:=2) (by decide) (by omega) (by omega) (by omega) λT U S O P C l u=>?_;obtain⟨E,A,I,B,D,J⟩:=fin N R l u;simp only[Z3,seval,-ae,E,A,I,B,D];exact J
 by_cases e4:x1=4
 .subst e4;simp only[Z3,seval,-ae];refine zV (n:=6) dh (by decide) λx2 g iD W R=>?_;have N:=eQ.mv cV W;by_cases f0:x2=0
  .subst f0;simp only[Z3,seval,-ae];refine Zg (n:=3) (m:=7) (a:=2) (c:=0) (by decide) (by decide) (by decide) (by decide) λT U S O P C l u=>?_;obtain⟨E,A,I,B,D,J⟩:=fin N R l u;simp only[Z3,seval,-ae,E,A,I,B,D];exact J
  by_cases f1:x2=1
  .subst f1;simp only[Z3,seval,-ae];refine Zg (n:=4) (m:=5) (a:=2) (c:=0) (by decide) (by decide) (by decide) (by decide) λT U S O P C l u=>?_;obtain⟨E,A,I,B,D,J⟩:=fin N R l u;simp only[Z3,seval,-ae,E,A,I,B,D];exact J
  by_cases f2:x2=2
  .subst f2;simp only[Z3,seval,-ae];refine Zg (n:=2) (m:=8) (a:=3) (c:=0) (by decide) (by decide) (by decide) (by decide) λT U S O P C l u=>?_;obtain⟨E,A,I,B,D,J⟩:=fin N R l u;simp only[Z3,seval,-ae,E,A,I,B,D];exact J
  by_cases f3:x2=3
  .subst f3;simp only[Z3,seval,-ae];refine Zg (n:=2) (m:=8) (a:=5) (c:=0) (by decide) (by decide) (by decide) (by decide) λT U S O P C l u=>?_;obtain⟨E,A,I,B,D,J⟩:=fin N R l u;simp only[Z3,seval,-ae,E,A,I,B,D];exact J
  by_cases f4:x2=4
  .subst f4;simp only[Z3,seval,-ae];refine Zg (n:=4) (m:=4) (a:=3) (c:=0) (by decide) (by decide) (by decide) (by decide) λT U S O P C l u=>?_;obtain⟨E,A,I,B,D,J⟩:=fin N R l u;simp only[Z3,seval,-ae,E,A,I,B,D];exact J
  simp only[Z3,seval,-ae,f0,f1,f2,f3,f4];refine Zg (n:=3) (m:=9) (a:=4) (c:=0) (by decide) (by decide) (by decide) (by decide) λT U S O P C l u=>?_;obtain⟨E,A,I,B,D,J⟩:=fin N R l u;simp only[Z3,seval,-ae,E,A,I,B,D];exact J
 by_cases e5:x1=5
 .subst e5;simp only[Z3,seval,-ae];refine QU (xs:=[2,3,2,3,5]) (t:=h.next) (dh.keep (zC _ _)) (by omega) (by rw[zH,if_pos rfl];rfl) (by decide) λy g hy W R=>?_;have N:=(eQ.new [PV.int .i64 2,PV.int .i64 3,PV.int .i64 2,PV.int .i64 3,PV.int .i64 5]).mv cV W;have yb:2<=y/\y<=5:=by
   simp only[YH,Yp,or_false]at hy;omega
  have w1:IntKind.i64.wrap (y-1)=y-1:=WE;simp only[Z3,seval,-ae];refine zBl R (by omega) λT U S O P C g' l u m3 cQ=>?_;obtain⟨E,A,I,B,D,J⟩:=fin (N.mv cV m3) cQ l u;simp only[Z3,seval,-ae,E,A,I,B,D];exact J
 by_cases e6:x1=6
 .subst e6;simp only[Z3,seval,-ae];refine zV (n:=6) dh (by decide) λx2 g iD W R=>?_;have N:=eQ.mv cV W;by_cases f0:x2=0
  .subst f0;simp only[Z3,seval,-ae];have V:Keep g (((g.new [PV.int IntKind.i64 2,PV.int IntKind.i64 0]).new [PV.int IntKind.i64 0,PV.int IntKind.i64 2]).new [PV.sl g.next 0 2 (.known 2),PV.sl (g.next+1) 0 2 (.known 2)]):=((zC _ _).new _).new _;have lJ:(((g.new [PV.int IntKind.i64 2,PV.int IntKind.i64 0]).new [PV.int IntKind.i64 0,PV.int IntKind.i64 2]).new [PV.sl g.next 0 2 (.known 2),PV.sl (g.next+1) 0 2 (.known 2)]).obj (g.next+2)=some [PV.sl g.next 0 2 (.known 2),PV.sl (g.next+1) 0 2 (.known 2)]:=by rw[zH];exact if_pos rfl
   have dB:(((g.new [PV.int IntKind.i64 2,PV.int IntKind.i64 0]).new [PV.int IntKind.i64 0,PV.int IntKind.i64 2]).new [PV.sl g.next 0 2 (.known 2),PV.sl (g.next+1) 0 2 (.known 2)]).obj g.next=some (pis [2,0]):=by simp only[Z3,seval,-ae];rfl
   have di:(((g.new [PV.int IntKind.i64 2,PV.int IntKind.i64 0]).new [PV.int IntKind.i64 0,PV.int IntKind.i64 2]).new [PV.sl g.next 0 2 (.known 2),PV.sl (g.next+1) 0 2 (.known 2)]).obj (g.next+1)=some (pis [0,2]):=by simp only[Z3,seval,-ae];rfl
   have hG:(((g.new [PV.int IntKind.i64 2,PV.int IntKind.i64 0]).new [PV.int IntKind.i64 0,PV.int IntKind.i64 2]).new [PV.sl g.next 0 2 (.known 2),PV.sl (g.next+1) 0 2 (.known 2)]).next=g.next+3:=rfl;generalize (((g.new [PV.int IntKind.i64 2,PV.int IntKind.i64 0]).new [PV.int IntKind.i64 0,PV.int IntKind.i64 2]).new [PV.sl g.next 0 2 (.known 2),PV.sl (g.next+1) 0 2 (.known 2)])=G at *
   have hM:MatX G (.sl (g.next+2) 0 2 (.known 2)) [[2,0],[0,2]]:=⟨g.next+2,.known 2,_,rfl,lJ,by omega,qQ ⟨_,_,rfl,dB,by omega⟩ (qQ ⟨_,_,rfl,di,by omega⟩ (All2.nil _))⟩
   refine Zp (p:=3) (m:=2) (M:=[[2,0],[0,2]]) (by decide) (by decide) hM (ma_of (by decide) (by decide)) (by decide) λT U S O P C l u=>?_;obtain⟨E,A,I,B,D,J⟩:=fin (N.keep V) (R.keep V) l u;simp only[Z3,seval,-ae,E,A,I,B,D];exact J
  by_cases f1:x2=1
  .subst f1;simp only[Z3,seval,-ae];have V:Keep g (((g.new [PV.int IntKind.i64 0,PV.int IntKind.i64 1]).new [PV.int IntKind.i64 2,PV.int IntKind.i64 0]).new [PV.sl g.next 0 2 (.known 2),PV.sl (g.next+1) 0 2 (.known 2)]):=((zC _ _).new _).new _;have lJ:(((g.new [PV.int IntKind.i64 0,PV.int IntKind.i64 1]).new [PV.int IntKind.i64 2,PV.int IntKind.i64 0]).new [PV.sl g.next 0 2 (.known 2),PV.sl (g.next+1) 0 2 (.known 2)]).obj (g.next+2)=some [PV.sl g.next 0 2 (.known 2),PV.sl (g.next+1) 0 2 (.known 2)]:=by rw[zH];exact if_pos rfl
   have dB:(((g.new [PV.int IntKind.i64 0,PV.int IntKind.i64 1]).new [PV.int IntKind.i64 2,PV.int IntKind.i64 0]).new [PV.sl g.next 0 2 (.known 2),PV.sl (g.next+1) 0 2 (.known 2)]).obj g.next=some (pis [0,1]):=by simp only[Z3,seval,-ae];rfl
   have di:(((g.new [PV.int IntKind.i64 0,PV.int IntKind.i64 1]).new [PV.int IntKind.i64 2,PV.int IntKind.i64 0]).new [PV.sl g.next 0 2 (.known 2),PV.sl (g.next+1) 0 2 (.known 2)]).obj (g.next+1)=some (pis [2,0]):=by simp only[Z3,seval,-ae];rfl
   have hG:(((g.new [PV.int IntKind.i64 0,PV.int IntKind.i64 1]).new [PV.int IntKind.i64 2,PV.int IntKind.i64 0]).new [PV.sl g.next 0 2 (.known 2),PV.sl (g.next+1) 0 2 (.known 2)]).next=g.next+3:=rfl;generalize (((g.new [PV.int IntKind.i64 0,PV.int IntKind.i64 1]).new [PV.int IntKind.i64 2,PV.int IntKind.i64 0]).new [PV.sl g.next 0 2 (.known 2),PV.sl (g.next+1) 0 2 (.known 2)])=G at *
   have hM:MatX G (.sl (g.next+2) 0 2 (.known 2)) [[0,1],[2,0]]:=⟨g.next+2,.known 2,_,rfl,lJ,by omega,qQ ⟨_,_,rfl,dB,by omega⟩ (qQ ⟨_,_,rfl,di,by omega⟩ (All2.nil _))⟩
   refine Zp (p:=3) (m:=4) (M:=[[0,1],[2,0]]) (by decide) (by decide) hM (ma_of (by decide) (by decide)) (by decide) λT U S O P C l u=>?_;obtain⟨E,A,I,B,D,J⟩:=fin (N.keep V) (R.keep V) l u;simp only[Z3,seval,-ae,E,A,I,B,D];exact J
  by_cases f2:x2=2
  .subst f2;simp only[Z3,seval,-ae];have V:Keep g ((((g.new [PV.int IntKind.i64 0,PV.int IntKind.i64 1,PV.int IntKind.i64 0]).new [PV.int IntKind.i64 0,PV.int IntKind.i64 0,PV.int IntKind.i64 1]).new [PV.int IntKind.i64 1,PV.int IntKind.i64 1,PV.int IntKind.i64 0]).new [PV.sl g.next 0 3 (.known 3),PV.sl (g.next+1) 0 3 (.known 3),PV.sl (g.next+2) 0 3 (.known 3)]):=(((zC _ _).new _).new _).new _;have lJ:((((g.new [PV.int IntKind.i64 0,PV.int IntKind.i64 1,PV.int IntKind.i64 0]).new [PV.int IntKind.i64 0,PV.int IntKind.i64 0,PV.int IntKind.i64 1]).new [PV.int IntKind.i64 1,PV.int IntKind.i64 1,PV.int IntKind.i64 0]).new [PV.sl g.next 0 3 (.known 3),PV.sl (g.next+1) 0 3 (.known 3),PV.sl (g.next+2) 0 3 (.known 3)]).obj (g.next+3)=some [PV.sl g.next 0 3 (.known 3),PV.sl (g.next+1) 0 3 (.known 3),PV.sl (g.next+2) 0 3 (.known 3)]:=by rw[zH];exact if_pos rfl
   have dB:((((g.new [PV.int IntKind.i64 0,PV.int IntKind.i64 1,PV.int IntKind.i64 0]).new [PV.int IntKind.i64 0,PV.int IntKind.i64 0,PV.int IntKind.i64 1]).new [PV.int IntKind.i64 1,PV.int IntKind.i64 1,PV.int IntKind.i64 0]).new [PV.sl g.next 0 3 (.known 3),PV.sl (g.next+1) 0 3 (.known 3),PV.sl (g.next+2) 0 3 (.known 3)]).obj g.next=some (pis [0,1,0]):=by simp only[Z3,seval,-ae];rfl
   have di:((((g.new [PV.int IntKind.i64 0,PV.int IntKind.i64 1,PV.int IntKind.i64 0]).new [PV.int IntKind.i64 0,PV.int IntKind.i64 0,PV.int IntKind.i64 1]).new [PV.int IntKind.i64 1,PV.int IntKind.i64 1,PV.int IntKind.i64 0]).new [PV.sl g.next 0 3 (.known 3),PV.sl (g.next+1) 0 3 (.known 3),PV.sl (g.next+2) 0 3 (.known 3)]).obj (g.next+1)=some (pis [0,0,1]):=by simp only[Z3,seval,-ae];rfl
   have jU:((((g.new [PV.int IntKind.i64 0,PV.int IntKind.i64 1,PV.int IntKind.i64 0]).new [PV.int IntKind.i64 0,PV.int IntKind.i64 0,PV.int IntKind.i64 1]).new [PV.int IntKind.i64 1,PV.int IntKind.i64 1,PV.int IntKind.i64 0]).new [PV.sl g.next 0 3 (.known 3),PV.sl (g.next+1) 0 3 (.known 3),PV.sl (g.next+2) 0 3 (.known 3)]).obj (g.next+2)=some (pis [1,1,0]):=by simp only[Z3,seval,-ae];rfl
   have hG:((((g.new [PV.int IntKind.i64 0,PV.int IntKind.i64 1,PV.int IntKind.i64 0]).new [PV.int IntKind.i64 0,PV.int IntKind.i64 0,PV.int IntKind.i64 1]).new [PV.int IntKind.i64 1,PV.int IntKind.i64 1,PV.int IntKind.i64 0]).new [PV.sl g.next 0 3 (.known 3),PV.sl (g.next+1) 0 3 (.known 3),PV.sl (g.next+2) 0 3 (.known 3)]).next=g.next+4:=rfl;generalize ((((g.new [PV.int IntKind.i64 0,PV.int IntKind.i64 1,PV.int IntKind.i64 0]).new [PV.int IntKind.i64 0,PV.int IntKind.i64 0,PV.int IntKind.i64 1]).new [PV.int IntKind.i64 1,PV.int IntKind.i64 1,PV.int IntKind.i64 0]).new [PV.sl g.next 0 3 (.known 3),PV.sl (g.next+1) 0 3 (.known 3),PV.sl (g.next+2) 0 3 (.known 3)])=G at *
   have hM:MatX G (.sl (g.next+3) 0 3 (.known 3)) [[0,1,0],[0,0,1],[1,1,0]]:=⟨g.next+3,.known 3,_,rfl,lJ,by omega,qQ ⟨_,_,rfl,dB,by omega⟩ (qQ ⟨_,_,rfl,di,by omega⟩ (qQ ⟨_,_,rfl,jU,by omega⟩ (All2.nil _)))⟩
   refine Zp (p:=2) (m:=7) (M:=[[0,1,0],[0,0,1],[1,1,0]]) (by decide) (by decide) hM (ma_of (by decide) (by decide)) (by decide) λT U S O P C l u=>?_;obtain⟨E,A,I,B,D,J⟩:=fin (N.keep V) (R.keep V) l u;simp only[Z3,seval,-ae,E,A,I,B,D];exact J
  by_cases f3:x2=3
  .subst f3;simp only[Z3,seval,-ae];have V:Keep g ((((g.new [PV.int IntKind.i64 1,PV.int IntKind.i64 1,PV.int IntKind.i64 0]).new [PV.int IntKind.i64 0,PV.int IntKind.i64 1,PV.int IntKind.i64 1]).new [PV.int IntKind.i64 0,PV.int IntKind.i64 0,PV.int IntKind.i64 1]).new [PV.sl g.next 0 3 (.known 3),PV.sl (g.next+1) 0 3 (.known 3),PV.sl (g.next+2) 0 3 (.known 3)]):=(((zC _ _).new _).new _).new _;have lJ:((((g.new [PV.int IntKind.i64 1,PV.int IntKind.i64 1,PV.int IntKind.i64 0]).new [PV.int IntKind.i64 0,PV.int IntKind.i64 1,PV.int IntKind.i64 1]).new [PV.int IntKind.i64 0,PV.int IntKind.i64 0,PV.int IntKind.i64 1]).new [PV.sl g.next 0 3 (.known 3),PV.sl (g.next+1) 0 3 (.known 3),PV.sl (g.next+2) 0 3 (.known 3)]).obj (g.next+3)=some [PV.sl g.next 0 3 (.known 3),PV.sl (g.next+1) 0 3 (.known 3),PV.sl (g.next+2) 0 3 (.known 3)]:=by rw[zH];exact if_pos rfl
   have dB:((((g.new [PV.int IntKind.i64 1,PV.int IntKind.i64 1,PV.int IntKind.i64 0]).new [PV.int IntKind.i64 0,PV.int IntKind.i64 1,PV.int IntKind.i64 1]).new [PV.int IntKind.i64 0,PV.int IntKind.i64 0,PV.int IntKind.i64 1]).new [PV.sl g.next 0 3 (.known 3),PV.sl (g.next+1) 0 3 (.known 3),PV.sl (g.next+2) 0 3 (.known 3)]).obj g.next=some (pis [1,1,0]):=by simp only[Z3,seval,-ae];rfl
   have di:((((g.new [PV.int IntKind.i64 1,PV.int IntKind.i64 1,PV.int IntKind.i64 0]).new [PV.int IntKind.i64 0,PV.int IntKind.i64 1,PV.int IntKind.i64 1]).new [PV.int IntKind.i64 0,PV.int IntKind.i64 0,PV.int IntKind.i64 1]).new [PV.sl g.next 0 3 (.known 3),PV.sl (g.next+1) 0 3 (.known 3),PV.sl (g.next+2) 0 3 (.known 3)]).obj (g.next+1)=some (pis [0,1,1]):=by simp only[Z3,seval,-ae];rfl
   have jU:((((g.new [PV.int IntKind.i64 1,PV.int IntKind.i64 1,PV.int IntKind.i64 0]).new [PV.int IntKind.i64 0,PV.int IntKind.i64 1,PV.int IntKind.i64 1]).new [PV.int IntKind.i64 0,PV.int IntKind.i64 0,PV.int IntKind.i64 1]).new [PV.sl g.next 0 3 (.known 3),PV.sl (g.next+1) 0 3 (.known 3),PV.sl (g.next+2) 0 3 (.known 3)]).obj (g.next+2)=some (pis [0,0,1]):=by simp only[Z3,seval,-ae];rfl
   have hG:((((g.new [PV.int IntKind.i64 1,PV.int IntKind.i64 1,PV.int IntKind.i64 0]).new [PV.int IntKind.i64 0,PV.int IntKind.i64 1,PV.int IntKind.i64 1]).new [PV.int IntKind.i64 0,PV.int IntKind.i64 0,PV.int IntKind.i64 1]).new [PV.sl g.next 0 3 (.known 3),PV.sl (g.next+1) 0 3 (.known 3),PV.sl (g.next+2) 0 3 (.known 3)]).next=g.next+4:=rfl;generalize ((((g.new [PV.int IntKind.i64 1,PV.int IntKind.i64 1,PV.int IntKind.i64 0]).new [PV.int IntKind.i64 0,PV.int IntKind.i64 1,PV.int IntKind.i64 1]).new [PV.int IntKind.i64 0,PV.int IntKind.i64 0,PV.int IntKind.i64 1]).new [PV.sl g.next 0 3 (.known 3),PV.sl (g.next+1) 0 3 (.known 3),PV.sl (g.next+2) 0 3 (.known 3)])=G at *
   have hM:MatX G (.sl (g.next+3) 0 3 (.known 3)) [[1,1,0],[0,1,1],[0,0,1]]:=⟨g.next+3,.known 3,_,rfl,lJ,by omega,qQ ⟨_,_,rfl,dB,by omega⟩ (qQ ⟨_,_,rfl,di,by omega⟩ (qQ ⟨_,_,rfl,jU,by omega⟩ (All2.nil _)))⟩
   refine Zp (p:=2) (m:=4) (M:=[[1,1,0],[0,1,1],[0,0,1]]) (by decide) (by decide) hM (ma_of (by decide) (by decide)) (by decide) λT U S O P C l u=>?_;obtain⟨E,A,I,B,D,J⟩:=fin (N.keep V) (R.keep V) l u;simp only[Z3,seval,-ae,E,A,I,B,D];exact J
  by_cases f4:x2=4
  .subst f4;simp only[Z3,seval,-ae];have V:Keep g (((((g.new [PV.int IntKind.i64 0,PV.int IntKind.i64 1,PV.int IntKind.i64 0,PV.int IntKind.i64 0]).new [PV.int IntKind.i64 1,PV.int IntKind.i64 0,PV.int IntKind.i64 0,PV.int IntKind.i64 0]).new [PV.int IntKind.i64 0,PV.int IntKind.i64 0,PV.int IntKind.i64 0,PV.int IntKind.i64 1]).new [PV.int IntKind.i64 0,PV.int IntKind.i64 0,PV.int IntKind.i64 1,PV.int IntKind.i64 0]).new [PV.sl g.next 0 4 (.known 4),PV.sl (g.next+1) 0 4 (.known 4),PV.sl (g.next+2) 0 4 (.known 4),PV.sl (g.next+3) 0 4 (.known 4)]):=((((zC _ _).new _).new _).new _).new _;have lJ:(((((g.new [PV.int IntKind.i64 0,PV.int IntKind.i64 1,PV.int IntKind.i64 0,PV.int IntKind.i64 0]).new [PV.int IntKind.i64 1,PV.int IntKind.i64 0,PV.int IntKind.i64 0,PV.int IntKind.i64 0]).new [PV.int IntKind.i64 0,PV.int IntKind.i64 0,PV.int IntKind.i64 0,PV.int IntKind.i64 1]).new [PV.int IntKind.i64 0,PV.int IntKind.i64 0,PV.int IntKind.i64 1,PV.int IntKind.i64 0]).new [PV.sl g.next 0 4 (.known 4),PV.sl (g.next+1) 0 4 (.known 4),PV.sl (g.next+2) 0 4 (.known 4),PV.sl (g.next+3) 0 4 (.known 4)]).obj (g.next+4)=some [PV.sl g.next 0 4 (.known 4),PV.sl (g.next+1) 0 4 (.known 4),PV.sl (g.next+2) 0 4 (.known 4),PV.sl (g.next+3) 0 4 (.known 4)]:=by rw[zH];exact if_pos rfl
   have dB:(((((g.new [PV.int IntKind.i64 0,PV.int IntKind.i64 1,PV.int IntKind.i64 0,PV.int IntKind.i64 0]).new [PV.int IntKind.i64 1,PV.int IntKind.i64 0,PV.int IntKind.i64 0,PV.int IntKind.i64 0]).new [PV.int IntKind.i64 0,PV.int IntKind.i64 0,PV.int IntKind.i64 0,PV.int IntKind.i64 1]).new [PV.int IntKind.i64 0,PV.int IntKind.i64 0,PV.int IntKind.i64 1,PV.int IntKind.i64 0]).new [PV.sl g.next 0 4 (.known 4),PV.sl (g.next+1) 0 4 (.known 4),PV.sl (g.next+2) 0 4 (.known 4),PV.sl (g.next+3) 0 4 (.known 4)]).obj g.next=some (pis [0,1,0,0]):=by simp only[Z3,seval,-ae];rfl
   have di:(((((g.new [PV.int IntKind.i64 0,PV.int IntKind.i64 1,PV.int IntKind.i64 0,PV.int IntKind.i64 0]).new [PV.int IntKind.i64 1,PV.int IntKind.i64 0,PV.int IntKind.i64 0,PV.int IntKind.i64 0]).new [PV.int IntKind.i64 0,PV.int IntKind.i64 0,PV.int IntKind.i64 0,PV.int IntKind.i64 1]).new [PV.int IntKind.i64 0,PV.int IntKind.i64 0,PV.int IntKind.i64 1,PV.int IntKind.i64 0]).new [PV.sl g.next 0 4 (.known 4),PV.sl (g.next+1) 0 4 (.known 4),PV.sl (g.next+2) 0 4 (.known 4),PV.sl (g.next+3) 0 4 (.known 4)]).obj (g.next+1)=some (pis [1,0,0,0]):=by simp only[Z3,seval,-ae];rfl
   have jU:(((((g.new [PV.int IntKind.i64 0,PV.int IntKind.i64 1,PV.int IntKind.i64 0,PV.int IntKind.i64 0]).new [PV.int IntKind.i64 1,PV.int IntKind.i64 0,PV.int IntKind.i64 0,PV.int IntKind.i64 0]).new [PV.int IntKind.i64 0,PV.int IntKind.i64 0,PV.int IntKind.i64 0,PV.int IntKind.i64 1]).new [PV.int IntKind.i64 0,PV.int IntKind.i64 0,PV.int IntKind.i64 1,PV.int IntKind.i64 0]).new [PV.sl g.next 0 4 (.known 4),PV.sl (g.next+1) 0 4 (.known 4),PV.sl (g.next+2) 0 4 (.known 4),PV.sl (g.next+3) 0 4 (.known 4)]).obj (g.next+2)=some (pis [0,0,0,1]):=by simp only[Z3,seval,-ae];rfl
   have oe:(((((g.new [PV.int IntKind.i64 0,PV.int IntKind.i64 1,PV.int IntKind.i64 0,PV.int IntKind.i64 0]).new [PV.int IntKind.i64 1,PV.int IntKind.i64 0,PV.int IntKind.i64 0,PV.int IntKind.i64 0]).new [PV.int IntKind.i64 0,PV.int IntKind.i64 0,PV.int IntKind.i64 0,PV.int IntKind.i64 1]).new [PV.int IntKind.i64 0,PV.int IntKind.i64 0,PV.int IntKind.i64 1,PV.int IntKind.i64 0]).new [PV.sl g.next 0 4 (.known 4),PV.sl (g.next+1) 0 4 (.known 4),PV.sl (g.next+2) 0 4 (.known 4),PV.sl (g.next+3) 0 4 (.known 4)]).obj (g.next+3)=some (pis [0,0,1,0]):=by simp only[Z3,seval,-ae];rfl
   have hG:(((((g.new [PV.int IntKind.i64 0,PV.int IntKind.i64 1,PV.int IntKind.i64 0,PV.int IntKind.i64 0]).new [PV.int IntKind.i64 1,PV.int IntKind.i64 0,PV.int IntKind.i64 0,PV.int IntKind.i64 0]).new [PV.int IntKind.i64 0,PV.int IntKind.i64 0,PV.int IntKind.i64 0,PV.int IntKind.i64 1]).new [PV.int IntKind.i64 0,PV.int IntKind.i64 0,PV.int IntKind.i64 1,PV.int IntKind.i64 0]).new [PV.sl g.next 0 4 (.known 4),PV.sl (g.next+1) 0 4 (.known 4),PV.sl (g.next+2) 0 4 (.known 4),PV.sl (g.next+3) 0 4 (.known 4)]).next=g.next+5:=rfl;generalize (((((g.new [PV.int IntKind.i64 0,PV.int IntKind.i64 1,PV.int IntKind.i64 0,PV.int IntKind.i64 0]).new [PV.int IntKind.i64 1,PV.int IntKind.i64 0,PV.int IntKind.i64 0,PV.int IntKind.i64 0]).new [PV.int IntKind.i64 0,PV.int IntKind.i64 0,PV.int IntKind.i64 0,PV.int IntKind.i64 1]).new [PV.int IntKind.i64 0,PV.int IntKind.i64 0,PV.int IntKind.i64 1,PV.int IntKind.i64 0]).new [PV.sl g.next 0 4 (.known 4),PV.sl (g.next+1) 0 4 (.known 4),PV.sl (g.next+2) 0 4 (.known 4),PV.sl (g.next+3) 0 4 (.known 4)])=G at *
   have hM:MatX G (.sl (g.next+4) 0 4 (.known 4)) [[0,1,0,0],[1,0,0,0],[0,0,0,1],[0,0,1,0]]:=⟨g.next+4,.known 4,_,rfl,lJ,by omega,qQ ⟨_,_,rfl,dB,by omega⟩ (qQ ⟨_,_,rfl,di,by omega⟩ (qQ ⟨_,_,rfl,jU,by omega⟩ (qQ ⟨_,_,rfl,oe,by omega⟩ (All2.nil _))))⟩
   refine Zp (p:=2) (m:=2) (M:=[[0,1,0,0],[1,0,0,0],[0,0,0,1],[0,0,1,0]]) (by decide) (by decide) hM (ma_of (by decide) (by decide)) (by decide) λT U S O P C l u=>?_;obtain⟨E,A,I,B,D,J⟩:=fin (N.keep V) (R.keep V) l u;simp only[Z3,seval,-ae,E,A,I,B,D];exact J
  simp only[Z3,seval,-ae,f0,f1,f2,f3,f4];have V:Keep g (((g.new [PV.int IntKind.i64 0,PV.int IntKind.i64 1]).new [PV.int IntKind.i64 4,PV.int IntKind.i64 4]).new [PV.sl g.next 0 2 (.known 2),PV.sl (g.next+1) 0 2 (.known 2)]):=((zC _ _).new _).new _;have lJ:(((g.new [PV.int IntKind.i64 0,PV.int IntKind.i64 1]).new [PV.int IntKind.i64 4,PV.int IntKind.i64 4]).new [PV.sl g.next 0 2 (.known 2),PV.sl (g.next+1) 0 2 (.known 2)]).obj (g.next+2)=some [PV.sl g.next 0 2 (.known 2),PV.sl (g.next+1) 0 2 (.known 2)]:=by rw[zH];exact if_pos rfl
  have dB:(((g.new [PV.int IntKind.i64 0,PV.int IntKind.i64 1]).new [PV.int IntKind.i64 4,PV.int IntKind.i64 4]).new [PV.sl g.next 0 2 (.known 2),PV.sl (g.next+1) 0 2 (.known 2)]).obj g.next=some (pis [0,1]):=by simp only[Z3,seval,-ae];rfl
  have di:(((g.new [PV.int IntKind.i64 0,PV.int IntKind.i64 1]).new [PV.int IntKind.i64 4,PV.int IntKind.i64 4]).new [PV.sl g.next 0 2 (.known 2),PV.sl (g.next+1) 0 2 (.known 2)]).obj (g.next+1)=some (pis [4,4]):=by simp only[Z3,seval,-ae];rfl
  have hG:(((g.new [PV.int IntKind.i64 0,PV.int IntKind.i64 1]).new [PV.int IntKind.i64 4,PV.int IntKind.i64 4]).new [PV.sl g.next 0 2 (.known 2),PV.sl (g.next+1) 0 2 (.known 2)]).next=g.next+3:=rfl;generalize (((g.new [PV.int IntKind.i64 0,PV.int IntKind.i64 1]).new [PV.int IntKind.i64 4,PV.int IntKind.i64 4]).new [PV.sl g.next 0 2 (.known 2),PV.sl (g.next+1) 0 2 (.known 2)])=G at *
  have hM:MatX G (.sl (g.next+2) 0 2 (.known 2)) [[0,1],[4,4]]:=⟨g.next+2,.known 2,_,rfl,lJ,by omega,qQ ⟨_,_,rfl,dB,by omega⟩ (qQ ⟨_,_,rfl,di,by omega⟩ (All2.nil _))⟩
  refine Zp (p:=5) (m:=3) (M:=[[0,1],[4,4]]) (by decide) (by decide) hM (ma_of (by decide) (by decide)) (by decide) λT U S O P C l u=>?_;obtain⟨E,A,I,B,D,J⟩:=fin (N.keep V) (R.keep V) l u;simp only[Z3,seval,-ae,E,A,I,B,D];exact J
 simp only[Z3,seval,-ae,e0,e1,e2,e3,e4,e5,e6];refine zV (n:=10) dh (by decide) λx2 g iD W R=>?_;have N:=eQ.mv cV W;have xl:=iD.lt (by decide);simp only[Z3,seval,-ae];refine zKL ⟨iD.1,by omega⟩ λT U S O P C l u=>?_;obtain⟨E,A,I,B,D,J⟩:=fin N R l u;simp only[Z3,seval,-ae,E,A,I,B,D];exact J
end
section
variable{b:Nat}
def Two(b:Nat)(h:PHeap)(vO vP vC:PV):Prop:=∃(B u A l t:Nat) (D E G H I:Cap),vO=.sl B 0 1 D/\vP=.sl u 0 1 E/\vC=.sl l 0 1 H/\(full 1 D 1/\full 1 E 1/\full 1 G 1/\full 1 H 1/\full 1 I 0)/\
 (b<=B/\B<h.next/\b<=u/\u<h.next/\b<=A/\A<h.next/\b<=l/\l<h.next/\b<=t/\t<h.next)/\h.obj B=some (pis [2])/\h.obj u=some [.sl A 0 1 G]/\h.obj A=some (pis [0])/\h.obj l=some [.sl t 0 0 I]/\h.obj t=some []
theorem Two.set(a:Two b h vO vP vC){s:Nat}(hs:s<b)(E:List PV):Two b (h.set s E) vO vP vC:=by
 obtain⟨so,sP,sR,sC,t,R,S,T,U,V,W,X,Y,f,⟨b1,H,l,I,A,J,B,N,D,G⟩,Z,o2,o3,o4,o5⟩:=a;have k:∀{u:Nat},b<=u->(h.set s E).obj u=h.obj u:=λhu=>by rw[zG,if_neg (by omega)]
 exact⟨so,sP,sR,sC,t,R,S,T,U,V,W,X,Y,f,⟨b1,H,l,I,A,J,B,N,D,G⟩,by rw[k b1];exact Z,by rw[k l];exact o2,by rw[k A];exact o3,by rw[k B];exact o4,by rw[k D];exact o5⟩
theorem Two.fin(a:Two b h vO vP vC)(kk:Keep σ h)(hb:σ.next<=b)(hk:∀N R J,IsPr N R J [2] [[0]] [[]]->K (.agg [N,R,J]) σ):Gh σ K (.agg [vO,vP,vC]) h:=by
 obtain⟨E,D,I,B,t,l,u,G,A,H,rfl,rfl,rfl,⟨X,Y,Z,f4,f5⟩,⟨b1,T,b3,U,b5,V,b7,W,b9,S⟩,o1,o2,o3,o4,o5⟩:=a;have e:(TR.agg [TR.row E l [2],TR.lst D u [TR.row I G [0]],TR.lst B A [TR.lst t H []]]).pv=.agg [.sl E 0 1 l,.sl D 0 1 u,.sl B 0 1 A]:=by simp only[TR.pv,TR.pvs,TR.row_pv];rfl
 rw[<-e];have ok:(TR.agg [TR.row E l [2],TR.lst D u [TR.row I G [0]],TR.lst B A [TR.lst t H []]]).ok h σ.next:=by
  refine⟨TR.row_ok X o1 (by omega) T,⟨⟨Y,?_,by omega,U⟩,TR.row_ok Z o3 (by omega) V,trivial⟩,⟨⟨f4,?_,by omega,W⟩,⟨⟨f5,o5,by omega,S⟩,trivial⟩,trivial⟩,trivial⟩
  .rw[o2];simp only[TR.pvs,TR.row_pv];rfl
  .rw[o4];simp only[TR.pvs,TR.pv];rfl
 refine Gh.treeF kk (tr_okF ok) λa=>?_
 have:=hk ((TR.row E l [2]).fz a) ((TR.lst D u [TR.row I G [0]]).fz a) ((TR.lst B A [TR.lst t H []]).fz a) ⟨TR.row_FI,⟨true,_,_,rfl,(All2.nil _).cons TR.row_FI⟩,⟨true,_,_,rfl,(All2.nil _).cons ⟨true,_,_,rfl,All2.nil _⟩⟩⟩
 simpa only[TR.fz,TR.fzs]using this
theorem zIa{s:Nat}{cap:Cap}(ho:σ.obj s=some (pis [2]))(hs:s<σ.next)(hk:∀wO wP wC,IsPr wO wP wC [2] [[0]] [[]]->K (.agg [wO,wP,wC]) σ):zA Tryz.prog 197 [.sl s 0 1 cap] σ K:=by
 refine zA.gh ?_;refine zD mix Tryz.func197 ?_;simp only[Z3,seval,-ae];refine zCd (xs:=[2]) (by rw[zH,if_neg (by omega)];exact ho) (by show s<σ.next+1;omega) (by decide) λl iK=>?_;simp only[Z3,seval,-ae];refine zF (λm vs h=>(m=1/\vs=[.ptr σ.next 0,.int .i64 1,.ptr (σ.next+2) 0,.int .i64 0]/\Keep σ h/\h.obj σ.next=some nil3/\h.obj (σ.next+1)=some (pis [2])/\h.obj (σ.next+2)=some [.sl (σ.next+1) 0 1 l,.fz true .nils 0 [],.fz true .nils 0 []]/\h.next=σ.next+3)\/
   (m=0/\vs=[.ptr σ.next 0,.int .i64 1,.ptr (σ.next+2) 0,.int .i64 1]/\Keep σ h/\h.obj σ.next=some nil3/\∃A B u:PV,h.obj (σ.next+2)=some [A,B,u]/\Two (σ.next+1) h A B u)) 1 ?_ ?_
 .exact .inl ⟨rfl,rfl,((zC _ _).new _).new _,by simp only[Z3,seval,-ae],by simp only[Z3,seval,-ae],by simp only[Z3,seval,-ae],rfl⟩
 rintro m vs h (⟨rfl,rfl,I,H,di,D,Z⟩|⟨rfl,rfl,I,H,A,B,u,D,tw⟩)
 .have r1:h.rd1 (σ.next+2) 1=some (.fz true .nils 0 []):=by rw[zI D];rfl
  have r2:h.rd1 (σ.next+2) 2=some (.fz true .nils 0 []):=by rw[zI D];rfl
  have S:¬σ.next+2=h.next:=by omega
  have T:¬σ.next+2=h.next+1:=by omega
  have U:¬σ.next+2=h.next+2:=by omega
  simp only[Z3,seval,-ae,r1,r2,S,T,U,mk8 (n:=1) (by omega),Go.Ab.mkL (n:=1) (by omega),ZM,zA9,zEF,ZH];have w1:h.wr (σ.next+2) 1 [.sl (h.next+2) 0 1 (.grown 1)]=some (h.set (σ.next+2) [.sl (σ.next+1) 0 1 l,.sl (h.next+2) 0 1 (.grown 1),.fz true .nils 0 []]):=by rw[zT D,if_pos ⟨by simp,by simp;rfl⟩];rfl
  have V:(h.set (σ.next+2) [.sl (σ.next+1) 0 1 l,.sl (h.next+2) 0 1 (.grown 1),.fz true .nils 0 []]).obj (σ.next+2)=some [.sl (σ.next+1) 0 1 l,.sl (h.next+2) 0 1 (.grown 1),.fz true .nils 0 []]:=by rw[zG,if_pos rfl]
  have sL:(h.set (σ.next+2) [.sl (σ.next+1) 0 1 l,.sl (h.next+2) 0 1 (.grown 1),.fz true .nils 0 []]).obj (σ.next+1)=some (pis [2]):=by rw[zG,if_neg (by omega)];exact di
  have jt:(h.set (σ.next+2) [.sl (σ.next+1) 0 1 l,.sl (h.next+2) 0 1 (.grown 1),.fz true .nils 0 []]).obj σ.next=some nil3:=by rw[zG,if_neg (by omega)];exact H
  have W:Keep σ (h.set (σ.next+2) [.sl (σ.next+1) 0 1 l,.sl (h.next+2) 0 1 (.grown 1),.fz true .nils 0 []]):=I.set (by omega) _;have E:(h.set (σ.next+2) [.sl (σ.next+1) 0 1 l,.sl (h.next+2) 0 1 (.grown 1),.fz true .nils 0 []]).next=h.next:=rfl;refine⟨by decide,?_⟩;simp only[Z3,seval,-ae,w1];generalize h.set (σ.next+2) [.sl (σ.next+1) 0 1 l,.sl (h.next+2) 0 1 (.grown 1),.fz true .nils 0 []]=g at *
  rw[<-E];rw[<-E]at V;refine zF (λm vs h'=>m=0/\vs=[.ptr σ.next 0,.int .i64 1,.ptr (σ.next+2) 0,.int .i64 0,.sl (g.next+3) 0 0 (.known 0),.int .i64 1]/\h'=(((g.new [PV.int .i64 0]).new [PV.sl g.next 0 1 (Cap.known 1)]).new [PV.sl g.next 0 1 (Cap.known 1)]).new []) 0 ?_ ?_
  .exact⟨rfl,rfl,rfl⟩
  rintro m vs h' ⟨rfl,rfl,rfl⟩
  have sF:g.rd1 (σ.next+2) 2=some (.fz true .nils 0 []):=by rw[zI V];rfl
  rw[<-E]at S T U Z;have n4:¬σ.next+2=g.next+3:=by omega
  have n5:¬σ.next+2=g.next+4:=by omega
  have n6:¬σ.next+2=g.next+5:=by omega
  simp only[Z3,seval,-ae,sF,S,T,U,n4,n5,n6,ZM,zA9,zEF,ZH];have w2:g.wr (σ.next+2) 2 [.sl (g.next+5) 0 1 (.grown 1)]=some (g.set (σ.next+2) [.sl (σ.next+1) 0 1 l,.sl (g.next+2) 0 1 (.grown 1),.sl (g.next+5) 0 1 (.grown 1)]):=by rw[zT V,if_pos ⟨by simp,by simp;rfl⟩];rfl
  have pJ:(g.set (σ.next+2) [.sl (σ.next+1) 0 1 l,.sl (g.next+2) 0 1 (.grown 1),.sl (g.next+5) 0 1 (.grown 1)]).obj (σ.next+2)=some [.sl (σ.next+1) 0 1 l,.sl (g.next+2) 0 1 (.grown 1),.sl (g.next+5) 0 1 (.grown 1)]:=by rw[zG,if_pos rfl]
  have xx:(g.set (σ.next+2) [.sl (σ.next+1) 0 1 l,.sl (g.next+2) 0 1 (.grown 1),.sl (g.next+5) 0 1 (.grown 1)]).obj (σ.next+1)=some (pis [2]):=by rw[zG,if_neg (by omega)];exact sL
  have xA:(g.set (σ.next+2) [.sl (σ.next+1) 0 1 l,.sl (g.next+2) 0 1 (.grown 1),.sl (g.next+5) 0 1 (.grown 1)]).obj σ.next=some nil3:=by rw[zG,if_neg (by omega)];exact jt
  have D6:Keep σ (g.set (σ.next+2) [.sl (σ.next+1) 0 1 l,.sl (g.next+2) 0 1 (.grown 1),.sl (g.next+5) 0 1 (.grown 1)]):=W.set (by omega) _;have Fc:(g.set (σ.next+2) [.sl (σ.next+1) 0 1 l,.sl (g.next+2) 0 1 (.grown 1),.sl (g.next+5) 0 1 (.grown 1)]).next=g.next:=rfl;simp only[Z3,seval,-ae,w2];generalize g.set (σ.next+2) [.sl (σ.next+1) 0 1 l,.sl (g.next+2) 0 1 (.grown 1),.sl (g.next+5) 0 1 (.grown 1)]=G at *
  rw[<-Fc]at pJ Z ⊢;have J:∀k:Nat,¬σ.next=G.next+k:=λk=>by omega
  have N:∀k:Nat,¬σ.next+1=G.next+k:=λk=>by omega
  have R:∀k:Nat,¬σ.next+2=G.next+k:=λk=>by omega
  have Y:¬σ.next=G.next:=J 0;have xE:¬σ.next+1=G.next:=N 0;have X:¬σ.next+2=G.next:=R 0;have eN:((((((G.new [PV.int .i64 0]).new [PV.sl G.next 0 1 (Cap.known 1)]).new [PV.sl G.next 0 1 (Cap.known 1)]).new []).new [PV.sl (G.next+3) 0 0 (Cap.known 0)]).new [PV.sl (G.next+3) 0 0 (Cap.known 0)]).next=G.next+6:=rfl;refine⟨0,by decide,.inr ⟨rfl,rfl,(((((D6.new _).new _).new _).new _).new _).new _,?_,_,_,_,?_,σ.next+1,G.next+2,G.next,G.next+5,G.next+3,l,.grown 1,.known 1,.grown 1,.known 0,rfl,rfl,rfl,⟨iK,.inl rfl,.inr rfl,.inl rfl,.inr rfl⟩,⟨?_,?_,?_,?_,?_,?_,?_,?_,?_,?_⟩,?_,?_,?_,?_,?_⟩⟩
  all_goals first
   |omega
   |(simp only[Z3,seval,-ae,J,N,R,Y,xE,X];done)
   |(simp only[Z3,seval,-ae,J,N,R,Y,xE,X];first|exact jt|exact xA|exact xx|exact pJ|rfl)
 have r3:h.rd (σ.next+2) 0 3=some [A,B,u]:=by rw[zZ D];rfl
 obtain⟨f1,f2,f3⟩:A.one=true/\B.one=true/\u.one=true:=by
  obtain⟨so,sP,sR,sC,t,c1,c2,c3,c4,c5,rfl,rfl,rfl,_⟩:=tw;exact⟨rfl,rfl,rfl⟩
 have w:h.wr σ.next 0 [A,B,u]=some (h.set σ.next [A,B,u]):=by rw[zT H,if_pos ⟨by simp[nil3],by simp[f1,f2,f3]⟩];rfl
 have r4:(h.set σ.next [A,B,u]).rd σ.next 0 3=some [A,B,u]:=by rw[qH,if_pos rfl];rfl
 have Kq:=tw.set (s:=σ.next) (by omega) [A,B,u];have W:Keep σ (h.set σ.next [A,B,u]):=I.set (na _) _;generalize h.set σ.next [A,B,u]=g at *
 simp only[Z3,seval,-ae,r3,w,r4,f1,f2,f3];exact Kq.fin W (by omega) hk
end
theorem zON:qE [2] [[0]] [[]]:=by
 refine⟨by decide,rfl,rfl,by decide,by decide,λi l=>?_⟩;have e:i=0:=by simp only[YS,List.length_nil]at l;omega
 subst e;refine⟨⟨⟨rfl,λj u=>?_⟩,by decide⟩,rfl,λk A=>by simp at A⟩;have e:j=0:=by simp at u;omega
 subst e;decide
theorem zKN{l:Int}(so:So σ s0 vS bs)(hk:∀A B u O P C σ',IsPr A B u O P C->qE O P C->Mv σ s0 σ'->So σ' s0 vS bs->K (.agg [A,B,u]) σ'):zA Tryz.prog 194 [.ptr s0 0,.int .i64 l] σ K:=by
 have cA:=so.lt;refine zA.gh ?_;refine zD mix Tryz.func194 ?_;simp only[Z3,seval,-ae];generalize T:σ.new [PV.fz true AV.nils 0 [],PV.fz true AV.nils 0 [],PV.fz true AV.nils 0 []]=H;have eX:H.next=σ.next+1:=by rw[<-T];rfl
 have cV:s0<H.next:=by omega
 have dB:H.obj σ.next=some nil3:=by rw[<-T];simp only[Z3,seval,-ae]
 have nH:KM σ s0 H:=by rw[<-T];exact so.kmK (zC _ _)
 have jT:So H s0 vS bs:=by rw[<-T];exact so.keep (zC _ _)
 clear T;have fin2:∀{g:PHeap} {A B u:PV} {O:V1} {P:V2} {C:V3},KM σ s0 g->So g s0 vS bs->IsPr A B u O P C->qE O P C->Gh σ K (.agg [A,B,u]) g:=λ{g A B u O P C} km Z D G=>
  Gh.km km Z cA λσ' m' lD kp=>Gh.fin0 kp ⟨D.O.bel _,D.P.bel _,D.C.bel _,trivial⟩ (hk _ _ _ O P C σ' D G m' lD)
 have fin:∀{g:PHeap} {A B u:PV} {O:V1} {P:V2} {C:V3},KM H s0 g->So g s0 vS bs->IsPr A B u O P C->qE O P C->
   g.wr σ.next 0 [A,B,u]=some (g.set σ.next [A,B,u])/\(g.set σ.next [A,B,u]).rd σ.next 0 3=some [A,B,u]/\Gh σ K (.agg [A,B,u]) (g.set σ.next [A,B,u]):=λ{g A B u O P C} km Z D G=>by
  have o1:=D.O.one;have o2:=D.P.one;have o3:=D.C.one;have ob:g.obj σ.next=some nil3:=by rw[km.obj (by omega) (by omega)];exact dB
  exact⟨by rw[zT ob,if_pos ⟨by simp[nil3],by simp[o1,o2,o3]⟩];rfl,by rw[qH,if_pos rfl];rfl,fin2 ((nH.trans cA km).set (na _) _) (Z.set (by omega) _) D G⟩
 refine zF (λm vs g=>∃i:Nat,i<=12/\m=12-i/\vs=[.ptr s0 0,.int .i64 l,.ptr σ.next 0,.int .i64 i]/\KM H s0 g/\So g s0 vS bs) 12 ?_ ?_
 .exact⟨0,by decide,rfl,rfl,jT.km,jT⟩
 rintro m vs g ⟨i,hi,rfl,rfl,km,dh⟩
 simp only[Z3,seval,-ae];refine iteI (λah=>?_) λaF=>?_;rotate_left
 .refine zIa (s:=g.next) (by rw[zH,if_pos rfl];rfl) (YP _) λuO uP uC D=>?_;obtain⟨f1,f2,f3⟩:=fin (km.new [.int .i64 2]) (dh.keep (zC _ _)) D zON;have o1:=D.O.one;have o2:=D.P.one;have o3:=D.C.one;generalize g.new [PV.int .i64 2]=g' at *
  simp only[Z3,seval,-ae,o1,o2,o3,f1,f2];exact f3
 have wi:IntKind.i64.wrap ((i:Int)+1)=((i+1:Nat):Int):=WQ
 refine zDi dh λvO vP vC O5 P5 C5 I E G m1 bu=>?_;have U:=E.O.one;have V:=E.P.one;have W:=E.C.one;have eQ:=(km.mv cV m1).new [vO,vP,vC];have Dl:=bu.keep (zC I [vO,vP,vC]);have vF:=km.next;have tP:=m1.next;simp only[Z3,seval,-ae,U,V,W];have ht:H.next<=I.next:=by omega
 have di:(I.new [vO,vP,vC]).obj I.next=some [vO,vP,vC]:=by rw[zH,if_pos rfl]
 generalize I.new [vO,vP,vC]=g2 at *
 generalize I.next=t at *
 refine zV (n:=3) Dl (by decide) λx R hx m3 N=>?_;have S:=eQ.mv cV m3;have Y:R.obj t=some [vO,vP,vC]:=by rw[m3.obj (by omega)];exact di
 have X:R.rd t 0 3=some [vO,vP,vC]:=by rw[zZ Y];rfl
 have Jf:Fm 36 O5 P5 C5:=G.mono (by decide);by_cases eR:x=0
 case' pos=>
  subst eR;simp only[Z3,seval,-ae,X];refine zDi N λyO yP yC O' P' C' J du wF m4 dK=>?_;have fW:=S.mv cV m4;have HA:J.obj t=some [vO,vP,vC]:=by rw[m4.obj (by omega)];exact Y
  have r4:J.rd t 0 3=some [vO,vP,vC]:=by rw[zZ HA];rfl
  simp only[Z3,seval,-ae,r4];refine zL3 E G du wF λvO vP vC O5 P5 C5 E Jf=>?_;have U:=E.O.one;have V:=E.P.one;have W:=E.C.one;have w4:J.wr t 0 [vO,vP,vC]=some (J.set t [vO,vP,vC]):=by rw[zT HA,if_pos ⟨by simp,by simp[U,V,W]⟩];rfl
  have S:=fW.set ht [vO,vP,vC];have N:=dK.set (t:=t) (by omega) [vO,vP,vC];have Y:(J.set t [vO,vP,vC]).obj t=some [vO,vP,vC]:=by rw[zG,if_pos rfl]
  simp only[Z3,seval,-ae,r4,w4,U,V,W];generalize J.set t [vO,vP,vC]=R at *
  have X:R.rd t 0 3=some [vO,vP,vC]:=by rw[zZ Y];rfl
  simp only[Z3,seval,-ae,X]
 case' neg=>
  simp only[Z3,seval,-ae,eR,X]
 all_goals
  refine Z5 E (Jf.sz (by decide)) λtt Ev=>?_;cases tt
  .simp only[Z3,seval,-ae,wi];exact⟨_,by omega,i+1,by omega,rfl,rfl,S,N⟩
  have hp:=Ev.1 rfl;have hO:=E.O;have KK:R.rd1 t 0=some vO:=by rw[zI Y];rfl
  simp only[Z3,seval,-ae,KK];refine zDF hO hp.1 hp.2.2.2.1 λr hr=>?_;by_cases hl:r<=l
  .obtain⟨f1,f2,f3⟩:=fin S N E hp;simp only[Z3,seval,-ae,hl,X,U,V,W,f1,f2];exact f3
  .simp only[Z3,seval,-ae,hl,wi];exact⟨_,by omega,i+1,by omega,rfl,rfl,S,N⟩
theorem SmP.sz(a:SmP O P C):SzP O P C:=
 ⟨by have:=a.o;omega,⟨by have:=a.p;omega,λr l=>by have:=a.pr r l;omega⟩,⟨by have:=a.c;omega,λq u=>⟨by have:=a.q q u;omega,λr l=>by have:=a.r q u r l;omega⟩⟩⟩
theorem zKn(H:qE O P C):SmP O P C:=by
 have l:=H.shp;have I:=l.le;obtain⟨B,E⟩:=zG1 l;refine⟨by omega,λa G=>?_,by rw[l.pl];omega,λr A=>by rw[E r A];omega,by rw[l.cl];omega,λq u=>by have:=(B q u).1;omega,λq u r A=>by rw[(B q u).2 r A];omega⟩;obtain⟨j,D,rfl⟩:=YE.1 G
 have:=l.pr j D
 rw[at_eq D]at this;omega
theorem PQ3.smO(B:qE O M C){A:V2}{u:V3}(a:PQ3 (λm=>m=O.length) A u O.length O.length (λi=>O.length-1-i)):SmP O A u:=
 have G:=B.shp.le
 PQ3.sm (N:=O.length) ⟨a.pl,a.cl,λr l=>UH (a.pq r l),a.row,λq D r l=>UH (a.cq q D r l)⟩ (by omega) (by omega) (zKn B).ob (by omega) (by omega) λi E=>by omega
theorem zMv{R:V1->V2->V3->Prop}(I:s0<σ.next)(N:∀u A l O P C σ',IsPr u A l O P C->R O P C->Mv σ s0 σ'->So σ' s0 vS bs->K (.agg [u,A,l]) σ')
  {g:PHeap} (km:KM σ s0 g) (V:So g s0 vS bs) (U:g.obj σ.next=some nil3) {u A l:PV} (B:IsPr u A l O P C) (J:R O P C):
  u.one=true/\A.one=true/\l.one=true/\g.wr σ.next 0 [u,A,l]=some (g.set σ.next [u,A,l])/\(g.set σ.next [u,A,l]).rd σ.next 0 3=some [u,A,l]/\Gh σ K (.agg [u,A,l]) (g.set σ.next [u,A,l]):=by
 have D:=B.O.one;have E:=B.P.one;have G:=B.C.one;refine⟨D,E,G,by rw[zT U,if_pos ⟨by simp[nil3],by simp[D,E,G]⟩];rfl,by rw[qH,if_pos rfl];rfl,?_⟩;refine Gh.km (km.set (na _) _) (V.set (by omega) _) I λσ' T H S=>Gh.fin0 S ⟨B.O.bel _,B.P.bel _,B.C.bel _,trivial⟩ (N _ _ _ O P C σ' B J T H)
theorem zL2{l:Int}(so:So σ s0 vS bs)(hk:∀A B u O P C σ',IsPr A B u O P C->SmP O P C->Mv σ s0 σ'->So σ' s0 vS bs->K (.agg [A,B,u]) σ'):zA Tryz.prog 130 [.ptr s0 0,.int .i64 l] σ K:=by
 have cA:=so.lt;refine zA.gh ?_;refine zD mix Tryz.func130 ?_;simp only[Z3,seval,-ae];generalize hH:σ.new [PV.fz true AV.nils 0 [],PV.fz true AV.nils 0 [],PV.fz true AV.nils 0 []]=H;have eX:H.next=σ.next+1:=by rw[<-hH];rfl
 have cV:s0<H.next:=by omega
 have dB:H.obj σ.next=some nil3:=by rw[<-hH];simp only[Z3,seval,-ae]
 have nH:KM σ s0 H:=by rw[<-hH];exact so.kmK (zC _ _)
 have jT:So H s0 vS bs:=by rw[<-hH];exact so.keep (zC _ _)
 clear hH;have fin:∀{g:PHeap} {A B u:PV} {O:V1} {P:V2} {C:V3},KM H s0 g->So g s0 vS bs->IsPr A B u O P C->SmP O P C->
   A.one=true/\B.one=true/\u.one=true/\g.wr σ.next 0 [A,B,u]=some (g.set σ.next [A,B,u])/\(g.set σ.next [A,B,u]).rd σ.next 0 3=some [A,B,u]/\Gh σ K (.agg [A,B,u]) (g.set σ.next [A,B,u]):=λ{g A B u O P C} km bW E fm=>
  zMv cA hk (nH.trans cA km) bW (by rw[km.obj (by omega) (by omega)];exact dB) E fm
 refine zKN jT λvO vP vC O P C g1 E hp m1 dh=>?_;have o1:=E.O.one;have o2:=E.P.one;have o3:=E.C.one;have tP:=m1.next;have eQ:=(jT.km.mv cV m1).new [vO,vP,vC];have nY:=dh.keep (zC g1 [vO,vP,vC]);have di:(g1.new [vO,vP,vC]).obj g1.next=some [vO,vP,vC]:=by rw[zH,if_pos rfl]
 simp only[Z3,seval,-ae,o1,o2,o3];generalize g1.new [vO,vP,vC]=g2 at *
 generalize g1.next=t at *
 refine zV (n:=24) nY (by decide) λx g3 hx m3 cQ=>?_;have c9:=eQ.mv cV m3;have oe:g3.obj t=some [vO,vP,vC]:=by rw[m3.obj (by omega)];exact di
 have r3:g3.rd t 0 3=some [vO,vP,vC]:=by rw[zZ oe];rfl
 by_cases e0:x=0
 .subst e0;simp only[Z3,seval,-ae,r3];refine zL4 cQ E hp λY Z X O' I G D N sm m4 J=>?_;obtain⟨R,S,T,U,V,W⟩:=fin (c9.mv cV m4) J N sm;simp only[Z3,seval,-ae,R,S,T,U,V];exact W
 have wQ:∀{K':PV->PHeap->Prop},(∀Y Z X I G D,IsPr Y Z X O I G->SmP O I G->KM H s0 D->So D s0 vS bs->K' (.agg [Y,Z,X]) D)->zA Tryz.prog 131 [.ptr s0 0,.agg [vO,vP,vC]] g3 K':=λbA=>
  zF5 cQ E (zQx hp) λY Z X I G D N hq m4 J=>bA Y Z X I G D N (PQ3.smO hp hq) (c9.mv cV m4) J
 by_cases e1:x=1
 .subst e1;simp only[Z3,seval,-ae,r3];refine wQ λY Z X I G D N sm fW J=>?_;obtain⟨R,S,T,U,V,W⟩:=fin fW J N sm;simp only[Z3,seval,-ae,R,S,T,U,V];exact W
 by_cases e2:x=2
 .subst e2;simp only[Z3,seval,-ae,r3];refine wQ λY Z X I G D N sm fW J=>?_;obtain⟨R,S,T,U,V,W⟩:=fin fW J N sm;simp only[Z3,seval,-ae,R,S,T,U,V];exact W
 obtain⟨R,S,T,U,V,W⟩:=fin c9 cQ E (zKn hp);simp only[Z3,seval,-ae,e0,e1,e2,r3,R,S,T,U,V];exact W
section
variable{b:Nat}
theorem PSl.finKM(N:PSl b 1 h v x.length (pis x))(T:σ.next<=b)(km:KM σ s0 h)(R:So h s0 vS bs)(B:s0<σ.next)(I:∀u σ',FI u x->Mv σ s0 σ'->So σ' s0 vS bs->K u σ'):Gh σ K v h:=by
 refine Gh.km km R B λσ' l A J=>?_;have U:=l.next;obtain⟨s,cap,rfl,D,E,G,S,H⟩:=N;exact PSl.fin (σ:=σ') J ⟨s,cap,rfl,D,E,G,by omega,H⟩ (zL _ _) λo cap=>I _ σ' ⟨true,_,rfl⟩ l A
theorem PSl.pushKM{H:PHeap}{y:Int}{B:PV×PHeap->Prop}(R:PSl H.next 1 h v x.length (pis x))(T:x.length<=100)(km:KM H s0 h)(S:So h s0 vS bs)(J:s0<H.next)
  (N:∀u l,KM H s0 l->So l s0 vS bs->PSl H.next 1 l u (x++[y]).length (pis (x++[y]))->B (u,l)):optK (qB 1 8 (h.new [.int .i64 y]) v (.sl h.next 0 1 (.known 1))) B:=by
 obtain⟨σ',G,E⟩:=km;have A:=G.next;refine PSl.push (σb:=σ') (bytes:=8) E (by rw[A];exact R) (by omega) (by omega) λu l D I=>N u l ⟨σ',G,D⟩ ((zHt E S (by rw[A];exact J)).keep D) ?_;have e:pis (x++[y])=pis x++[.int .i64 y]:=by simp[pis]
 rw[e,YV,<-A];exact I
theorem zDD(so:So σ s0 vS bs)(hR:IsPr vO vP vC O P C)(sm:SmP O P C)(hk:∀v x σ',FI v x->x.length<=65->Mv σ s0 σ'->So σ' s0 vS bs->K v σ'):zA Tryz.prog 82 [.ptr s0 0,.agg [vO,vP,vC]] σ K:=by
 have cA:=so.lt;have g0:=hR.O.one;have g1:=hR.P.one;have U:=hR.C.one;have Kz:=sm.o;have Kx:=sm.ob;obtain⟨⟨wO,aO,rfl⟩,_,_⟩:=hR;refine zA.gh ?_;refine zD mix Tryz.func82 ?_;simp only[Z3,seval,-ae,g0,g1,U];generalize W:σ.new [PV.fz wO aO O.length (pis O),vP,vC]=H;have eX:H.next=σ.next+1:=by rw[<-W];rfl
 have B:s0<H.next:=by omega
 have dB:H.obj σ.next=some [PV.fz wO aO O.length (pis O),vP,vC]:=by rw[<-W];simp only[Z3,seval,-ae]
 have nH:KM σ s0 H:=by rw[<-W];exact so.kmK (zC _ _)
 have jT:So H s0 vS bs:=by rw[<-W];exact so.keep (zC _ _)
 clear W;have rO:∀{g:PHeap},KM H s0 g->g.rd1 σ.next 0=some (.fz wO aO O.length (pis O)):=λ{g} km=>by rw[zI (by rw[km.obj (by omega) (by omega)];exact dB)];rfl
 refine zF (λm vs h=>∃(i:Nat) (v:PV) (x:V1),i<=O.length/\m=O.length-i/\vs=[.ptr s0 0,.ptr σ.next 0,v,.int .i64 i]/\x.length=i/\KM H s0 h/\So h s0 vS bs/\PSl H.next 1 h v x.length (pis x)) O.length ?_ ?_
 .exact⟨0,_,[],YW _,rfl,rfl,rfl,jT.km.new _,jT.keep (zC _ _),PSl.own (n:=0) (.inr rfl) (by rw[zH,if_pos eX.symm];rfl) rfl (by omega) (by show σ.next+1<H.next+1;omega)⟩
 rintro m vs h ⟨i,v,x,hi,rfl,rfl,bp,km,dh,G⟩
 have D:=G.one;simp only[Z3,seval,-ae,D,rO km];refine iteI (λZ=>?_) λaF=>?_
 .have aD:(i:Int)<(O.length:Int):=by omega
  have gx:(pis O)[i]? = some (.int .i64 O[i]):=by rw[zK,gi Z];rfl
  have ob:=Kx _ (YK Z);have wi:=WX Z;simp only[Z3,seval,-ae,D,rO km,Z,aD,gx];refine zV (n:=O[i]) dh (by omega) λy g hy X S=>?_;have R:=km.mv B X;have Y:=PSl.mv' G B X;simp only[Z3,seval,-ae,D];refine PSl.pushKM Y (by omega) R S B λN I A E l=>?_;have V:=l.one;simp only[Z3,seval,-ae,V,wi];exact⟨_,by omega,i+1,N,x++[y],by omega,rfl,rfl,by rw[YV,bp];rfl,A,E,l⟩
 have RJ:x.length=O.length:=by omega
 have fin:∀{g:PHeap} {u:PV} {y:V1},KM H s0 g->So g s0 vS bs->PSl H.next 1 g u y.length (pis y)->y.length<=65->Gh σ K u g:=λ{g u y} km bW G hl=>
  PSl.finKM G (by omega) (nH.trans cA km) bW cA λw σ' hw m' lD=>hk w y σ' hw hl m' lD
 simp only[Z3,seval,-ae,D];refine zV (n:=40) dh (by decide) λy g hy X S=>?_;have R:=km.mv B X;have Y:=PSl.mv' G B X;by_cases y0:y=0;rotate_left
 .simp only[Z3,seval,-ae,y0,D];exact fin R S Y (by omega)
 subst y0;have dz:pLen v=some (.int .i64 x.length):=by obtain⟨s,cap,rfl,_⟩:=G;rfl
 have app:∀{g:PHeap} {KA:PV×PHeap->Prop},KM H s0 g->So g s0 vS bs->PSl H.next 1 g v x.length (pis x)->(∀N I,KM H s0 I->So I s0 vS bs->PSl H.next 1 I N (x++[0]).length (pis (x++[0]))->KA (N,I))->optK (qB 1 8 (g.new [.int .i64 0]) v (.sl g.next 0 1 (.known 1))) KA:=λ{g KA} km bW G bA=>PSl.pushKM G (by omega) km bW B bA;by_cases eR:x.length=0
 .have J:¬(0:Int)<((x.length:Nat):Int):=by omega
  simp only[Z3,seval,-ae,dz,J,D];refine app R S Y λN I A E l=>?_;have V:=l.one;simp only[Z3,seval,-ae,V];exact fin A E l (by rw[YV,Yz];omega)
 have J:(0:Int)<((x.length:Nat):Int):=by omega
 have T:0<x.length:=by omega
 simp only[Z3,seval,-ae,dz,J,T,D];refine zV (n:=2) S (by decide) λz g' hz m3 E=>?_;have A:=R.mv B m3;have l:=PSl.mv' Y B m3;by_cases z0:z=0;rotate_left
 .simp only[Z3,seval,-ae,z0,dz,J,T,D];refine app A E l λN I A E l=>?_;have V:=l.one;simp only[Z3,seval,-ae,V];exact fin A E l (by rw[YV,Yz];omega)
 have df:0<O.length:=by omega
 have cu:(0:Int)<(O.length:Int):=by omega
 have gx:(pis O)[0]? = some (.int .i64 O[0]):=by rw[zK,gi df];rfl
 simp only[Z3,seval,-ae,z0,dz,J,T,D,rO A,df,cu,gx];have kG:=zC g' [PV.int .i64 O[0],PV.int .i64 (-1)];refine QU (xs:=[O[0],-1]) (t:=g'.next) (E.keep kG) (by have:=A.next;omega) (by rw[zH,if_pos rfl];rfl) (by simp) λy U hy m4 dK=>?_;have fW:=(A.keep kG).mv B m4;have KU:=PSl.mv' (l.keep kG) B m4;obtain⟨s,cap,rfl,p1,p2,p3,p4,p5⟩:=KU;have w:U.wr s 0 [.int .i64 y]=some (U.set s (pis (x.set 0 y))):=zDM p2 T;have KT:PSl H.next 1 (U.set s (pis (x.set 0 y))) (.sl s 0 x.length cap) (x.set 0 y).length (pis (x.set 0 y)):=by
  rw[YC];exact⟨s,cap,rfl,p1,by rw[zG,if_pos rfl],by rw[zJ,YC,Nat.mul_one],p4,p5⟩
 simp only[Z3,seval,-ae,J,T,w];exact fin (fW.set p4 _) (dK.set (by omega) _) KT (by rw[YC];omega)
end
end Go.Proofs
