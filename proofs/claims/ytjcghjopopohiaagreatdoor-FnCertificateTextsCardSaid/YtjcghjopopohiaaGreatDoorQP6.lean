/- . -/
import Derived.Test.YtjcghjopopohiaaGreatDoorQP5
set_option linter.all false
set_option linter.defProp false
open Go.IntKind renaming wrap->Tu
open List renaming length->Tw
open Go.Proofs.Tryz renaming prog->Tp
open Bool renaming false_eq_true->JM,true->Im
open Int renaming mul_le_mul->Oq,pow_succ->S1,tdiv_nonneg->Tg,tmod_lt_of_pos->Sn,tmod_nonneg->Th,toNat_natCast->KH,toNat_zero->OD
open List renaming drop->Kf,drop_zero->J0,replicate->Jf,replicate_succ'->Oj,take->O0
open Nat renaming mul_one->KE,not_lt_zero->Jv
open Option renaming map_some->Kc,some->Ik
open True renaming intro->Is
open Int renaming reduceNatCast'->ae
set_option maxRecDepth 100000
namespace Go.Proofs
open Go.Ab Go.Lie Go.Grp
variable{cs:List PV}{b i j k n nC nP r s0 t:Nat}{h h' σ:dj}{c v vC vL vM vO vP vS vX yC yO yP:PV}{K:PV->dj->Prop}{O O1 O2 bs x xs:V1}{M P P1 P2:V2}{C:V3}
section
variable{s:Nat}{L L':Nat->Nat}{Q:Nat->Prop}{len:Nat->Nat}
structure TB(b:Nat)(h:dj)(Q:Nat->Prop)(O:V1)(L:Nat->Nat)(nP nC:Nat)(len:Nat->Nat)(r s:Nat)(vO vP vC:PV):Prop where
 res:h.cd r=Ik [Tt,Tt,Tt]
 hr:r<b
 ob:h.cd s=Ik [vO,vP,vC]
 pw:PW L b h Q O nP nC len vO vP vC
 ls:L s=7
 ns:b<=s/\s<h.bY
def TB.r0(a:TB b h Q O L nP nC len r s vO vP vC):h.gv s 0=Ik vO:=by rw[zH a.ob];rfl
def TB.r1(a:TB b h Q O L nP nC len r s vO vP vC):h.gv s 1=Ik vP:=by rw[zH a.ob];rfl
def TB.r2(a:TB b h Q O L nP nC len r s vO vP vC):h.gv s 2=Ik vC:=by rw[zH a.ob];rfl
def TB.r3(a:TB b h Q O L nP nC len r s vO vP vC):h.rd s 0 3=Ik [vO,vP,vC]:=by rw[zN a.ob];rfl
def TB.fin(a:TB b h Q O L nP nC len r s vO vP vC):h.wr r 0 [vO,vP,vC]=Ik (h.set r [vO,vP,vC])/\(h.set r [vO,vP,vC]).rd r 0 3=Ik [vO,vP,vC]/\PW L b (h.set r [vO,vP,vC]) Q O nP nC len vO vP vC:=
 ⟨by rw[zL a.res,Iu ⟨bj,by simp[a.pw.hO.one,a.pw.hP.one,a.pw.hC.one]⟩];rfl,by rw[zZ,Iu rfl];rfl,a.pw.set a.hr _⟩
def TB.start(a:PW L b h Q O nP nC len vO vP vC)(A:r<b)(m:h.cd r=Ik [Tt,Tt,Tt])(u:b<=h.bY):TB b (h.cb [vO,vP,vC]) Q O (l6 L h.bY 7) nP nC len r h.bY vO vP vC:=
 ⟨by rw[zC,Iv aH];exact m,A,by rw[zC,Iu rfl],a.fresh _ _,qG,⟨u,YB _⟩⟩
def TB.keepL(a:TB b h Q O L nP nC len r s vO vP vC)(A:h.bY<=h'.bY)(B:h'.cd r=h.cd r)(u:∀t,b<=t->t<h.bY->h'.cd t=h.cd t)(m:∀t,t<h.bY->L' t=L t):TB b h' Q O L' nP nC len r s vO vP vC:=
 ⟨by rw[B];exact a.res,a.hr,by rw[u s a.ns.1 a.ns.2];exact a.ob,a.pw.keepL A u m,by rw[m s a.ns.2];exact a.ls,⟨a.ns.1,by have:=a.ns.2;omega⟩⟩
def TB.rlt(a:TB b h Q O L nP nC len r s vO vP vC):r<h.bY:=by have:=a.hr;have:=a.ns;omega
def TB.c7(a:TB b h Q O L nP nC len r s vO vP vC)(m:dq h h'):TB b h' Q O L nP nC len r s vO vP vC:=a.keepL m.bY (m.cd r a.rlt) (λt _ u=>m.cd t u) λ_ _=>rfl
def TB.cb(a:TB b h Q O L nP nC len r s vO vP vC)(xs:List PV):TB b (h.cb xs) Q O L nP nC len r s vO vP vC:=a.c7 (zB h xs)
def TB.fresh(a:TB b h Q O L nP nC len r s vO vP vC)(cs:List PV)(k:Nat):TB b (h.cb cs) Q O (l6 L h.bY k) nP nC len r s vO vP vC:=
 a.keepL (Yb _) (by rw[zC,Iv (by have:=a.rlt;omega)]) (λt _ m=>by rw[zC,Iv aH]) (zk (sB _))
def TB.mv(a:TB b h Q O L nP nC len r s vO vP vC)(hs:s0<b)(u:s0≠r)(m:Mv h s0 h'):TB b h' Q O L nP nC len r s vO vP vC:=
 a.keepL (by rw[m.bY];exact sB _) (m.cd (Ne.symm u)) (λt A _=>m.cd aH) λ_ _=>rfl
def TB.wrote(a:TB b h Q O L nP nC len r s vO vP vC)(u:b<=t)(m:L t≠7){cs:List PV}(p:PW L b (h.set t cs) Q O nP nC len vO vP vC):TB b (h.set t cs) Q O L nP nC len r s vO vP vC:=
 ⟨by rw[zG,Iv (by have:=a.hr;omega)];exact a.res,a.hr,by rw[zG,Iv (λe=>m (by rw[<-e];exact a.ls))];exact a.ob,p,a.ls,a.ns⟩
def TB.putP(a:TB b h Q O L nP nC len r s vO vP vC)(I:i<nP)(G:gw L h b Q c):
  ∃m cap u,vP=.sl m 0 nP cap/\b<=m/\m<h.bY/\h.wr m i [c]=Ik (h.set m u)/\TB b (h.set m u) Q O L nP nC len r s vO vP vC:=by
 obtain⟨m,cap,cs,e,B,H,D,A,E,_⟩:=a.pw.powers aH;obtain⟨w,p⟩:=a.pw.putRow (i:=i) B aH (.inl D) G;exact⟨m,cap,_,e,A,E,w,a.wrote A aH p⟩
def TB.putC(a:TB b h Q O L nP nC len r s vO vP vC)(R:i<nC)(T:j<len i)(N:gw L h b Q c):
  ∃m cap t u A,vC=.sl m 0 nC cap/\h.gv m i=Ik (.sl t 0 (len i) u)/\b<=m/\m<h.bY/\b<=t/\t<h.bY/\h.wr t j [c]=Ik (h.set t A)/\TB b (h.set t A) Q O L nP nC len r s vO vP vC:=by
 obtain⟨m,cap,t,u,e,D,E,G,cs,H,S,I,B,J,_⟩:=a.pw.conj R;obtain⟨w,p⟩:=a.pw.putRow (i:=j) H aH (.inr I) N;exact⟨m,cap,t,u,_,e,D,E,G,B,J,w,a.wrote B aH p⟩
def TB.setP(a:TB b h Q O L nP nC len r s vO vP vC)(X:i<nP)(T:∀m,Q m->j<m):
  ∃u cap t m A,vP=.sl u 0 nP cap/\h.gv u i=Ik (.sl t 0 m A)/\Q m/\b<=u/\u<h.bY/\b<=t/\t<h.bY/\∀y,∃B,h.wr t j [.int .i64 y]=Ik (h.set t B)/\TB b (h.set t B) Q O L nP nC len r s vO vP vC:=by
 obtain⟨u,cap,cs,e,J,V,W,N,R,S⟩:=a.pw.powers aH;obtain⟨x,q,t,A,E,U,G,D,H,I⟩:=S _ (ss (aH:i<Tw cs));refine⟨u,cap,t,(Tw x),A,e,by rw[zH J,na aH,E],q,N,R,D,H,λy=>?_⟩;obtain⟨w,p⟩:=a.pw.setRow (y:=y) G (T _ q) I;exact⟨_,w,a.wrote D aH p⟩
def TB.setC(a:TB b h Q O L nP nC len r s vO vP vC){l:Nat}(Y:i<nC)(hl:l<len i)(Z:∀m,Q m->j<m):
  ∃A cap u D t m B,vC=.sl A 0 nC cap/\h.gv A i=Ik (.sl u 0 (len i) D)/\h.gv u l=Ik (.sl t 0 m B)/\Q m/\b<=A/\A<h.bY/\b<=u/\u<h.bY/\b<=t/\t<h.bY/\∀y,∃E,h.wr t j [.int .i64 y]=Ik (h.set t E)/\TB b (h.set t E) Q O L nP nC len r s vO vP vC:=by
 obtain⟨A,cap,u,D,e,R,S,T,cs,U,h5,h6,V,W,X⟩:=a.pw.conj Y;obtain⟨x,q,t,B,H,g1,I,G,J,N⟩:=X _ (ss (aH:l<Tw cs));refine⟨A,cap,u,D,t,(Tw x),B,e,R,by rw[zH U,na aH,H],q,S,T,V,W,G,J,λy=>?_⟩;obtain⟨w,p⟩:=a.pw.setRow (y:=y) I (Z _ q) N;exact⟨_,w,a.wrote G aH p⟩
def kI.rd(a:kI L h b k x v)(u:i<Tw x):∃s cap,v=.sl s 0 (Tw x) cap/\h.gv s i=Ik (.int .i64 (at_ x i))/\b<=s/\s<h.bY/\h.cd s=Ik (eh x):=by
 obtain⟨s,cap,e,D,m,A,B,E⟩:=a;exact⟨s,cap,e,by rw[zH m,zJ,gi u,gj u];rfl,A,B,m⟩
def PW.finKM(a:PW L b h Q O nP nC len vO vP vC)(km:KM σ s0 h)(N:So h s0 vS bs)(D:s0<σ.bY)(H:σ.bY<=b)
  (k:∀u A m P C σ',eQ u A m O P C->GP Q P C nP nC len->Mv σ s0 σ'->So σ' s0 vS bs->K (.agg [u,A,m]) σ'):Gh σ K (.agg [vO,vP,vC]) h:=
 Gh.km km N D λσ' B E J=>a.fin J (by rw[B.bY];exact H) λu A m P C G I=>k u A m P C σ' G I B E
def zAV(A:FI vX O)(B:(Tw O)<=1000)(D:∀L h vO vP vC,dq σ h->PW L σ.bY h (λm=>m=Tw O) O (Tw O) (Tw O) (λj=>(Tw O)-1-j) vO vP vC->K (.agg [vO,vP,vC]) h):zA Tp 57 [vX] σ K:=by
 obtain⟨w,a,rfl⟩:=A;exact zC7 rfl B (λ_ u=>zl rfl aH u) D
def qw{cap:nK}(E:σ.cd s=Ik (eh O))(hs:s<σ.bY)(B:(Tw O)<=1000)(D:∀L h vO vP vC,dq σ h->PW L σ.bY h (λm=>m=Tw O) O (Tw O) (Tw O) (λj=>(Tw O)-1-j) vO vP vC->K (.agg [vO,vP,vC]) h):zA Tp 57 [.sl s 0 (Tw O) cap] σ K:=
 zC7 rfl B (λu A=>zBx (by rw[u.cd s hs];exact E) (by have:=u.bY;omega) aH A) D
def zC8{cap:nK}(H:σ.cd s=Ik (eh O))(hs:s<σ.bY)(E:(Tw O)<=1000)(G:∀A B u P C,eQ A B u O P C->GP (λm=>m=Tw O) P C (Tw O) (Tw O) (λj=>(Tw O)-1-j)->K (.agg [A,B,u]) σ):zA Tp 57 [.sl s 0 (Tw O) cap] σ K:=
 zA.gh (qw H hs E λL h vO vP vC J a=>a.fin J (sB _) λA B u P C D I=>G A B u P C D I)
end
section
variable{s:Nat}{L L':Nat->Nat}{Q:Nat->Prop}
def gw.low(a:gw L h n Q v)(E:b<=n):gw L h b Q v:=by
 obtain⟨x,q,s,cap,e,m,u,D,A,B⟩:=a;exact⟨x,q,s,cap,e,m,u,aH,A,B⟩
def gD.low{m:Nat}(a:gD L h m Q k n v)(H:b<=m):gD L h b Q k n v:=by
 obtain⟨s,cap,cs,e,u,A,B,J,D,E,G⟩:=a;exact⟨s,cap,cs,e,u,A,B,aH,D,E,λc I=>(G c I).low H⟩
def zDB(T:hK vL M)(hm:(Tw M)<=1000)(W:∀r∈M,Q (Tw r))(X:∀r∈M,(Tw r)<=1048576)(R:k≠1)(U:b<=σ.bY)
  (V:∀L' h v,dq σ h->(∀t,t<σ.bY->L' t=L t)->gD L' h b Q k (Tw M) v->K v h):zA Tp 35 [vL] σ K:=by
 obtain⟨w,a,rows,rfl,N⟩:=T;refine Tn Tryz.func35 ?_;refine Tq ?_;refine zF (λm vs h=>∃(i:Nat) (L':Nat->Nat) (v:PV),i<=Tw M/\m=Tw M-i/\vs=[.fz w a (Tw M) rows,v,.int .i64 i]/\dq σ h/\(∀t,t<σ.bY->L' t=L t)/\gD L' h σ.bY Q k i v) (Tw M) ?_ ?_
 .exact⟨0,l6 L σ.bY k,.sl σ.bY 0 0 (.cm 0),YQ _,rfl,rfl,zB _ _,zk (sB _),σ.bY,.cm 0,[],rfl,.inr rfl,by rw[zC,Iu rfl],rfl,sB _,YB _,qG,λc A=>by cases A⟩
 rintro m vs h ⟨i,L',v,hi,rfl,rfl,B,D,G⟩
 have bZ:=B.bY;refine Tq ?_;refine Tr (λan=>?_) λu=>?_
 .have e:i=Tw M:=aH
  subst e;exact V L' h v B D (G.low U)
 obtain⟨w1,a1,Y⟩:=N.rowI u;have J:(i:Int)<(Tw M:Int):=aH
 simp only[Z3,seval,-ae,u,J,Y];refine zl rfl (by have:=X _ (ss u);omega) λcap A=>?_;have I:gw (l6 L' h.bY 1) (h.cb (eh M[i])) σ.bY Q (.sl h.bY 0 M[i].length cap):=gw.fresh aH (W _ (ss u)) A;refine Tq ?_;refine DF.push (σ:=σ) (b:=σ.bY) (k:=k) (.inr (G.c7 (L':=l6 L' h.bY 1) (h':=h.cb (eh M[i])) (Yb _) (λt _ E=>by rw[zC,Iv aH]) (zk (sB _)))) R I (B.cb _) (sB _) (by show σ.bY<=h.bY+1;omega) aH λv2 S H Z p2 l2 lQ vK _=>?_;have BN:h.bY+1<S.bY:=l2;simp only[Z3,seval,-ae,WX u];exact⟨_,aH,i+1,H,v2,aH,rfl,rfl,Z,λt E=>by rw[lQ t (by show t<h.bY+1;omega),zk (sB _) t aH];exact D t E,p2⟩
def zEh(hR:eQ vO vP vC O P C)(hO:(Tw O)<=1000)(hP:(Tw P)<=1000)(hC:(Tw C)<=1000)(uA:∀q∈C,(Tw q)<=1000)(D2:∀r∈P,Q (Tw r))(D3:∀q∈C,∀r∈q,Q (Tw r))(hQ:∀m,Q m->m<=1048576)
  (hk:∀L h J wP wC,dq σ h->PW L σ.bY h Q O (Tw P) (Tw C) (λi=>(C.getD i []).length) J wP wC->K (.agg [J,wP,wC]) h):zA Tp 60 [.agg [vO,vP,vC]] σ K:=by
 have g0:=hR.O.one;have g1:=hR.P.one;obtain⟨⟨J,Y,rfl⟩,jU,jV⟩:=hR;obtain⟨w2,u,W,rfl,pM⟩:=jV;refine Tn Tryz.func60 ?_;simp only[Z3,seval,-ae,g0,g1];refine zl rfl aH λcap hc=>?_;simp only[Z3,seval,-ae,g0,g1];generalize G:(((((σ.cb [PV.fz J Y (Tw O) (eh O),vP,PV.fz w2 u (Tw C) W]).cb [Tt,Tt,Tt]).cb [Tt,Tt,Tt]).cb (eh O)))=H;have eG:H.bY=σ.bY+4:=by rw[<-G];rfl
 have kH:dq σ H:=by rw[<-G];exact(((zB _ _).cb _).cb _).cb _
 have Z:H.cd σ.bY=Ik [PV.fz J Y (Tw O) (eh O),vP,PV.fz w2 u (Tw C) W]:=by rw[<-G];simp only[Z3,seval,-ae]
 have cM:H.cd (σ.bY+1)=Ik [Tt,Tt,Tt]:=by rw[<-G];simp only[Z3,seval,-ae]
 have eA:H.cd (σ.bY+2)=Ik [Tt,Tt,Tt]:=by rw[<-G];simp only[Z3,seval,-ae]
 have tI:H.cd (σ.bY+3)=Ik (eh O):=by rw[<-G];simp only[Z3,seval,-ae]
 clear G;obtain⟨N,jb⟩:∃N:Nat->Nat,N=λt=>if t=σ.bY+3 then 5 else 7:=⟨_,rfl⟩
 have l5:N (σ.bY+3)=5:=by rw[jb];simp
 have U:∀t,t≠σ.bY+3->N t=7:=λt ht=>by rw[jb];simp[ht]
 clear jb;refine zDB (L:=N) (Q:=Q) (k:=2) (b:=σ.bY) jU hP D2 (λr S=>hQ _ (D2 r S)) Tx aH λX B I D A V=>?_;have dW:=D.bY;have r2:B.gv σ.bY 1=Ik vP:=by rw[zH (by rw[D.cd _ aH];exact Z)];rfl
 have o2:B.cd (σ.bY+2)=Ik [Tt,Tt,Tt]:=by rw[D.cd _ aH];exact eA
 have Bi:B.wr (σ.bY+2) 0 [.sl (σ.bY+3) 0 (Tw O) cap,I,Tt]=Ik (B.set (σ.bY+2) [.sl (σ.bY+3) 0 (Tw O) cap,I,Tt]):=by
  rw[zL o2,Iu ⟨bj,by simp[V.one];exact⟨rfl,rfl⟩⟩];rfl
 simp only[Z3,seval,-ae,V.one,V.cells,Bi];have pw1:PW X σ.bY B Q O (Tw P) 0 (λi=>(C.getD i []).length) (.sl (σ.bY+3) 0 (Tw O) cap) I (Tt):=
  ⟨⟨σ.bY+3,cap,rfl,hc,by rw[D.cd _ aH];exact tI,aH,aH,by rw[A _ aH];exact l5⟩,.inr V,.inl ⟨rfl,rfl⟩⟩
 have t1:FT σ (B.set (σ.bY+2) [.sl (σ.bY+3) 0 (Tw O) cap,I,Tt]) Q O X (Tw P) 0 (λi=>(C.getD i []).length) (σ.bY+1) (σ.bY+2) (.sl (σ.bY+3) 0 (Tw O) cap) I (Tt):=
  ⟨(kH.trans D).set aH _,by rw[zG,Iv aH,D.cd _ aH];exact cM,by rw[zG,Iu rfl],pw1.set7 (by rw[A _ aH,U _ aH];exact sB _) _,by rw[A _ aH,U _ aH],by rw[A _ aH,U _ aH],aH,⟨aH,by show _<B.bY;omega⟩,⟨aH,by show _<B.bY;omega⟩⟩
 refine zF (λm vs h=>∃(i:Nat) (L:Nat->Nat) (vC:PV),i<=Tw C/\m=Tw C-i/\vs=[.ptr σ.bY 0,.ptr (σ.bY+1) 0,.ptr (σ.bY+2) 0,.int .i64 i]/\FT σ h Q O L (Tw P) i (λi=>(C.getD i []).length) (σ.bY+1) (σ.bY+2) (.sl (σ.bY+3) 0 (Tw O) cap) I vC/\
  h.cd σ.bY=Ik [PV.fz J Y (Tw O) (eh O),vP,PV.fz w2 u (Tw C) W]/\L σ.bY=7) (Tw C) ?_ ?_
 .exact⟨0,X,_,YQ _,rfl,rfl,t1,by rw[zG,Iv aH,D.cd _ aH];exact Z,by rw[A _ aH,U _ aH]⟩
 clear t1 pw1 Bi o2 r2 dW V A D Z cM eA tI kH eG l5 U
 rintro m vs h ⟨i,L,vC,hi,rfl,rfl,a,oB,lB⟩
 have jg:=a.ns.2;have rB:h.gv σ.bY 2=Ik (.fz w2 u (Tw C) W):=by rw[zH oB];rfl
 simp only[Z3,seval,-ae,rB];refine Tr (λan=>?_) λE=>?_
 .have e:i=Tw C:=aH
  subst e;obtain⟨A,R,e3,e4⟩:=a.fin;simp only[Z3,seval,-ae,a.r3,A,R];exact hk L _ _ _ vC e3 e4
 have ah:(i:Int)<(Tw C:Int):=aH
 obtain⟨w4,a4,tF,S,gI⟩:=pM.rowL E;simp only[Z3,seval,-ae,E,ah,S,rB,a.r2];refine zDB (L:=L) (Q:=Q) (k:=6) (b:=σ.bY) ⟨w4,a4,tF,rfl,gI⟩ (uA _ (ss E)) (D3 _ (ss E)) (λr S=>hQ _ (D3 _ (ss E) r S)) Tx aH λL2 h2 v2 T R m2=>?_;have u:=a.keepL (a.c7.trans T) T.bY (λt _ ht=>T.cd t ht) R;have Gz:=u.ns.2;have n2:¬σ.bY+2=h2.bY:=aH
 simp only[Z3,seval,-ae,u.r2,n2,m2.one,m2.cells];refine PW.pushC (m:=C[i].length) u.pw m2 (by show(C.getD i []).length=_;rw[YK,na E];rfl) u.c7 (sB _) aH aH λv3 h3 L3 k3 p3 l3 o3 m3=>?_;have w3:h3.wr (σ.bY+2) 2 [v3]=Ik (h3.set (σ.bY+2) [.sl (σ.bY+3) 0 (Tw O) cap,I,v3]):=by rw[zL (u.old m3),Iu ⟨bj,by simp[p3.hC.one]⟩];rfl
 have a3:=u.step k3 p3 (Ye l3) m3;have q7:=m3 σ.bY aH (by rw[R _ aH,lB];exact sB _);simp only[Z3,seval,-ae,w3,p3.hC.cells,WX E];refine⟨_,aH,i+1,L3,v3,aH,rfl,rfl,a3,?_,by rw[q7.2,R _ aH];exact lB⟩
 first|(rw[zG,Iv aH,q7.1,T.cd _ aH];exact oB)|(rw[q7.1,T.cd _ aH];exact oB)
end
section
variable{s:Nat}{L L':Nat->Nat}{Q:Nat->Prop}{len:Nat->Nat}
def PW.lenE{m:Nat->Nat}(a:PW L b h Q O nP nC len vO vP vC)(I:∀i,i<nC->len i=m i):PW L b h Q O nP nC m vO vP vC:=by
 refine⟨a.hO,a.hP,a.hC.imp id λ⟨s,cap,cs,e,u,A,B,D,E,G,J⟩=>⟨s,cap,cs,e,u,A,B,D,E,G,λi c H=>?_⟩⟩;grind
def TB.putPx(a:TB b h Q O L nP nC len r s vO vP vC)(E:i<nP):∃m cap,vP=.sl m 0 nP cap/\b<=m/\m<h.bY/\∀{xs:V1} {cp:nK},Q (Tw xs)->full 1 cp (Tw xs)->
  ∃u L',(h.cb (eh xs)).wr m i [.sl h.bY 0 (Tw xs) cp]=Ik ((h.cb (eh xs)).set m u)/\TB b ((h.cb (eh xs)).set m u) Q O L' nP nC len r s vO vP vC:=by
 obtain⟨m,cap,cs,e,R,S,T,A,B,_⟩:=a.pw.powers aH;refine⟨m,cap,e,A,B,λ{xs cp} G D=>?_⟩;obtain⟨H,I,u,e',J,N,w,a'⟩:=(a.fresh (eh xs) 1).putP E (gw.fresh (L:=L) (b:=b) (by have:=a.ns;omega) G D);grind
def TB.putCx(a:TB b h Q O L nP nC len r s vO vP vC)(E:i<nC)(R:j<len i):∃m cap t u,vC=.sl m 0 nC cap/\h.gv m i=Ik (.sl t 0 (len i) u)/\b<=m/\m<h.bY/\b<=t/\t<h.bY/\∀{xs:V1} {cp:nK},Q (Tw xs)->full 1 cp (Tw xs)->
  ∃A L',(h.cb (eh xs)).gv m i=Ik (.sl t 0 (len i) u)/\(h.cb (eh xs)).wr t j [.sl h.bY 0 (Tw xs) cp]=Ik ((h.cb (eh xs)).set t A)/\TB b ((h.cb (eh xs)).set t A) Q O L' nP nC len r s vO vP vC:=by
 obtain⟨m,cap,t,u,e,D,G,H,cs,h4,h5,h6,I,J,_⟩:=a.pw.conj E;refine⟨m,cap,t,u,e,D,G,H,I,J,λ{xs cp} S N=>?_⟩;obtain⟨T,V,t',U,A,e',B,W,X,Y,Z,w,a'⟩:=(a.fresh (eh xs) 1).putC E R (gw.fresh (L:=L) (b:=b) (by have:=a.ns;omega) S N);rw[e]at e';simp only[PV.sl.injEq]at e';obtain⟨rfl,_⟩:=e';have q:(h.cb (eh xs)).gv m i=Ik (.sl t 0 (len i) u):=by rw[zHw,Iv aH];exact D
 rw[q]at B;simp only[YR,PV.sl.injEq]at B;obtain⟨rfl,_⟩:=B;exact⟨A,_,q,w,a'⟩
def TB.setPm(a:TB b h Q O L nP nC len r s vO vP vC)(hs:s0<b)(H:s0≠r)(E:i<nP)(G:∀m,Q m->j<m):
  ∃u cap t m A,vP=.sl u 0 nP cap/\h.gv u i=Ik (.sl t 0 m A)/\Q m/\∀h',Mv h s0 h'->h'.gv u i=Ik (.sl t 0 m A)/\∀y,∃D,h'.wr t j [.int .i64 y]=Ik (h'.set t D)/\b<=t/\TB b (h'.set t D) Q O L nP nC len r s vO vP vC:=by
 obtain⟨u,cap,t,m,A,e,B,q,W,X,Y,Z,_⟩:=a.setP E G;refine⟨u,cap,t,m,A,e,B,q,λh' mv=>?_⟩;obtain⟨J,N,t',m',I,e',R,q',S,T,U,V,w⟩:=(a.mv hs H mv).setP E G;rw[e]at e';simp only[PV.sl.injEq]at e';obtain⟨rfl,_⟩:=e';have r':h'.gv u i=Ik (.sl t 0 m A):=by unfold dj.gv at B ⊢;rw[mv.cd aH];exact B
 simp_all
def TB.setCm(a:TB b h Q O L nP nC len r s vO vP vC){l:Nat}(hs:s0<b)(S:s0≠r)(J:i<nC)(R:l<len i)(N:∀m,Q m->j<m):
  ∃A cap u D t m B,vC=.sl A 0 nC cap/\h.gv A i=Ik (.sl u 0 (len i) D)/\h.gv u l=Ik (.sl t 0 m B)/\Q m/\∀h',Mv h s0 h'->h'.gv A i=Ik (.sl u 0 (len i) D)/\h'.gv u l=Ik (.sl t 0 m B)/\
   ∀y,∃I,h'.wr t j [.int .i64 y]=Ik (h'.set t I)/\b<=t/\TB b (h'.set t I) Q O L nP nC len r s vO vP vC:=by
 obtain⟨A,cap,u,D,t,m,B,e,G,H,q,X,Y,Z,f4,f5,f6,_⟩:=a.setC J R N;refine⟨A,cap,u,D,t,m,B,e,G,H,q,λh' mv=>?_⟩;obtain⟨T,U,u',V,t',m',W,e',E,g2,q',k1,k2,k3,k4,k5,k6,w⟩:=(a.mv hs S mv).setC J R N;rw[e]at e';simp only[PV.sl.injEq]at e';obtain⟨rfl,_⟩:=e';have r1:h'.gv A i=Ik (.sl u 0 (len i) D):=by unfold dj.gv at G ⊢;rw[mv.cd aH];exact G
 rw[r1]at E;simp only[YR,PV.sl.injEq]at E;obtain⟨rfl,_⟩:=E;have r2:h'.gv u l=Ik (.sl t 0 m B):=by unfold dj.gv at H ⊢;rw[mv.cd aH];exact H
 simp_all
structure Shl(O:V1)(P:V2)(C:V3):Prop where
 le:(Tw O)<=6
 pr:∀j,j<Tw O->2<=at_ O j/\at_ O j<=7
 pl:(Tw P)=Tw O
 cl:(Tw C)=Tw O
 row:∀i,i<Tw O->(C.getD i []).length=Tw O-1-i
 pe:∀r∈P,(Tw r)=Tw O
 ce:∀q∈C,∀r∈q,(Tw r)=Tw O
def zMm(E:zI O P C):Shl O P C:=by
 have m:=E.shp;refine⟨m.le,m.pr,m.pl,m.cl,m.row,λr A=>?_,λq G r A=>?_⟩
 .obtain⟨i,u,rfl⟩:=YE.1 A
  have:=(m.pw i (by rw[<-m.pl];exact u)).len
  simp_all
 .obtain⟨i,u,rfl⟩:=YE.1 G;have hi':i<Tw O:=by rw[<-m.cl];exact u
  have B:C.getD i []=C[i]:=by simp_all
  have D:=m.row i hi';rw[B]at D;obtain⟨k,H,rfl⟩:=YE.1 A
  have:=(m.cj i (i+1+k) aH aH).len
  grind
def zL6(so:So σ s0 vS bs)(hR:eQ vO vP vC O P C)(hp:Shl O P C)
  (hk:∀wO wP wC P' C' σ',eQ wO wP wC O P' C'->GP (λm=>m=Tw O) P' C' (Tw O) (Tw O) (λi=>(Tw O)-1-i)->Mv σ s0 σ'->So σ' s0 vS bs->K (.agg [wO,wP,wC]) σ'):zA Tp 83 [.ptr s0 0,.agg [vO,vP,vC]] σ K:=by
 have I:=hp;have bB:=I.le;have g0:=hR.O.one;have g1:=hR.P.one;have g2:=hR.C.one;have V:=so.lt;have Dl:∀q∈C,(Tw q)<=1000/\∀r∈q,(Tw r)=Tw O:=λq hq=>by
  obtain⟨i,hi,rfl⟩:=YE.1 hq;have hi':i<Tw O:=by rw[<-I.cl];exact hi
  have N:C.getD i []=C[i]:=by simp_all
  have hl:=I.row i hi';rw[N]at hl;exact⟨aH,I.ce _ (ss hi)⟩
 have H7:∀r∈P,(Tw r)=Tw O:=I.pe;refine zA.gh ?_;refine ZY mix Tryz.func83 ?_;simp only[Z3,seval,-ae,g0,g1,g2];generalize hH:((σ.cb [vO,vP,vC]).cb [Tt,Tt,Tt])=H;have eG:H.bY=σ.bY+2:=by rw[<-hH];rfl
 have kH:dq σ H:=by rw[<-hH];exact(zB _ _).cb _
 have cM:H.cd (σ.bY+1)=Ik [Tt,Tt,Tt]:=by rw[<-hH];simp only[Z3,seval,-ae]
 clear hH;refine zEh (Q:=λm=>m=Tw O) hR aH (by rw[I.pl];omega) (by rw[I.cl];omega) (λq hq=>(Dl q hq).1) H7 (λq hq=>(Dl q hq).2) (λm hm=>aH) λL h uO D B k1 p1=>?_;have dW:=k1.bY;have p2:PW L H.bY h (λm=>m=Tw O) O (Tw O) (Tw O) (λi=>(Tw O)-1-i) uO D B:=by
  rw[I.pl,I.cl]at p1;exact p1.lenE λi hi=>I.row i hi
 have a:=TB.start p2 (r:=σ.bY+1) aH (by rw[k1.cd _ aH];exact cM) dW;obtain⟨A,G,eO,RO,RN,RM,RL,RJ⟩:=p2.hO;subst eO;have iR:KM σ s0 (h.cb [.sl A 0 (Tw O) G,D,B]):=so.kmK ((kH.trans k1).cb _);have fC:So (h.cb [.sl A 0 (Tw O) G,D,B]) s0 vS bs:=so.c7 ((kH.trans k1).cb _);simp only[Z3,seval,-ae,p2.hP.one,p2.hC.one];have T:s0≠σ.bY+1:=aH
 have R:s0<H.bY:=aH
 have fin:∀{g:dj} {L':Nat->Nat},KM σ s0 g->So g s0 vS bs->TB H.bY g (λm=>m=Tw O) O L' (Tw O) (Tw O) (λi=>(Tw O)-1-i) (σ.bY+1) h.bY (.sl A 0 (Tw O) G) D B->
   g.wr (σ.bY+1) 0 [.sl A 0 (Tw O) G,D,B]=Ik (g.set (σ.bY+1) [.sl A 0 (Tw O) G,D,B])/\(g.set (σ.bY+1) [.sl A 0 (Tw O) G,D,B]).rd (σ.bY+1) 0 3=Ik [.sl A 0 (Tw O) G,D,B]/\Gh σ K (.agg [.sl A 0 (Tw O) G,D,B]) (g.set (σ.bY+1) [.sl A 0 (Tw O) G,D,B]):=λ{g L'} km dA a=>by
  obtain⟨N,X,Y⟩:=a.fin;exact⟨N,X,Y.finKM (km.set aH _) (dA.set aH _) V aH λwO wP wC P C σ' E Z x3 J=>hk wO wP wC P C σ' E Z x3 J⟩
 generalize h.cb [PV.sl A 0 (Tw O) G,D,B]=g at *
 have D4:(Tw O)<=6:=bB;refine zQ fC aH λE g1 eB m1 ca=>?_;have a1:=a.mv R T m1;have de:=iR.mv V m1;have Lh:=eB.1;have eV:Tu .i64 ((Tw O:Int)-1)=(Tw O:Int)-1:=WE;have Lg:E<=6:=by
  rcases UI 1 (Tw O:Int)with q|q
  .have:=eB.2.2 q;omega
  .have:=eB.2.1 q;omega
 have EG:Tu .i64 ((Tw O:Int)-1-E)=(Tw O:Int)-1-E:=WE;have EF:Tu .i64 (E+1)=E+1:=WE;simp only[Z3,seval,-ae,eV,EG,EF];refine zQ ca aH λZ g2 j7 m2 cX=>?_;have a2:=a1.mv R T m2;have fE:=de.mv V m2;have Rs:=j7.1;have Rr:Z<=6:=by
  rcases UI 1 ((Tw O:Int)-1-E)with q|q
  .have:=j7.2.2 q;omega
  .have:=j7.2.1 q;omega
 have Lq:Tu .i64 (E+1+Z)=E+1+Z:=WE;simp only[Z3,seval,-ae,Lq];refine fi (λan=>?_) λaX=>?_
 .obtain⟨N,X,Y⟩:=fin fE cX a2;simp only[Z3,seval,-ae,a2.r3,N,X];exact Y
 obtain⟨i,rfl⟩:∃i:Nat,E=i:=⟨E.toNat,aH⟩
 obtain⟨j,hj⟩:∃j:Nat,(i:Int)+1+Z=j:=⟨((i:Int)+1+Z).toNat,aH⟩
 rw[hj];have cD:i<Tw O:=aH
 have S:j<Tw O:=aH
 have nA:(i:Int)<(Tw O:Int):=aH
 have dT:(j:Int)<(Tw O:Int):=aH
 refine Tq ?_;refine zQ cX Tx λx3 g3 Sd m3 fK=>?_;have a3:=a2.mv R T m3;have gE:=fE.mv V m3;have jF:∀{g:dj} {L':Nat->Nat},TB H.bY g (λm=>m=Tw O) O L' (Tw O) (Tw O) (λi=>(Tw O)-1-i) (σ.bY+1) h.bY (.sl A 0 (Tw O) G) D B->g.gv A j=Ik (.int .i64 (at_ O j)):=λ{g L'} a=>by
  obtain⟨s',c',e,q,_⟩:=a.pw.hO.rd S;simp_all
 have oj:=(I.pr j S);refine Tq ?_;refine fi (λh0=>?_) λCv=>?_
 .obtain⟨sP,ck,t,m,ef,rfl,q1,q2,q3⟩:=a3.setPm (j:=j) R T cD (λm hm=>by rw[hm];exact S);subst q2;simp only[Z3,seval,-ae,a3.r1,a3.r0,cD,nA,q1,S,dT,jF a3];refine zQ fK aH λy g4 hy m4 j4=>?_;obtain⟨q4,q5⟩:=q3 g4 m4;have U:=a3.mv R T m4;obtain⟨W,w,mF,a5⟩:=q5 y;have AD:=(gE.mv V m4).set (t:=t) aH W;have nL:=j4.set (t:=t) aH W;generalize g4.set t W=g5 at *
  simp only[Z3,seval,-ae,U.r1,q4,S,dT,w];obtain⟨N,X,Y⟩:=fin AD nL a5;simp only[Z3,seval,-ae,a5.r3,N,X];exact Y
 have Lp:Tu .i64 ((Tw O:Int)-1-(i:Int))=(Tw O:Int)-1-(i:Int):=WE;simp only[Z3,seval,-ae,eV,EF,Lp];refine zQ fK aH λJ g4 JJ m4 j4=>?_;have U:=a3.mv R T m4;have iF:=gE.mv V m4;have Rq:=JJ.1;have Rp:J<(Tw O:Int)-1-(i:Int):=JJ.lt aH;have Lo:Tu .i64 ((i:Int)+1+J)=(i:Int)+1+J:=WE;have Ln:Tu .i64 ((i:Int)+1+J-(i:Int))=J+1:=WQ
 have Ll:Tu .i64 (J+1-1)=J:=WQ
 obtain⟨l,rfl⟩:∃l:Nat,J=l:=⟨J.toNat,aH⟩
 have hl:l<Tw O-1-i:=aH
 have ue:l<Tw O-(1+i):=aH
 have mC:(l:Int)<((Tw O-1-i:Nat):Int):=aH
 have cu:(l:Int)<((Tw O-(1+i):Nat):Int):=aH
 obtain⟨sC,eU,u,kJ,t,m,ef,rfl,q1,ox,q2,q3⟩:=U.setCm (j:=j) R T cD hl (λm hm=>by rw[hm];exact S);subst q2;simp only[Z3,seval,-ae,EF,Lo,Ln,Ll,U.r2,U.r0,cD,nA,q1,ox,hl,ue,mC,cu,S,dT,jF U];refine zQ j4 aH λy g5 hy m5 nL=>?_;obtain⟨q4,Mt,q5⟩:=q3 g5 m5;have a5:=U.mv R T m5;obtain⟨W,w,mF,a6⟩:=q5 y;have AD:=(iF.mv V m5).set (t:=t) aH W;have sH:=nL.set (t:=t) aH W;generalize g5.set t W=g6 at *
 simp only[Z3,seval,-ae,a5.r2,q4,Mt,hl,ue,mC,cu,S,dT,w];obtain⟨N,X,Y⟩:=fin AD sH a6;simp only[Z3,seval,-ae,a6.r3,N,X];exact Y
end
section
variable{s:Nat}{L L':Nat->Nat}{Q Q':Nat->Prop}{len:Nat->Nat}
def zDC{k0:Nat}(Y:gD L σ b Q k0 n v)(hm:n<=1000)(hr:∀m,Q m->m<=1048576)(S:k≠1)(Z:b<=σ.bY)
  (hk:∀L' h v,dq σ h->(∀t,t<σ.bY->L' t=L t)->gD L' h b Q k n v->K v h):zA Tp 35 [v] σ K:=by
 obtain⟨s,cap,cs,rfl,h1,A,h3,h4,W,h6,X⟩:=Y;refine Tn Tryz.func35 ?_;refine Tq ?_;refine zF (λm vs h=>∃(i:Nat) (L':Nat->Nat) (v:PV),i<=n/\m=n-i/\vs=[.sl s 0 n cap,v,.int .i64 i]/\dq σ h/\(∀t,t<σ.bY->L' t=L t)/\gD L' h σ.bY Q k i v) n ?_ ?_
 .exact⟨0,l6 L σ.bY k,.sl σ.bY 0 0 (.cm 0),YQ _,rfl,rfl,zB _ _,zk (sB _),σ.bY,.cm 0,[],rfl,.inr rfl,by rw[zC,Iu rfl],rfl,sB _,YB _,qG,λc B=>by cases B⟩
 rintro m vs h ⟨i,L',v,hi,rfl,rfl,u,E,H⟩
 have bZ:=u.bY;refine Tq ?_;refine Tr (λan=>?_) λD=>?_
 .have e:i=n:=aH
  subst e;exact hk L' h v u E (H.low Z)
 obtain⟨x,q,t,T,e,g1,U,g3,V,g5⟩:=X _ (ss (aH:i<Tw cs));have N:(i:Int)<(n:Int):=aH
 have rd:h.gv s i=Ik (.sl t 0 (Tw x) T):=by unfold dj.gv;rw[u.cd s W,A,<-e];exact na aH
 simp only[Z3,seval,-ae,D,N,rd];refine zBx (by rw[u.cd t V];exact U) aH (hr _ q) λR B=>?_;have J:gw (l6 L' h.bY 1) (h.cb (eh x)) σ.bY Q (.sl h.bY 0 (Tw x) R):=gw.fresh aH q B;refine Tq ?_;refine DF.push (σ:=σ) (b:=σ.bY) (k:=k) (.inr (H.c7 (L':=l6 L' h.bY 1) (h':=h.cb (eh x)) (Yb _) (λt _ G=>by rw[zC,Iv aH]) (zk (sB _)))) S J (u.cb _) (sB _) (by show σ.bY<=h.bY+1;omega) aH λv2 A I k2 p2 l2 lQ vK _=>?_;have BN:h.bY+1<A.bY:=l2;simp only[Z3,seval,-ae,WX D];exact⟨_,aH,i+1,I,v2,aH,rfl,rfl,k2,λt G=>by rw[lQ t (by show t<h.bY+1;omega),zk (sB _) t aH];exact E t G,p2⟩
def DF.pushG{E:PV×dj->Prop}{x:PV}(a:DF L h b Q k n v)(T:k≠1)(hc:gw L h b Q c)(hx:BO x=Ik 1)(hf:q8 1 h x 1=Ik [c])(hk:dq σ h)(hb:σ.bY<=b)(nZ:b<=h.bY)(hn:n<=1048576)
  (kk:∀D h' L',dq σ h'->gD L' h' b Q k (n+1) D->h.bY<h'.bY->(∀t,t<h.bY->L' t=L t)->(∀t,t<h.bY->L t≠k->h'.cd t=h.cd t)->(∀t,t<b->h'.cd t=h.cd t)->E (D,h')):iU (zW 1 24 h v x) E:=by
 obtain⟨cs,acc,U,Z⟩:=a.acc;refine fB.appS (m:=1) (news:=[c]) hk (acc.low hb) hx Tx hf rfl aH aH λD h' k1 R I n1 l1=>?_;obtain⟨A,G,rfl,V,W,X,g4,Y⟩:=R;have H:h.bY<=A:=by
  rcases YY A h.bY with q|q
  .exact absurd rfl (n1 A q 0 _ G)
  .exact q
 have N:∀t,t<h.bY->L t≠k->h'.cd t=h.cd t:=λt u B=>I t u λoff l c e=>B (Z t off l c e);have S:h.bY<=h'.bY:=aH
 have J:∀{d:PV},gw L h b Q d->gw (l6 L A k) h' b Q d:=λ{d} hd=>hd.keepK (k:=k) (Ne.symm T) S (λt _ u B=>N t u B) λt u _=>zk H t u;refine kk _ h' (l6 L A k) k1 ⟨A,G,cs++[c],rfl,V,W,by simpa using X,aH,Y,qG,λd hd=>?_⟩ l1 (zk H) N λt u=>?_
 .rcases YZ.1 hd with hd|hd
  .exact J (U d hd)
  .rw[YW.1 hd];exact J hc
 .refine I t aH λoff l c e=>?_;rcases acc with ⟨rfl,_,_⟩|⟨s,cap,rfl,q1,q2,q3,q4,q5⟩
  .cases e
  .simp only[PV.sl.injEq]at e;omega
def TB.keepK(a:TB b h Q O L nP nC len r s vO vP vC)(E:6<=k)(B:k≠7)(G:h.bY<=h'.bY)(H:∀t,t<b->h'.cd t=h.cd t)(A:∀t,t<h.bY->L t≠k->h'.cd t=h.cd t)(u:∀t,t<h.bY->L' t=L t):TB b h' Q O L' nP nC len r s vO vP vC:=
 ⟨by rw[H r a.hr];exact a.res,a.hr,by rw[A s a.ns.2 (by rw[a.ls];exact Ne.symm B)];exact a.ob,a.pw.keepK E G (λt _ m D=>A t m D) λt m _=>u t m,by rw[u s a.ns.2];exact a.ls,⟨a.ns.1,by have:=a.ns.2;omega⟩⟩
def zCG{u:Nat}{cap:nK}(m:h.cd u=Ik [c]):q8 1 h (.sl u 0 1 cap) 1=Ik [c]:=by
 rw[qO,Iv Tx,Iu (sB _),zN m];rfl
def PW.pushO{E:PV×dj->Prop}{y:Int}(a:PW L b h Q O nP nC len vO vP vC)(hk:dq σ h)(hb:σ.bY<=b)(nZ:b<=h.bY)(hn:(Tw O)<=1048576)
  (kk:∀D h' L',dq σ h'->PW L' b h' Q (O++[y]) nP nC len D vP vC->h.bY<h'.bY->(∀t,t<b->h'.cd t=h.cd t)->(∀t,t<h.bY->7<=L t->h'.cd t=h.cd t/\L' t=L t)->E (D,h')):iU (zW 1 8 (h.cb [.int .i64 y]) vO (.sl h.bY 0 1 (.cm 1))) E:=by
 obtain⟨s,cap,rfl,V,W,X,Y,Z⟩:=a.hO;have acc:fB b 1 h (.sl s 0 (Tw O) cap) (Tw O) (eh O):=.inr ⟨s,cap,rfl,V,W,by rw[zK,KE],X,Y⟩;refine fB.pushS hk (acc.low hb) rfl aH aH λD h' k1 N I n1 l1=>?_;obtain⟨u,G,rfl,S,T,g3,g4,U⟩:=N;have R:h.bY<=u:=by
  rcases YY u h.bY with q|q
  .exact absurd rfl (n1 u q 0 _ G)
  .exact q
 have J:∀t,t<h.bY->L t≠5->h'.cd t=h.cd t:=λt m A=>I t m λoff l c e=>A (by simp only[PV.sl.injEq]at e;rw[<-e.1];exact Z);have H:∀t,b<=t->t<h.bY->L t≠5->h'.cd t=h.cd t:=λt _ m A=>J t m A;have B:∀t,t<h.bY->L t≠5->l6 L u 5 t=L t:=λt m _=>zk R t m;have hx:eh O++[.int .i64 y]=eh (O++[y]):=by simp[eh]
 refine kk _ h' (l6 L u 5) k1 ⟨⟨u,G,bj,by simpa using S,by rw[T,hx],aH,U,qG⟩,a.hP.imp id λa=>a.keepK (k:=5) Tx Tx aH H B,a.hC.imp id λa=>a.keepK (k:=5) Tx Tx Tx aH H B⟩ l1 (λt m=>?_) λt m h7=>⟨J t m aH,B t m aH⟩
 exact I t aH λoff l c e=>by simp only[PV.sl.injEq]at e;omega
def PW.setO{y:Int}(a:PW L b h Q O nP nC len vO vP vC)(I:i<Tw O):∃m cap,vO=.sl m 0 (Tw O) cap/\b<=m/\m<h.bY/\L m=5/\h.wr m i [.int .i64 y]=Ik (h.set m (eh (O.set i y)))/\PW L b (h.set m (eh (O.set i y))) Q (O.set i y) nP nC len vO vP vC:=by
 obtain⟨s,cap,rfl,G,H,A,B,u⟩:=a.hO;have D:∀t,b<=t->t<h.bY->L t≠5->(h.set s (eh (O.set i y))).cd t=h.cd t:=λt _ J E=>by rw[zG,Iv λe=>E (by rw[e];exact u)]
 refine⟨s,cap,rfl,A,B,u,zAm H I,⟨s,cap,by rw[Yx],by rw[Yx];exact G,by rw[zG,Iu rfl],A,B,u⟩,a.hP.imp id λa=>a.keepK (k:=5) Tx Tx (sB _) D λ_ _ _=>rfl,a.hC.imp id λa=>a.keepK (k:=5) Tx Tx Tx (sB _) D λ_ _ _=>rfl⟩
def PW.putMat{m:Nat}(a:PW L b h Q O nP nC len vO vP vC)(hi:i<nC)(D:gD L h b Q 6 m c):∃A cap T L' S,vC=.sl A 0 nC cap/\b<=A/\A<h.bY/\L A=4/\h.wr A i [c]=Ik (h.set A T)/\
  PW L' b (h.set A T) Q O nP nC S vO vP vC/\(∀t,7<=L t->L' t=L t)/\∀j,S j=if j=i then m else len j:=by
 obtain⟨s0,I,IP,rfl,z1,z2,z3,z4,z5,Y,z7⟩:=D;rcases a.hC with ⟨e,_⟩|⟨s,cap,cs,rfl,h1,h2,h3,U,V,H,h7⟩
 .omega
 have B:∀t,L t≠6->l6 L s0 3 t=L t:=λt N=>Iv λe=>N (by rw[e];exact Y);have J:∀t,L t≠4->(h.set s (cs.set i (.sl s0 0 m I))).cd t=h.cd t:=λt N=>by rw[zG,Iv λe=>N (by rw[e];exact H)]
 have X:∀{d:PV},gw L h b Q d->gw (l6 L s0 3) (h.set s (cs.set i (.sl s0 0 m I))) b Q d:=λ{d} ⟨x,q,s,cap,e,r1,r2,r3,G,u⟩=>
  ⟨x,q,s,cap,e,r1,by rw[J s (by rw[u];decide)];exact r2,r3,G,by rw[B s (by rw[u];decide)];exact u⟩
 have W:∀{j m:Nat} {d:PV},j≠4->j≠6->gD L h b Q j m d->gD (l6 L s0 3) (h.set s (cs.set i (.sl s0 0 _ I))) b Q j m d:=λ{j m d} Hi Z ⟨s,cap,cs,e,r1,r2,r3,G,u,R,r7⟩=>
  ⟨s,cap,cs,e,r1,by rw[J s (by rw[R];exact Hi)];exact r2,r3,G,u,by rw[B s (by rw[R];exact Z)];exact R,λc D=>X (r7 c D)⟩
 refine⟨s,cap,_,l6 L s0 3,λj=>if j=i then m else len j,rfl,U,V,H,ZE h2 aH rfl,⟨?_,a.hP.imp id (W Tx Tx),.inr ⟨s,cap,_,rfl,h1,by rw[zG,Iu rfl],by rw[Yx];exact h3,U,V,by rw[B s (by rw[H];decide)];exact H,λj d E=>?_⟩⟩,λt ht=>B t aH,λj=>rfl⟩
 .obtain⟨s,cap,e,r1,r2,r3,G,u⟩:=a.hO;exact⟨s,cap,e,r1,by rw[J s (by rw[u];decide)];exact r2,r3,G,by rw[B s (by rw[u];decide)];exact u⟩
 .rw[Yu]at E;by_cases e:i=j
  .subst e;rw[Iu rfl,Iu aH]at E;cases E;simp only[if_true];exact⟨s0,I,IP,rfl,z1,by rw[J s0 (by rw[Y];decide)];exact z2,z3,z4,z5,qG,λc D=>X (z7 c D)⟩
  .rw[Iv e]at E;simp only[Iv (Ne.symm e)];exact W Tx Tx (h7 j d E)
def gw.weak(a:gw L h b Q v)(u:∀m,Q m->Q' m):gw L h b Q' v:=by
 obtain⟨x,q,a⟩:=a;exact⟨x,u _ q,a⟩
def gD.weak(a:gD L h b Q k n v)(J:∀m,Q m->Q' m):gD L h b Q' k n v:=by
 obtain⟨s,cap,cs,e,u,A,B,D,E,G,H⟩:=a;exact⟨s,cap,cs,e,u,A,B,D,E,G,λc I=>(H c I).weak J⟩
def PW.weak(a:PW L b h Q O nP nC len vO vP vC)(u:∀m,Q m->Q' m):PW L b h Q' O nP nC len vO vP vC:=
 ⟨a.hO,a.hP.imp id λa=>a.weak u,a.hC.imp id λ⟨s,cap,cs,e,A,B,D,E,G,H,I⟩=>⟨s,cap,cs,e,A,B,D,E,G,H,λi c J=>(I i c J).weak u⟩⟩
def TB.weak(a:TB b h Q O L nP nC len r s vO vP vC)(u:∀m,Q m->Q' m):TB b h Q' O L nP nC len r s vO vP vC:=⟨a.res,a.hr,a.ob,a.pw.weak u,a.ls,a.ns⟩
def TB.wroteO{O':V1}{L':Nat->Nat}{u A:Nat}{m:Nat->Nat}(a:TB b h Q O L nP nC len r s vO vP vC)(E:b<=t)(D:L t≠7)(B:L' s=L s){cs:List PV}(p:PW L' b (h.set t cs) Q O' u A m vO vP vC):TB b (h.set t cs) Q O' L' u A m r s vO vP vC:=
 ⟨by rw[zG,Iv (by have:=a.hr;omega)];exact a.res,a.hr,by rw[zG,Iv (λe=>D (by rw[<-e];exact a.ls))];exact a.ob,p,by rw[B];exact a.ls,a.ns⟩
structure SmP(O:V1)(P:V2)(C:V3):Prop where
 o:(Tw O)<=64
 ob:∀a∈O,-1000<=a/\a<=1000
 p:(Tw P)<=64
 pr:∀r∈P,(Tw r)<=64
 c:(Tw C)<=64
 q:∀q∈C,(Tw q)<=64
 r:∀q∈C,∀r∈q,(Tw r)<=64
def GP.sm{N:Nat}(a:GP (λm=>m<=N) P C nP nC len)(J:N<=64)(E:(Tw O)<=64)(I:∀a∈O,-1000<=a/\a<=1000)(G:nP<=64)(D:nC<=64)(H:∀i,i<nC->len i<=64):SmP O P C:=
 ⟨E,I,by rw[a.pl];exact G,λr B=>by have:(Tw r)<=N:=a.pq r B;omega,by rw[a.cl];exact D,λq A=>by
  obtain⟨i,u,rfl⟩:=YE.1 A
  have:=a.row i (by rw[<-a.cl];exact u)
  rw[YK,na u]at this;have e:C[i].length=len i:=this;rw[e];exact H i (by rw[<-a.cl];exact u),λq A r B=>by have:(Tw r)<=N:=a.cq q A r B;omega⟩
end
section
variable{s:Nat}{L L':Nat->Nat}{Q Q':Nat->Prop}{len:Nat->Nat}
def TB.step{G H:Nat}{B:Nat->Nat}{O':V1}{u A m:PV}(a:TB b h Q O L nP nC len r s vO vP vC)(N:PW L' b h' Q O' G H B u A m)(S:h.bY<=h'.bY)(R:∀t,t<b->h'.cd t=h.cd t)(J:∀t,t<h.bY->7<=L t->h'.cd t=h.cd t/\L' t=L t):
  h'.cd s=Ik [vO,vP,vC]/\TB b (h'.set s [u,A,m]) Q O' L' G H B r s u A m:=by
 have hs:=J s a.ns.2 (by rw[a.ls];exact sB _);have E:L' s=7:=by rw[hs.2];exact a.ls
 have D:=a.hr;have I:=a.ns;exact⟨by rw[hs.1];exact a.ob,⟨by rw[zG,Iv aH,R r D];exact a.res,D,by rw[zG,Iu rfl],N.set7 (by rw[E];exact sB _) _,E,⟨I.1,by show s<h'.bY;omega⟩⟩⟩
def zGZ(m:kC O P C):(∀q∈C,(Tw q)<=6/\∀r∈q,(Tw r)=Tw O)/\∀r∈P,(Tw r)=Tw O:=by
 have G:=m.le;refine⟨λq E=>?_,λr A=>?_⟩
 .obtain⟨i,u,rfl⟩:=YE.1 E;have hi':i<Tw O:=by rw[<-m.cl];exact u
  have B:C.getD i []=C[i]:=by simp_all
  have D:=m.row i hi';rw[B]at D;refine⟨aH,λr A=>?_⟩;obtain⟨k,H,rfl⟩:=YE.1 A
  have:=(m.cj i (i+1+k) aH aH).len
  grind
 .obtain⟨i,u,rfl⟩:=YE.1 A
  have:=(m.pw i (by rw[<-m.pl];exact u)).len
  simp_all
def zL9(so:So σ s0 vS bs)(hR:eQ vO vP vC O P C)(hp:zI O P C)
  (hk:∀D E B O' P' C' σ',eQ D E B O' P' C'->SmP O' P' C'->Mv σ s0 σ'->So σ' s0 vS bs->K (.agg [D,E,B]) σ'):zA Tp 82 [.ptr s0 0,.agg [vO,vP,vC]] σ K:=by
 have sh:=hp.shp;have bB:=sh.le;have g0:=hR.O.one;have u:=hR.P.one;have g2:=hR.C.one;have af:=so.lt;obtain⟨Dl,H7⟩:=zGZ sh;have jF:∀a∈O,-1000<=a/\a<=1000:=λa ha=>by
  have:=hp.2.2.2.1 a ha
  rcases this with h|h|h|h<;>omega
 refine zA.gh ?_;refine zt mix Tryz.func82 cf82 rfl ?_;dsimp only[if82,eI,nI,qD,eD,rH,lI0,LI0,fI0,BY,sI0,C1,ta,uY,E2,I0,G0,aI0,yI0,vI0,wD0,R0,S0];simp only[Z3,seval,-ae,g0,u,g2];generalize hH:((σ.cb [vO,vP,vC]).cb [Tt,Tt,Tt])=H;have eG:H.bY=σ.bY+2:=by rw[<-hH];rfl
 have kH:dq σ H:=by rw[<-hH];exact(zB _ _).cb _
 have cM:H.cd (σ.bY+1)=Ik [Tt,Tt,Tt]:=by rw[<-hH];simp only[Z3,seval,-ae]
 clear hH;refine zEh (Q:=λm=>m<=6) hR aH (by rw[sh.pl];omega) (by rw[sh.cl];omega) (λq hq=>by have:=(Dl q hq).1;omega) (λr hr=>by rw[H7 r hr];omega) (λq hq r hr=>by rw[(Dl q hq).2 r hr];omega) (λm hm=>aH) λL h uO uP uC k1 p1=>?_;have dW:=k1.bY;have p2:PW L H.bY h (λm=>m<=6) O (Tw O) (Tw O) (λi=>(Tw O)-1-i) uO uP uC:=by
  rw[sh.pl,sh.cl]at p1;exact p1.lenE λi hi=>sh.row i hi
 clear p1;obtain⟨iP,cW,eO,-⟩:=p2.hO;subst eO;have a:=TB.start p2 (r:=σ.bY+1) aH (by rw[k1.cd _ aH];exact cM) dW;have iR:KM σ s0 (h.cb [.sl iP 0 (Tw O) cW,uP,uC]):=so.kmK ((kH.trans k1).cb _);have fC:So (h.cb [.sl iP 0 (Tw O) cW,uP,uC]) s0 vS bs:=so.c7 ((kH.trans k1).cb _);simp only[Z3,seval,-ae,p2.hP.one,p2.hC.one];have jo:s0≠σ.bY+1:=aH
 have bD:s0<H.bY:=aH
 have mV:h.bY<(h.cb [.sl iP 0 (Tw O) cW,uP,uC]).bY:=YB _;have fin:∀{g:dj} {L':Nat->Nat} {b':Nat} {Q':Nat->Prop} {O':V1} {nP nC:Nat} {len:Nat->Nat} {D E B:PV},σ.bY+1<b'->KM σ s0 g->So g s0 vS bs->g.cd (σ.bY+1)=Ik [Tt,Tt,Tt]->g.cd h.bY=Ik [D,E,B]->
   PW L' b' g Q' O' nP nC len D E B->(∀P' C',GP Q' P' C' nP nC len->SmP O' P' C')->g.rd h.bY 0 3=Ik [D,E,B]/\g.wr (σ.bY+1) 0 [D,E,B]=Ik (g.set (σ.bY+1) [D,E,B])/\(g.set (σ.bY+1) [D,E,B]).rd (σ.bY+1) 0 3=Ik [D,E,B]/\Gh σ K (.agg [D,E,B]) (g.set (σ.bY+1) [D,E,B]):=λ{g L' b' Q' O' nP nC len D E B} hb km dA hr hs p sm=>
  ⟨by rw[zN hs];rfl,by rw[zL hr,Iu ⟨bj,by simp[p.hO.one,p.hP.one,p.hC.one]⟩];rfl,by rw[zZ,Iu rfl];rfl,(p.set aH _).finKM (km.set aH _) (dA.set aH _) af aH λD E B P C σ' x1 x2 x3 x4=>hk D E B O' P C σ' x1 (sm P C x2) x3 x4⟩
 have finT:∀{g:dj} {L':Nat->Nat} {O':V1} {len:Nat->Nat} {D E B:PV},KM σ s0 g->So g s0 vS bs->TB H.bY g (λm=>m<=7) O' L' (Tw O) (Tw O) len (σ.bY+1) h.bY D E B->(Tw O')<=64->(∀a∈O',-1000<=a/\a<=1000)->(∀i,i<Tw O->len i<=64)->g.rd h.bY 0 3=Ik [D,E,B]/\g.wr (σ.bY+1) 0 [D,E,B]=Ik (g.set (σ.bY+1) [D,E,B])/\(g.set (σ.bY+1) [D,E,B]).rd (σ.bY+1) 0 3=Ik [D,E,B]/\Gh σ K (.agg [D,E,B]) (g.set (σ.bY+1) [D,E,B]):=λ{g L' O' len D E B} km dA a h1 A U=>
  fin aH km dA a.res a.ob a.pw λP' C' q=>q.sm aH h1 A aH aH U
 generalize h.cb [PV.sl iP 0 (Tw O) cW,uP,uC]=g at *
 generalize l6 L h.bY 7=L1 at *
 refine zQ fC Tx λx1 u eB m1 ca=>?_;have G:=a.mv bD jo m1;have de:=iR.mv af m1;have Lh:=eB.1;have Lg:x1<6:=eB.2.2 Tx;have Gc:h.bY<u.bY:=by rw[m1.bY];exact mV
 clear a iR fC m1 eB;have mK:∀m,m<=6->m<=7:=λm hm=>by omega
 obtain⟨σ',m',dA,kp,jM⟩:=kmSo de ca af;have jI:∀i,i<Tw O->(λi=>(Tw O)-1-i) i<=64:=λi hi=>by show (Tw O)-1-i<=64;omega
 by_cases e0:x1=0
 .subst e0;have n1:¬h.bY=u.bY:=aH
  simp only[Z3,seval,-ae,G.r0,n1];refine PW.pushO (σ:=σ') (G.weak mK).pw kp aH aH aH λv2 A L2 I uQ l2 o2 q2=>?_;obtain⟨e1,a2⟩:=(G.weak mK).step uQ (Ye l2) o2 q2;have w:A.wr h.bY 0 [v2]=Ik (A.set h.bY [v2,uP,uC]):=by rw[zL e1,Iu ⟨bj,by simp[uQ.hO.one]⟩];rfl
  have fE:KM σ s0 (A.set h.bY [v2,uP,uC]):=KM.set ⟨σ',m',I⟩ aH _;have cX:So (A.set h.bY [v2,uP,uC]) s0 vS bs:=(dA.c7 I).set aH _;generalize A.set h.bY [v2,uP,uC]=g2 at *
  obtain⟨J,R,S,T⟩:=finT fE cX a2 (by simp;omega) (λa ha=>by
   grind) jI
  simp only[Z3,seval,-ae,w,uQ.hO.cells,J,R,S];exact T
 by_cases e1:x1=1
 .subst e1;by_cases X:0<Tw O;rotate_left
  .have V:¬(0:Int)<(Tw O:Int):=aH
   obtain⟨J,R,S,T⟩:=finT de ca (G.weak mK) aH jF jI;simp only[Z3,seval,-ae,G.r0,V,J,R,S];exact T
  have V:(0:Int)<(Tw O:Int):=aH
  have n1:¬h.bY=u.bY:=aH
  simp only[Z3,seval,-ae,G.r0,V,X,n1];refine QY (t:=u.bY) (xs:=[4,1,11,0,-2]) (ca.c7 (zB _ _)) aH (by rw[zC,Iu rfl];rfl) Tx λy g2 hy m2 cX=>?_;have a2:=(G.cb _).mv bD jo m2;have fE:=(de.cb _).mv af m2;obtain⟨dA,aq,e,hb,Ss,L5,w,p⟩:=(a2.weak mK).pw.setO (y:=y) X;simp only[PV.sl.injEq]at e;obtain⟨rfl,-,-,rfl⟩:=e;have a3:=(a2.weak mK).wroteO hb aH rfl p;have gE:=fE.set (t:=iP) aH (eh (O.set 0 y));have fK:=cX.set (t:=iP) aH (eh (O.set 0 y));generalize g2.set iP (eh (O.set 0 y))=g3 at *
  obtain⟨J,R,S,T⟩:=finT gE fK a3 (by simp;omega) (λa ha=>by
   grind) jI
  have o0:g3.gv h.bY 0=Ik (.sl iP 0 (Tw O) cW):=a3.r0;simp only[Z3,seval,-ae,a2.r0,w,X,V,J,R,S];exact T
 by_cases e2:x1=2
 .subst e2;by_cases X:0<Tw O;rotate_left
  .have V:¬(0:Int)<(Tw O:Int):=aH
   obtain⟨J,R,S,T⟩:=finT de ca (G.weak mK) aH jF jI;simp only[Z3,seval,-ae,G.r1,G.pw.hP.nN,V,J,R,S];exact T
  have V:(0:Int)<(Tw O:Int):=aH
  obtain⟨sP,ck,cs,eP,h1,A,U,h4,h5,h6⟩:=G.pw.powers X;subst eP;obtain⟨x,q,t,ef,e,q1,q2,q3,q4,q5⟩:=h6 _ (ss (aH:0<Tw cs));have rd:u.gv sP 0=Ik (.sl t 0 (Tw x) ef):=by rw[zH h1,na aH,e]
  have n1:¬h.bY=u.bY:=aH
  have n2:¬sP=u.bY:=aH
  simp only[Z3,seval,-ae,G.r1,V,X,n1,n2,rd];refine zBx (by rw[zC,Iv aH];exact q2) (by show t<u.bY+1;omega) aH λbG cK=>?_;have n3:¬h.bY=u.bY+1:=aH
  simp only[Z3,seval,-ae,G.r1,n1,n3];have hf:q8 1 ((u.cb [PV.int .i64 0]).cb (eh x)) (.sl u.bY 0 1 (.cm 1)) 1=Ik [PV.int .i64 0]:=by
   have:((u.cb [PV.int .i64 0]).cb (eh x)).cd u.bY=Ik [PV.int .i64 0]:=by rw[zC,Iv (show ¬u.bY=(u.cb [PV.int .i64 0]).bY fromλe=>by have:u.bY=u.bY+1:=e;omega),zC,Iu rfl]
   rw[qO,Iv Tx,Iu (sB _),zN this];rfl
  refine fB.app (σb:=u.cb [.int .i64 0]) (b:=0) (n:=(Tw x)) (m:=1) (cs:=eh x) (news:=[.int .i64 0]) (zB _ _) (YQ _) (.inr ⟨u.bY+1,bG,rfl,cK,by rw[zC];exact Iu rfl,by rw[zK];omega,sB _,YB _⟩) rfl (λ_=>hf) rfl aH aH λv2 iC I _ aS=>?_;obtain⟨s',aq,rfl,z1,z2,z3,z4,z5⟩:=aS aH;have Ro:u.bY+1<=s':=z4;have kk:=(zB u [PV.int .i64 0]).trans I;have a2:TB H.bY iC (λm=>m<=7) O (l6 L1 s' 1) (Tw O) (Tw O) (λi=>(Tw O)-1-i) (σ.bY+1) h.bY (.sl iP 0 (Tw O) cW) (.sl sP 0 (Tw O) ck) uC:=(G.weak mK).keepL kk.bY (kk.cd _ G.rlt) (λt _ ht=>kk.cd t ht) (zk aH);have aE:gw (l6 L1 s' 1) iC H.bY (λm=>m<=7) (.sl s' 0 (Tw x+1) aq):=⟨x++[0],by simp;omega,s',aq,bj,by simpa using z1,by rw[z2];simp[eh],aH,z5,qG⟩
  obtain⟨E1,Dx,ds,e',b1,b2,w,a3⟩:=a2.putP X aE;simp only[PV.sl.injEq]at e';obtain⟨rfl,-,-,rfl⟩:=e';have fE:KM σ s0 (iC.set sP ds):=KM.set (de.c7 kk) aH ds;have cX:So (iC.set sP ds) s0 vS bs:=(ca.c7 kk).set aH ds;have Ms:iC.gv h.bY 1=Ik (.sl sP 0 (Tw O) ck):=a2.r1;generalize iC.set sP ds=g3 at *
  obtain⟨J,R,S,T⟩:=finT fE cX a3 aH jF jI;simp only[Z3,seval,-ae,Ms,w,X,V,J,R,S];exact T
 by_cases e3:x1=3
 .subst e3;by_cases X:0<Tw O;rotate_left
  .have V:¬(0:Int)<(Tw O:Int):=aH
   obtain⟨J,R,S,T⟩:=finT de ca (G.weak mK) aH jF jI;simp only[Z3,seval,-ae,G.r1,G.pw.hP.nN,V,J,R,S];exact T
  have V:(0:Int)<(Tw O:Int):=aH
  obtain⟨sP,ck,cs,eP,h1,A,U,h4,h5,h6⟩:=G.pw.powers X;subst eP;obtain⟨x,q,t,ef,e,q1,q2,q3,q4,q5⟩:=h6 _ (ss (aH:0<Tw cs));have rd:u.gv sP 0=Ik (.sl t 0 (Tw x) ef):=by rw[zH h1,na aH,e]
  by_cases cQ:0<Tw x;rotate_left
  .have x6:¬(0:Int)<(Tw x:Int):=aH
   obtain⟨J,R,S,T⟩:=finT de ca (G.weak mK) aH jF jI;simp only[Z3,seval,-ae,G.r1,V,X,rd,x6,J,R,S];exact T
  have x6:(0:Int)<(Tw x:Int):=aH
  obtain⟨w,p⟩:=(G.weak mK).pw.setRow (y:=1) q2 cQ q5;have a3:=(G.weak mK).wrote q3 aH p;have fE:=de.set (t:=t) aH (eh (x.set 0 1));have cX:=ca.set (t:=t) aH (eh (x.set 0 1));generalize u.set t (eh (x.set 0 1))=g3 at *
  obtain⟨J,R,S,T⟩:=finT fE cX a3 aH jF jI;simp only[Z3,seval,-ae,G.r1,V,X,rd,x6,cQ,w,J,R,S];exact T
 by_cases e4:x1=4
 .subst e4;by_cases X:0<Tw O;rotate_left
  .have V:¬(0:Int)<(Tw O:Int):=aH
   obtain⟨J,R,S,T⟩:=finT de ca (G.weak mK) aH jF jI;simp only[Z3,seval,-ae,G.r2,G.pw.hC.nN,V,J,R,S];exact T
  have V:(0:Int)<(Tw O:Int):=aH
  have aw:=G.weak mK;obtain⟨ee,-⟩|⟨Y,eU,ms,eC,z1,z2,z3,z4,z5,z6,z7⟩:=aw.pw.hC
  .omega
  subst eC;have kU:=z7 0 _ (na (aH:0<Tw ms));have q1:u.gv Y 0=Ik ms[0]:=by rw[zH z2,na aH]
  obtain⟨t,ef,cs,et,y1,y2,y3,y4,y5,y6,y7⟩:=kU;rw[et]at q1;have kU:gD L1 u H.bY (λm=>m<=7) 3 (Tw O-1-0) (.sl t 0 (Tw O-1-0) ef):=⟨t,ef,cs,rfl,y1,y2,y3,y4,y5,y6,y7⟩
  have OO:H.bY<=u.bY:=aH
  have n1:¬h.bY=u.bY:=aH
  have n2:¬Y=u.bY:=aH
  have n3:¬h.bY=u.bY+1:=aH
  have n4:¬Y=u.bY+1:=aH
  have aZ:=aw.fresh (eh (Jf (Tw O) 0)) 1;have kZ:=zB u (eh (Jf (Tw O) 0));have rZ:gw (l6 L1 u.bY 1) (u.cb (eh (Jf (Tw O) 0))) H.bY (λm=>m<=7) (.sl u.bY 0 (Tw O) (.cm (Tw O))):=by
   have:=gw.fresh (L:=L1) (h:=u) (b:=H.bY) (Q:=λm=>m<=7) (x:=Jf (Tw O) 0) (cap:=.cm (Tw O)) OO (by simp;omega) (by simp[full])
   simpa using this
  have mZ:=kU.c7 (L':=l6 L1 u.bY 1) (h':=u.cb (eh (Jf (Tw O) 0))) (Yb _) (λt _ ht=>by rw[zC,Iv aH]) (zk (sB _));simp only[Z3,seval,-ae,G.r2,G.r0,V,X,q1,n1,n2,n3,n4,zi,Qc,uk,uE,qY,qX,E4 (n:=(Tw O)) aH,Go.Ab.zx (n:=(Tw O)) aH];have xQ:∀cP:Nat->Nat,(∀j,cP j=if j=0 then (Tw O)-1-0+1 else (Tw O)-1-j)->∀i,i<Tw O->cP i<=64:=λcP hl i hi=>by rw[hl i];split<;>omega
  refine⟨?_,?_,?_⟩
  .refine zDC (L:=L1) (k:=6) kU aH (λm hm=>aH) Tx aH λL2 A v2 I e2 m2=>?_;have mw:=I.bY;have a2:=aw.keepL I.bY (I.cd _ aw.rlt) (λt _ ht=>I.cd t ht) e2;have q2:A.gv Y 0=Ik (.sl t 0 (Tw O-1-0) ef):=by unfold dj.gv;rw[I.cd Y z5];exact q1
   have n5:¬h.bY=A.bY:=aH
   have n6:¬Y=A.bY:=aH
   have n7:¬h.bY=A.bY+1:=aH
   have n8:¬Y=A.bY+1:=aH
   have aY:=(a2.fresh (eh (Jf (Tw O) 0)) 1).cb [PV.sl A.bY 0 (Tw O) (.cm (Tw O))];have rY:gw (l6 L2 A.bY 1) (A.cb (eh (Jf (Tw O) 0))) H.bY (λm=>m<=7) (.sl A.bY 0 (Tw O) (.cm (Tw O))):=by
    have:=gw.fresh (L:=L2) (h:=A) (b:=H.bY) (Q:=λm=>m<=7) (x:=Jf (Tw O) 0) (cap:=.cm (Tw O)) aH (by simp;omega) (by simp[full])
    simpa using this
   have kY:dq u ((A.cb (eh (Jf (Tw O) 0))).cb [PV.sl A.bY 0 (Tw O) (.cm (Tw O))]):=(I.cb _).cb _;have mY:=m2.c7 (L':=l6 L2 A.bY 1) (h':=(A.cb (eh (Jf (Tw O) 0))).cb [PV.sl A.bY 0 (Tw O) (.cm (Tw O))]) (by show A.bY<=A.bY+1+1;omega) (λt _ ht=>by rw[zC,Iv (by show ¬t=A.bY+1;omega),zC,Iv aH]) (zk (sB _));have Bo:=rY.c7 (L':=l6 L2 A.bY 1) (h':=(A.cb (eh (Jf (Tw O) 0))).cb [PV.sl A.bY 0 (Tw O) (.cm (Tw O))]) (Yb _) (λt _ ht=>by rw[zC,Iv aH]) (λ_ _=>rfl);have oY:((A.cb (eh (Jf (Tw O) 0))).cb [PV.sl A.bY 0 (Tw O) (.cm (Tw O))]).cd (A.bY+1)=Ik [PV.sl A.bY 0 (Tw O) (.cm (Tw O))]:=by rw[zC];exact Iu rfl
   simp only[Z3,seval,-ae,uk,uE,qY,qX,a2.r2,a2.r0,q2,n5,n6,n7,n8,V,X,zi,E4 (n:=(Tw O)) aH,Go.Ab.zx (n:=(Tw O)) aH];have Oy:((A.cb (eh (Jf (Tw O) 0))).cb [PV.sl A.bY 0 (Tw O) (.cm (Tw O))]).bY=A.bY+2:=rfl;generalize ((A.cb (eh (Jf (Tw O) 0))).cb [PV.sl A.bY 0 (Tw O) (.cm (Tw O))])=gY at *
   refine DF.pushG (σ:=σ') (.inr mY) Tx Bo rfl (zCG oY) (kp.trans kY) aH aH aH λv3 U L3 k3 m3 l3 Dj Cq pZ=>?_;have a3:=aY.keepK (k:=6) (sB _) Tx (Ye l3) pZ Cq Dj;obtain⟨DK,xo,ds,L4,cP,e',b1,b2,l4,w,p4,f7,sr⟩:=a3.pw.putMat X m3;simp only[PV.sl.injEq]at e';obtain⟨rfl,-,-,rfl⟩:=e';have a4:=a3.wroteO b1 aH (by rw[f7 _ (by rw[a3.ls];exact sB _)]) p4;have fE:KM σ s0 (U.set Y ds):=KM.set ⟨σ',m',k3⟩ aH _;have cX:So (U.set Y ds) s0 vS bs:=(dA.c7 k3).set aH _;have tG:=a3.r2;generalize U.set Y ds=g3 at *
   obtain⟨J,R,S,T⟩:=finT fE cX a4 aH jF (xQ cP sr);simp only[Z3,seval,-ae,uk,uE,qY,qX,tG,w,X,V,m3.cells,J,R,S];exact T
  .generalize Da:u.cb (eh (Jf (Tw O) 0))=Z at *
   have Kt:Z.bY=u.bY+1:=by rw[<-Da];rfl
   refine zDC (L:=l6 L1 u.bY 1) (k:=6) mZ aH (λm hm=>aH) Tx aH λL2 A v2 I e2 m2=>?_;have mw:=I.bY;have a2:=aZ.keepL I.bY (I.cd _ aZ.rlt) (λt _ ht=>I.cd t ht) e2;have q2:A.gv Y 0=Ik (.sl t 0 (Tw O-1-0) ef):=by unfold dj.gv;rw[I.cd Y aH,<-Da,zC,Iv n2];exact q1
   have n5:¬h.bY=A.bY:=aH
   have n6:¬Y=A.bY:=aH
   have aY:=a2.cb [PV.sl u.bY 0 (Tw O) (.cm (Tw O))];have kY:dq u (A.cb [PV.sl u.bY 0 (Tw O) (.cm (Tw O))]):=(kZ.trans I).cb _;have mY:=m2.c7 (L':=L2) (h':=A.cb [PV.sl u.bY 0 (Tw O) (.cm (Tw O))]) (Yb _) (λt _ ht=>by rw[zC,Iv aH]) (λ_ _=>rfl);have Bo:=rZ.c7 (L':=L2) (h':=A.cb [PV.sl u.bY 0 (Tw O) (.cm (Tw O))]) (by show Z.bY<=A.bY+1;omega) (λt _ ht=>by rw[zC,Iv aH,I.cd t ht]) e2;have oY:(A.cb [PV.sl u.bY 0 (Tw O) (.cm (Tw O))]).cd A.bY=Ik [PV.sl u.bY 0 (Tw O) (.cm (Tw O))]:=by rw[zC,Iu rfl]
   simp only[Z3,seval,-ae,uk,uE,qY,qX,a2.r2,a2.r0,q2,n5,n6,V,X];have Oy:(A.cb [PV.sl u.bY 0 (Tw O) (.cm (Tw O))]).bY=A.bY+1:=rfl;generalize (A.cb [PV.sl u.bY 0 (Tw O) (.cm (Tw O))])=gY at *
   refine DF.pushG (σ:=σ') (.inr mY) Tx Bo rfl (zCG oY) (kp.trans kY) aH aH aH λv3 U L3 k3 m3 l3 Dj Cq pZ=>?_;have a3:=aY.keepK (k:=6) (sB _) Tx (Ye l3) pZ Cq Dj;obtain⟨DK,xo,ds,L4,cP,e',b1,b2,l4,w,p4,f7,sr⟩:=a3.pw.putMat X m3;simp only[PV.sl.injEq]at e';obtain⟨rfl,-,-,rfl⟩:=e';have a4:=a3.wroteO b1 aH (by rw[f7 _ (by rw[a3.ls];exact sB _)]) p4;have fE:KM σ s0 (U.set Y ds):=KM.set ⟨σ',m',k3⟩ aH _;have cX:So (U.set Y ds) s0 vS bs:=(dA.c7 k3).set aH _;have tG:=a3.r2;generalize U.set Y ds=g3 at *
   obtain⟨J,R,S,T⟩:=finT fE cX a4 aH jF (xQ cP sr);simp only[Z3,seval,-ae,uk,uE,qY,qX,tG,w,X,V,m3.cells,J,R,S];exact T
  .generalize Da:u.cb (eh (Jf (Tw O) 0))=Z at *
   have Kt:Z.bY=u.bY+1:=by rw[<-Da];rfl
   have aW:=aZ.cb [PV.sl u.bY 0 (Tw O) (.cm (Tw O))];have kW:=zB Z [PV.sl u.bY 0 (Tw O) (.cm (Tw O))];have mW:=mZ.c7 (L':=l6 L1 u.bY 1) (h':=Z.cb [PV.sl u.bY 0 (Tw O) (.cm (Tw O))]) (Yb _) (λt _ ht=>by rw[zC,Iv aH]) (λ_ _=>rfl);have rW:=rZ.c7 (L':=l6 L1 u.bY 1) (h':=Z.cb [PV.sl u.bY 0 (Tw O) (.cm (Tw O))]) (Yb _) (λt _ ht=>by rw[zC,Iv aH]) (λ_ _=>rfl);have oW:(Z.cb [PV.sl u.bY 0 (Tw O) (.cm (Tw O))]).cd (u.bY+1)=Ik [PV.sl u.bY 0 (Tw O) (.cm (Tw O))]:=by rw[zC,Iu Kt.symm]
   have q0:(Z.cb [PV.sl u.bY 0 (Tw O) (.cm (Tw O))]).gv Y 0=Ik (.sl t 0 (Tw O-1-0) ef):=by unfold dj.gv;rw[zC,Iv aH,<-Da,zC,Iv n2];exact q1
   have SH:(Z.cb [PV.sl u.bY 0 (Tw O) (.cm (Tw O))]).bY=u.bY+2:=by show Z.bY+1=_;omega
   generalize Z.cb [PV.sl u.bY 0 (Tw O) (.cm (Tw O))]=W at *
   have Nv:Y<W.bY:=aH
   refine zDC (L:=l6 L1 u.bY 1) (k:=6) mW aH (λm hm=>aH) Tx aH λL2 gY v2 I e2 mY=>?_;have mw:=I.bY;have aY:=aW.keepL I.bY (I.cd _ aW.rlt) (λt _ ht=>I.cd t ht) e2;have q2:gY.gv Y 0=Ik (.sl t 0 (Tw O-1-0) ef):=by unfold dj.gv at q0 ⊢;rw[I.cd Y Nv];exact q0
   have kY:dq u gY:=(kZ.trans kW).trans I;have Bo:=rW.c7 (L':=L2) I.bY (λt _ ht=>I.cd t ht) e2;have oY:gY.cd (u.bY+1)=Ik [PV.sl u.bY 0 (Tw O) (.cm (Tw O))]:=by rw[I.cd _ aH];exact oW
   simp only[Z3,seval,-ae,uk,uE,qY,qX,aY.r2,aY.r0,q2,V,X];refine DF.pushG (σ:=σ') (.inr mY) Tx Bo rfl (zCG oY) (kp.trans kY) aH aH aH λv3 U L3 k3 m3 l3 Dj Cq pZ=>?_;have a3:=aY.keepK (k:=6) (sB _) Tx (Ye l3) pZ Cq Dj;obtain⟨DK,xo,ds,L4,cP,e',b1,b2,l4,w,p4,f7,sr⟩:=a3.pw.putMat X m3;simp only[PV.sl.injEq]at e';obtain⟨rfl,-,-,rfl⟩:=e';have a4:=a3.wroteO b1 aH (by rw[f7 _ (by rw[a3.ls];exact sB _)]) p4;have fE:KM σ s0 (U.set Y ds):=KM.set ⟨σ',m',k3⟩ aH _;have cX:So (U.set Y ds) s0 vS bs:=(dA.c7 k3).set aH _;have tG:=a3.r2;generalize U.set Y ds=g3 at *
   obtain⟨J,R,S,T⟩:=finT fE cX a4 aH jF (xQ cP sr);simp only[Z3,seval,-ae,uk,uE,qY,qX,tG,w,X,V,m3.cells,J,R,S];exact T
 have wi:x1=5:=aH
 subst wi;clear e0 e1 e2 e3 e4;have Fl:=G.res;have Fo:=G.ob;have uI:∀{n:Nat} {P':V2} {C':V3} {O':V1},n<=7->(Tw O')=n->(∀a∈O',-1000<=a/\a<=1000)->GP (λm=>m=n) P' C' n n (λj=>n-1-j)->SmP O' P' C':=λ{n P' C' O'} hn hl hb q=>
  (GP.sm (N:=n) ⟨q.pl,q.cl,λr hr=>UA (q.pq r hr),q.row,λa ha r hr=>UA (q.cq a ha r hr)⟩ aH aH hb aH aH λi hi=>aH)
 refine Tq ?_;refine qw (s:=u.bY) (O:=[7,7,7,7]) (by rw[zC,Iu rfl];rfl) (YB _) Tx λL3 U D E B k3 p3=>?_;have yD:=k3.bY;have NM:u.bY+1<=U.bY:=yD;have kg:=(zB u (eh [7,7,7,7])).trans k3;have o3:U.cd h.bY=Ik [.sl iP 0 (Tw O) cW,uP,uC]:=by rw[kg.cd _ Gc];exact Fo
 have w3:U.wr h.bY 0 [D,E,B]=Ik (U.set h.bY [D,E,B]):=by rw[zL o3,Iu ⟨bj,by simp[p3.hO.one,p3.hP.one,p3.hC.one]⟩];rfl
 have p4:=p3.set (s:=h.bY) (by show h.bY<u.bY+1;omega) [D,E,B];have gE:KM σ s0 (U.set h.bY [D,E,B]):=(de.c7 kg).set aH _;have fK:So (U.set h.bY [D,E,B]) s0 vS bs:=(ca.c7 kg).set aH _;have r4:(U.set h.bY [D,E,B]).cd (σ.bY+1)=Ik [Tt,Tt,Tt]:=by rw[zG,Iv aH,kg.cd _ aH];exact Fl
 have o4:(U.set h.bY [D,E,B]).cd h.bY=Ik [D,E,B]:=by rw[zG,Iu rfl]
 have SB:(U.set h.bY [D,E,B]).bY=U.bY:=rfl;simp only[Z3,seval,-ae,p3.hO.one,p3.hP.one,p3.hC.one,w3];generalize U.set h.bY [D,E,B]=g4 at *
 refine zQ fK Tx λx2 g5 j7 m5 j4=>?_;have p5:PW L3 (u.cb (eh [7,7,7,7])).bY g5 (λm=>m=4) [7,7,7,7] 4 4 (λj=>4-1-j) D E B:=p4.mv (by show s0<u.bY+1;omega) m5;have iF:=gE.mv af m5;have r5:g5.cd (σ.bY+1)=Ik [Tt,Tt,Tt]:=by rw[m5.cd (Ne.symm jo)];exact r4
 have o5:g5.cd h.bY=Ik [D,E,B]:=by rw[m5.cd aH];exact o4
 have SA:g5.bY=g4.bY:=m5.bY;by_cases e2:x2=0;rotate_left
 .obtain⟨J,R,S,T⟩:=fin (by show σ.bY+1<u.bY+1;omega) iF j4 r5 o5 p5 λP' C' q=>uI Tx rfl Tx q;simp only[Z3,seval,-ae,e2,J,R,S];exact T
 subst e2;refine Tq ?_;refine qw (s:=g5.bY) (O:=[2,2,2,2,2,2,2]) (by rw[zC,Iu rfl];rfl) (YB _) Tx λL6 h6 yO yP yC k6 p6=>?_;have NL:g5.bY+1<=h6.bY:=k6.bY;have DQ:=(zB g5 (eh [2,2,2,2,2,2,2])).trans k6;have o6:h6.cd h.bY=Ik [D,E,B]:=by rw[DQ.cd _ aH];exact o5
 have w6:h6.wr h.bY 0 [yO,yP,yC]=Ik (h6.set h.bY [yO,yP,yC]):=by rw[zL o6,Iu ⟨bj,by simp[p6.hO.one,p6.hP.one,p6.hC.one]⟩];rfl
 have p7:PW L6 (g5.cb (eh [2,2,2,2,2,2,2])).bY (h6.set h.bY [yO,yP,yC]) (λm=>m=7) [2,2,2,2,2,2,2] 7 7 (λj=>7-1-j) yO yP yC:=p6.set (s:=h.bY) (by show h.bY<g5.bY+1;omega) [yO,yP,yC];have uZ:KM σ s0 (h6.set h.bY [yO,yP,yC]):=(iF.c7 DQ).set aH _;have sH:So (h6.set h.bY [yO,yP,yC]) s0 vS bs:=(j4.c7 DQ).set aH _;have r7:(h6.set h.bY [yO,yP,yC]).cd (σ.bY+1)=Ik [Tt,Tt,Tt]:=by rw[zG,Iv aH,DQ.cd _ aH];exact r5
 have o7:(h6.set h.bY [yO,yP,yC]).cd h.bY=Ik [yO,yP,yC]:=by rw[zG,Iu rfl]
 simp only[Z3,seval,-ae,p6.hO.one,p6.hP.one,p6.hC.one,w6];generalize h6.set h.bY [yO,yP,yC]=g7 at *
 obtain⟨J,R,S,T⟩:=fin (by show σ.bY+1<g5.bY+1;omega) uZ sH r7 o7 p7 λP' C' q=>uI Tx rfl Tx q;simp only[Z3,seval,-ae,J,R,S];exact T
end
section
variable{s:Nat}
def Qr{n:Int}(W:1<=n/\n<=1000)(Z:∀v xs t,FI v xs->(Tw xs)<=9->(∀x∈xs,pR x)->K (.tup [v,.bool t]) σ):zA Tp 159 [.int .i64 n] σ K:=by
 refine To Tryz.func159 ?_;refine Tq ?_;refine zF (λm vs h=>∃(d n':Int) (v:PV) (xs:V1),2<=d/\d<=8/\m=(8-d).toNat/\vs=[.int .i64 n',v,.int .i64 d]/\1<=n'/\2 ^ (Tw xs)*n'<=1000/\(∀x∈xs,pR x)/\dq σ h/\ft σ.bY 1 h v (Tw xs) (eh xs)) 6 ?_ ?_
 .exact⟨2,n,.sl σ.bY 0 0 (.cm 0),[],Tx,Tx,rfl,rfl,W.1,by simpa using W.2,λx X=>(by cases X),zB _ _,σ.bY,.cm 0,rfl,.inr rfl,by rw[zC,Iu rfl];rfl,rfl,sB _,YB _⟩
 rintro m vs h ⟨d,n',v,xs,T,SE,rfl,rfl,A,u,G,B,D⟩
 have hlen:∀{xs:V1} {n':Int},1<=n'->(2:Int) ^ (Tw xs)*n'<=1000->(Tw xs)<=9:=λ{xs n'} E J=>by
  rcases YY (Tw xs) 10 with q|q
  .omega
  .exfalso;have e:(2:Int) ^ (Tw xs) ≥ 1024:=by
    obtain⟨r,hr⟩:∃r,(Tw xs)=10+r:=⟨(Tw xs)-10,aH⟩
    rw[hr,Int.pow_add];have J:(1:Int)<=2 ^ r:=Int.pow_pos Tx;omega
   have:(1024:Int)*1<=2 ^ (Tw xs)*n':=Oq e E Tx aH
   omega
 refine Tq ?_;refine Tr (λh8=>?_) λh7=>?_
 .have U:=hlen A u;obtain⟨s,cap,rfl,q1,q2,q3,q4,q5⟩:=D;have e:(TR.tup [TR.row s cap xs,.leaf (.bool (decide (n'=1)))]).pv=.tup [.sl s 0 (Tw xs) cap,.bool (decide (n'=1))]:=by simp only[TR.pv,TR.pvs,TR.row_pv]
  rw[<-e];refine Gh.treeF B (ql ⟨TR.row_ok q1 q2 q4 q5,Is,Is⟩) λa=>?_
  have:=Z ((TR.row s cap xs).fz a) xs (decide (n'=1)) TR.row_FI U G
  simpa only[TR.fz,TR.fzs]using this
 refine zF (λm vs h=>∃(n':Int) (v:PV) (xs:V1),m=n'.toNat/\vs=[.int .i64 n',v,.int .i64 d]/\1<=n'/\2 ^ (Tw xs)*n'<=1000/\(∀x∈xs,pR x)/\dq σ h/\ft σ.bY 1 h v (Tw xs) (eh xs)) n'.toNat ?_ ?_
 .exact⟨n',v,xs,rfl,rfl,A,u,G,B,D⟩
 clear A u G B D
 rintro m vs h ⟨n',v,xs,rfl,rfl,A,u,G,B,D⟩
 have U:=hlen A u;have N:¬d=0:=aH
 have out:∃S,S<(8-d).toNat/\∃(I n₁:Int) (v₁:PV) (H:V1),2<=I/\I<=8/\S=(8-I).toNat/\[PV.int .i64 n',v,PV.int .i64 (Tu .i64 (d+1))]=[PV.int .i64 n₁,v₁,PV.int .i64 I]/\1<=n₁/\2 ^ (Tw H)*n₁<=1000/\(∀x∈H,pR x)/\dq σ h/\ft σ.bY 1 h v₁ (Tw H) (eh H):=
  ⟨_,aH,d+1,n',v,xs,aH,aH,rfl,by rw[mn aH aH],A,u,G,B,D⟩
 refine Tq ?_;refine Q7 ?_;by_cases R:pR d;rotate_left
 .simp only[Z3,seval,-ae,R,decide_false];exact out
 by_cases V:n'.tmod d=0;rotate_left
 .simp only[Z3,seval,-ae,R,decide_true,N,V,decide_false];exact out
 simp only[Z3,seval,-ae,R,decide_true,N,V];refine ft.push (σb:=σ) (bytes:=8) B D aH aH λv2 J k2 Y=>?_;have hdiv:n'=d*(n'.tdiv d):=by
  have:=Int.tmod_add_mul_tdiv n' d
  omega
 have j9:1<=n'.tdiv d:=by
  rcases UI (n'.tdiv d) 1 with q|q
  .exfalso
   have:d*(n'.tdiv d)<=0:=Int.mul_nonpos_of_nonneg_of_nonpos aH aH
   omega
  .exact q
 have af:n'.tdiv d<n':=by
  have:2*(n'.tdiv d)<=d*(n'.tdiv d):=UG T aH
  omega
 have hb:n'<=1000:=by
  have E:(1:Int)<=2 ^ (Tw xs):=Int.pow_pos Tx
  have:=UG E (show(0:Int)<=n' by omega)
  omega
 have wi:Tu .i64 (n'.tdiv d)=n'.tdiv d:=WE;simp only[Z3,seval,-ae,N,wi];refine⟨_,by show(n'.tdiv d).toNat<n'.toNat;omega,n'.tdiv d,v2,xs++[d],rfl,rfl,j9,?_,λx X=>?_,k2,?_⟩
 .rw[cO,Yk,S1,Uk];have E:(0:Int)<=2 ^ (Tw xs):=Int.le_of_lt (Int.pow_pos Tx);have J:2*(n'.tdiv d)<=n':=by
   have:2*(n'.tdiv d)<=d*(n'.tdiv d):=UG T aH
   omega
  exact Int.le_trans (UN J E) u
 .grind
 .rw[cO,Yk];have e:eh (xs++[d])=eh xs++[.int .i64 d]:=by simp[eh]
  rw[e];exact Y
def zIZ{x:Int}{n:Nat}{cap:nK}{B:Nat}(G:σ.cd s=Ik (eh O))(hs:s<σ.bY)(hO:(Tw O)=n)(hn:n<=1000)(N:∀a∈O,1<=a/\a<=1000)(H:0<=x/\x<=1000000)
  (V:∀u cap,(Tw u)=n->full 1 cap n->K (.sl σ.bY 0 n cap) (σ.cb (eh u))):zA Tp 160 [.sl s 0 n cap,.int .i64 B,.int .i64 x] σ K:=by
 refine To Tryz.func160 ?_;simp only[Z3,seval,-ae,zi,E4 (n:=n) aH,Go.Ab.zx (n:=n) aH];refine zF (λm vs h=>∃(i:Nat) (x:Int) (u:V1),m=n-i/\vs=[.sl s 0 n cap,.int .i64 x,.sl σ.bY 0 n (.cm n),.int .i64 i]/\0<=x/\x<=1000000/\Tw u=n/\h=σ.cb (eh u)) (n-B) ?_ ?_
 .exact⟨B,x,Jf n 0,rfl,rfl,H.1,H.2,bj,rfl⟩
 rintro m vs h ⟨i,x,u,rfl,rfl,E,eB,I,rfl⟩
 refine Tq ?_;refine Tr (λZ=>?_) λD=>?_
 .exact Gh.finS (s:=σ.bY) (zB σ _) (by rw[zC,Iu rfl]) (sB _) (zO _ _) (V u _ I (.inr rfl))
 have R:(i:Int)<(n:Int):=aH
 have A:i<Tw O:=aH
 have ob:=N _ (ss A);have rd:(σ.cb (eh u)).gv s i=Ik (.int .i64 O[i]):=by
  unfold dj.gv;rw[zC,Iv aH,G];simp only[YG];rw[zJ,gi A];rfl
 have T:¬O[i]=0:=aH
 have w:(σ.cb (eh u)).wr σ.bY i [.int .i64 (x.tmod O[i])]=Ik ((σ.cb (eh u)).set σ.bY (eh (u.set i (x.tmod O[i])))):=zAm (by rw[zC,Iu rfl]) aH;have S:(σ.cb (eh u)).set σ.bY (eh (u.set i (x.tmod O[i])))=σ.cb (eh (u.set i (x.tmod O[i]))):=by
  unfold dj.set dj.cb;simp_all
 have J:(σ.cb (eh (u.set i (x.tmod O[i])))).gv s i=Ik (.int .i64 O[i]):=by
  unfold dj.gv;rw[zC,Iv aH,G];simp only[YG];rw[zJ,gi A];rfl
 have W:0<=x.tdiv O[i]:=Tg E aH;have Y:x.tdiv O[i]<=x:=Int.tdiv_le_self _ E;have X:Tu .i64 (x.tdiv O[i])=x.tdiv O[i]:=WE;rw[S]at w;generalize U:σ.cb (eh (u.set i (x.tmod O[i])))=g at *
 simp only[Z3,seval,-ae,D,R,rd,T,w,J,X,WX D];exact⟨_,aH,i+1,_,u.set i (x.tmod O[i]),rfl,rfl,W,aH,by rw[Yx];exact I,U.symm⟩
def zMG{base e m:Int}(I:0<=base/\base<=1000)(J:0<=e/\e<=1000)(hm:1<=m/\m<=1000)(U:∀y,0<=y/\y<=1000->K (.int .i64 y) σ):zA Tp 161 [.int .i64 base,.int .i64 e,.int .i64 m] σ K:=by
 have A:¬m=0:=aH
 have B:∀z:Int,0<=z->0<=z.tmod m/\z.tmod m<=1000:=λz N=>by
  have H:=Th m N;have Z:=Sn z (show 0<m by omega);omega
 refine Tn Tryz.func161 ?_;simp only[Z3,seval,-ae,A];refine zF (λk vs h=>∃(b e y:Int),k=e.toNat/\vs=[.int .i64 b,.int .i64 e,.int .i64 m,.int .i64 y]/\0<=b/\b<=1000/\0<=e/\e<=1000/\0<=y/\y<=1000/\σ=h) e.toNat ?_ ?_
 .have:=B 1 Tx
  exact⟨base,e,_,rfl,rfl,I.1,I.2,J.1,J.2,this.1,this.2,rfl⟩
 rintro k vs h ⟨b,e,y,rfl,rfl,u,b1,G,Y,D,E,rfl⟩
 refine Tq ?_;refine Tr (λN=>?_) λX=>?_
 .exact U y ⟨D,E⟩
 have T:y*b<=1000000/\0<=y*b:=⟨by have:=Oq E b1 u (by decide:(0:Int)<=1000);omega,UW D u⟩
 have V:b*b<=1000000/\0<=b*b:=⟨by have:=Oq b1 b1 u (by decide:(0:Int)<=1000);omega,UW u u⟩
 have w1:Tu .i64 (y*b)=y*b:=WE;have w2:Tu .i64 (b*b)=b*b:=WE;have R:0<=e.tdiv 2:=Tg G Tx;have W:e.tdiv 2<e:=by rw[Y8 G];omega
 have S:Tu .i64 (e.tdiv 2)=e.tdiv 2:=WE;have r1:=B _ T.2;have r2:=B _ V.2;refine Tq ?_;refine fi (λH=>?_) λH=>?_
 .simp only[Z3,seval,-ae,w1,w2,S,A];exact⟨_,by show(e.tdiv 2).toNat<e.toNat;omega,_,e.tdiv 2,_,rfl,rfl,r2.1,r2.2,R,aH,r1.1,r1.2⟩
 .simp only[Z3,seval,-ae,w1,w2,S,A];exact⟨_,by show(e.tdiv 2).toNat<e.toNat;omega,_,e.tdiv 2,_,rfl,rfl,r2.1,r2.2,R,aH,D,E⟩
def MatX(h:dj)(v:PV)(M:V2):Prop:=∃s cap cs,v=.sl s 0 (Tw M) cap/\h.cd s=Ik cs/\s<h.bY/\ez (λc x=>∃t cap,c=PV.sl t 0 (Tw x) cap/\h.cd t=Ik (eh x)/\t<h.bY) cs M
def MatX.c7(a:MatX h v M)(k:dq h h'):MatX h' v M:=by
 obtain⟨s,cap,cs,e,A,B,D⟩:=a;have E:=k.bY;exact⟨s,cap,cs,e,by rw[k.cd s B];exact A,aH,D.imp λc x ⟨t,cap,e,m,u⟩=>⟨t,cap,e,by rw[k.cd t u];exact m,aH⟩⟩
def MatX.nN(a:MatX h v M):nN v=Ik (.int .i64 (Tw M)):=by obtain⟨s,cap,cs,rfl,_⟩:=a;rfl
def MatX.one(a:MatX h v M):v.one=Im:=by obtain⟨s,cap,cs,rfl,_⟩:=a;rfl
def zNy(hM:MatX σ v M)(hm:(Tw M)<=1000)(hr:∀r∈M,(Tw r)<=1000)(hk:∀w,hK w M->K w σ):zA Tp 35 [v] σ K:=by
 obtain⟨s,cap,cs,rfl,h1,h2,J⟩:=hM;refine To Tryz.func35 ?_;refine Tq ?_;refine zF (λm vs h=>∃(i:Nat) (v:PV) (rows:List SR),i<=Tw M/\m=Tw M-i/\vs=[.sl s 0 (Tw M) cap,v,.int .i64 i]/\dq σ h/\ft σ.bY 1 h v i (rows.map SR.pv)/\(∀q∈rows,q.ok h σ.bY)/\rows.map SR.x=M.take i/\∀q∈rows,∀off l c,v≠.sl q.s off l c) (Tw M) ?_ ?_
 .exact⟨0,.sl σ.bY 0 0 (.cm 0),[],YQ _,rfl,rfl,zB _ _,⟨σ.bY,.cm 0,rfl,.inr rfl,by rw[zC,Iu rfl];rfl,rfl,sB _,YB _⟩,λq u=>(by cases u),bj,λq u=>by cases u⟩
 rintro m vs h ⟨i,v,rows,hi,rfl,rfl,A,H,u,E,V⟩
 have X:=A.bY;refine Tq ?_;refine Tr (λan=>?_) λB=>?_
 .have e:i=Tw M:=aH
  subst e;obtain⟨I,D,rfl,q1,q2,q3,q4,q5⟩:=H;rw[YP]at E;have N:(Tw rows)=Tw M:=by rw[<-Yj (f:=SR.x),E]
  have e:(TR.rows I D rows).pv=.sl I 0 (Tw M) D:=by simp only[TR.rows,TR.pv,Yj,N]
  rw[<-e];refine Gh.treeF A (ql (TR.rows_ok (by rw[N];exact q1) q2 q4 q5 u)) λa=>?_;have Y:hK ((TR.rows I D rows).fz a) M:=by rw[<-E];exact TR.rows_FII
  exact hk _ Y
 have dD:(Tw cs)=Tw M:=J.1;obtain⟨t,Z,e,g1,g2⟩:=J.2 i _ _ (na aH) (na B);have U:(i:Int)<(Tw M:Int):=aH
 have rd:h.gv s i=Ik (.sl t 0 M[i].length Z):=by unfold dj.gv;rw[A.cd s h2,h1,<-e];exact na aH
 simp only[Z3,seval,-ae,B,U,rd];refine zBx (by rw[A.cd t g2];exact g1) aH (by have:=hr _ (ss B);omega) λW hc=>?_;refine Tq ?_;refine fB.pushS (σb:=σ) (h:=h.cb (eh M[i])) (e:=1) (A.cb _) (ft.acc (H.c7 (zB _ _))) rfl aH aH λv2 G k2 T o2 R l2=>?_;have BN:h.bY+1<G.bY:=l2;have S:∀t,t<h.bY+1->(∀off l c,v≠.sl t off l c)->G.cd t=(h.cb (eh M[i])).cd t:=λt ht hv=>o2 t ht hv;obtain⟨sv,P4,ev,_,_,_,_,RD⟩:=H;simp only[Z3,seval,-ae,WX B];refine⟨_,aH,i+1,v2,rows++[⟨h.bY,W,M[i]⟩],aH,rfl,rfl,k2,by simpa [SR.pv]using T,λq cH=>?_,by simp_all,λq cH off l c e'=>?_⟩
 .rcases YZ.1 cH with cH|cH
  .obtain⟨y1,y2,y3,y4⟩:=u q cH;exact⟨y1,by rw[S q.s aH (V q cH),zC,Iv aH];exact y2,y3,aH⟩
  .rw[YW.1 cH];exact⟨hc,by rw[S h.bY aH (λoff l c e'=>by rw[ev]at e';simp only[PV.sl.injEq]at e';omega),zC,Iu rfl],X,by show h.bY<G.bY;omega⟩
 .rcases YZ.1 cH with cH|cH
  .exact R q.s (by have:=(u q cH).2.2.2;show q.s<h.bY+1;omega) off l c e'
  .rw[YW.1 cH]at e';exact R h.bY (YB _) off l c e'
def ft.catO{σb h:dj}{n m:Nat}{v:PV}{xs:V1}{k:IntKind}{K:PV->dj->Prop}(D:dq σb h)(a:ft σb.bY 1 h v n (eh xs))(H:n+m<=1000)(G:∀u h',dq σb h'->ft σb.bY 1 h' u (n+m) (eh (xs++Jf m 0))->K u h'):zBv 1 8 [.int .i64 0] v (.int k m) h K:=by
 have A:=ft.cat (bytes:=8) (w:=Im) (av:=.cU) (m:=m) (news:=eh (Jf m 0)) (K:=λq=>K q.1 q.2) D a (by rw[zK,YT]) aH aH λu h' E a'=>G u h' E (by rw[qh]at a';exact a');obtain⟨s,cap,rfl,_⟩:=a;rw[zNY];refine⟨⟨aH,aH,aH⟩,?_⟩;rw[ZM]at A;rw[KH];by_cases B:m=0
 .subst B;simp only[zGB,YG,if_true]at A;rw[Iv aH];exact A
 .simp only[zGB,YG,Iv B,zBI,KE]at A;rw[Iu ⟨sB _,by rw[zK,YT];exact sB _,aH⟩]at A;rw[Iu aH];have e:gH (jE [.int .i64 0] m)=eh (Jf m 0):=by
   rw[zCk];rw[zKb];exact zi m 0
  rw[e];simp only[YG]at A;rw[YU (by rw[zK,YT];exact sB _)]at A;exact A
def QR{before behind:Nat}{v:PV}(D:FI v x)(U:before<=300)(T:behind<=300)(S:(Tw x)<=300)(N:∀cap u,(Tw u)=before+Tw x+behind->full 1 cap (Tw u)->K (.sl σ.bY 0 (Tw u) cap) (σ.cb (eh u))):zA Tp 114 [.int .i64 before,v,.int .i64 behind] σ K:=by
 obtain⟨w,a,rfl⟩:=D;refine To Tryz.func114 ?_;simp only[Z3,seval,-ae,zi,E4 (n:=before) aH,Go.Ab.zx (n:=before) aH];refine ft.cat (σb:=σ) (bytes:=8) (m:=(Tw x)) (news:=eh x) (zB σ _) (ft.own (n:=before) (.inr rfl) (by rw[zC,Iu rfl]) (by rw[zK,YT,KE]) (sB _) (YB _)) (by rw[zK]) aH aH λV H E A=>?_;rw[qh]at A;refine Tq ?_;refine ft.catO (σb:=σ) (m:=behind) E A aH λW I G B=>?_;refine Tq ?_;have R:(Jf before (0:Int)++x++Jf behind 0).length=before+Tw x+behind:=by simp[Y9]
 refine B.out G (zO _ _) λcap J=>?_;simp_all
end
section
variable{s:Nat}{L L':Nat->Nat}{Q:Nat->Prop}{len:Nat->Nat}
structure Fm(N:Nat)(O:V1)(P:V2)(C:V3):Prop where
 n:(Tw O)<=N
 ob:∀a∈O,1<=a/\a<=1000
 q:GP (λm=>m=Tw O) P C (Tw O) (Tw O) (λi=>(Tw O)-1-i)
def Fm.mono{N N':Nat}(a:Fm N O P C)(h:N<=N'):Fm N' O P C:=⟨Yv a.n h,a.ob,a.q⟩
def Fm.nil(N:Nat):Fm N [] [] []:=⟨YQ _,λa h=>(by cases h),rfl,rfl,λr h=>(by cases h),λi h=>absurd h (Jv _),λq h=>by cases h⟩
def pR.b1{p:Int}(h:pR p):1<=p/\p<=1000:=by have:=h.bd;omega
def PW.fin2{e:Int}(a:PW L b h Q O nP nC len vO vP vC)(Y:dq σ h)(X:σ.bY<=b)(k:∀G H E P C,eQ G H E O P C->GP Q P C nP nC len->K (.tup [.agg [G,H,E],.int .i64 e]) σ):Gh σ K (.tup [.agg [vO,vP,vC],.int .i64 e]) h:=by
 obtain⟨u,I,rfl,J⟩:=a.hO.tree;obtain⟨A,P,⟨b1,rfl,D⟩,N⟩:=a.hP.tree;obtain⟨B,C,⟨R,rfl,S⟩,T,U,V⟩:=a.hC.tree;have W:(TR.tup [TR.agg [u,A,B],.leaf (.int .i64 e)]).pv=.tup [.agg [u.pv,A.pv,B.pv],.int .i64 e]:=by simp only[TR.pv,TR.pvs]
 rw[<-W];refine Gh.treeF Y (QL (b:=b) X ⟨⟨ql I,ql b1,ql R,Is⟩,Is,Is⟩) λm=>?_
 have:=k (u.fz m) (A.fz m) (B.fz m) P C ⟨J m,(D m).1,S m⟩ ⟨N,T,(D m).2,U,V⟩
 simpa only[TR.fz,TR.fzs]using this
def ZO{n m a c:Int}(hn:1<=n/\n<=1000)(hm:1<=m/\m<=1000)(ha:0<=a/\a<=1000)(hc:0<=c/\c<=1000)
  (hk:∀wO wP wC O P C,eQ wO wP wC O P C->Fm 18 O P C->K (.agg [wO,wP,wC]) σ):zA Tp 110 [.int .i64 n,.int .i64 m,.int .i64 a,.int .i64 c] σ K:=by
 refine To Tryz.func110 ?_;refine Tq ?_;refine Qr hn λv1 A t1 gu ue ka=>?_;refine Tq ?_;refine Qr hm λv2 x2 t2 dx mC mq=>?_;refine Tq ?_;obtain⟨w1,a1,rfl⟩:=gu;refine zl rfl aH λcA iB=>?_;obtain⟨w2,a2,rfl⟩:=dx;refine Tq ?_;generalize hH:σ.cb [Tt,Tt,Tt]=H;have eG:H.bY=σ.bY+1:=by rw[<-hH];rfl
 have kH:dq σ H:=by rw[<-hH];exact zB _ _
 have cM:H.cd σ.bY=Ik [Tt,Tt,Tt]:=by rw[<-hH];simp only[Z3,seval,-ae]
 clear hH;rw[<-eG];refine ft.cat (σb:=H) (bytes:=8) (m:=(Tw x2)) (news:=eh x2) (zB H _) (ft.own (n:=(Tw A)) iB (by rw[zC,Iu rfl]) (by rw[zK,KE]) (sB _) (YB _)) (by rw[zK]) aH aH λv3 E k3 a3=>?_;rw[qh,<-cO]at a3;obtain⟨O,hO⟩:∃O,O=A++x2:=⟨_,rfl⟩
 rw[<-hO]at a3;have uw:(Tw O)=Tw A+Tw x2:=by rw[hO,cO]
 have jF:∀a∈O,1<=a/\a<=1000:=λa h=>by
  rw[hO]at h;rcases YZ.1 h with h|h
  .exact(ka a h).b1
  .exact(mq a h).b1
 clear hO;obtain⟨X,cW,rfl,q1,q2,q3,q4,q5⟩:=a3;have yD:=k3.bY;refine Tq ?_;refine qw q2 q5 aH λL h vO vP vC k4 p4=>?_;have nV:=k4.bY;have B:=TB.start (r:=σ.bY) p4 aH (by rw[k4.cd _ aH,k3.cd _ aH];exact cM) nV;have D:=k4.cb [vO,vP,vC];simp only[Z3,seval,-ae,p4.hO.one,p4.hP.one,p4.hC.one];generalize h.bY=s at *
 clear p4 k4;generalize hN:(Tw O)=N at *
 refine zF (λI vs h=>∃(i:Nat) (L:Nat->Nat),i<=N/\I=N-i/\vs=[.int .i64 m,.int .i64 a,.int .i64 c,.ptr σ.bY 0,.fz w1 a1 (Tw A) (eh A),.sl X 0 N cW,.ptr s 0,.int .i64 (Tw A),.int .i64 i]/\dq E h/\TB E.bY h (λm=>m=N) O L N N (λj=>N-1-j) σ.bY s vO vP vC) N ?_ ?_
 .exact⟨0,_,YQ _,rfl,rfl,D,B⟩
 clear B D
 rintro I vs h ⟨i,L,hi,rfl,rfl,D,B⟩
 have jL:=D.bY;have wi:Tu .i64 ((i:Int)+1)=((i+1:Nat):Int):=WQ
 simp only[Z3,seval,-ae,wi];refine fi (λT=>?_) λan=>?_
 .have ah:((i+1:Nat):Int)<(N:Int):=aH
  refine fi (λhe=>?_) λhe=>?_
  .exact⟨_,aH,i+1,L,aH,rfl,rfl,D,B⟩
  have V:i<N:=aH
  have dO:(i:Int)<(N:Int):=aH
  obtain⟨J,ck,rfl,xd,qq,put⟩:=B.putPx V;have uU:¬J=h.bY:=aH
  simp only[Z3,seval,-ae,B.r1,wi];refine Qp aH T λY Z=>?_;obtain⟨U,L',w,S⟩:=put (xs:=iS N (i+1)) (cp:=Y) (zg ..) (by rw[zg];exact Z);rw[zg]at w;have W:dq E ((h.cb (eh (iS N (i+1)))).set J U):=(D.cb _).set aH _;have r1:(h.cb (eh (iS N (i+1)))).gv s 1=Ik (.sl J 0 N ck):=(B.cb _).r1;generalize h.cb (eh (iS N (i+1)))=g at *
  simp only[Z3,seval,-ae,r1,V,dO,w,wi];refine⟨_,aH,i+1,L',aH,rfl,rfl,W,S⟩
 clear wi an hi;have K0:∀{g:dj} {K':PV->dj->Prop} {f:Nat} {y:Int},dq E g->0<=y/\y<=1000000->(∀G cap,(Tw G)=N->full 1 cap N->K' (.sl g.bY 0 N cap) (g.cb (eh G)))->zA Tp 160 [.sl X 0 N cW,.int .i64 f,.int .i64 y] g K':=λ{g K' f y} kg hy cB=>
  zIZ (O:=O) (n:=N) (by rw[kg.cd X q5];exact q2) (by have:=kg.bY;omega) hN aH jF hy cB
 have fin:∀{g:dj} {L:Nat->Nat},dq E g->TB E.bY g (λm=>m=N) O L N N (λj=>N-1-j) σ.bY s vO vP vC->
   g.wr σ.bY 0 [vO,vP,vC]=Ik (g.set σ.bY [vO,vP,vC])/\(g.set σ.bY [vO,vP,vC]).rd σ.bY 0 3=Ik [vO,vP,vC]/\Gh σ K (.agg [vO,vP,vC]) (g.set σ.bY [vO,vP,vC]):=λ{g L} kg a=>by
  obtain⟨e1,e2,e3⟩:=a.fin;refine⟨e1,e2,e3.fin (((kH.trans k3).trans kg).set (sB _) _) aH λwO wP wC P C r1 r2=>hk wO wP wC O P C r1 ⟨aH,jF,?_⟩⟩;rw[hN];exact r2
 have kU:¬m=0:=aH
 have cQ:0<=a.tmod m:=Th m ha.1;have eB:a.tmod m<=1000:=by have:=Sn a (show 0<m by omega);omega
 refine Tq ?_;refine Tr (λhz=>?_) λaM=>?_
 .have dV:(Tw A)=0:=aH
  simp only[Z3,seval,-ae,kU];refine zF (λI vs h'=>∃(x:Int),I=0/\vs=[.int .i64 m,.ptr σ.bY 0,.fz w1 a1 (Tw A) (eh A),.sl X 0 N cW,.ptr s 0,.int .i64 (Tw A),.int .i64 x,.int .i64 (0:Nat)]/\h'=h) 0 ?_ ?_
  .exact⟨_,rfl,rfl,rfl⟩
  rintro I vs h ⟨x,rfl,rfl,rfl⟩
  obtain⟨e1,e2,e3⟩:=fin D B;simp only[Z3,seval,-ae,dV,B.r3,e1,e2];exact e3
 have uf:(Tw A)-1<N:=aH
 have CC:((Tw A-1:Nat):Int)<(N:Int):=aH
 have wl:Tu .i64 ((Tw A:Int)-1)=((Tw A-1:Nat):Int):=WQ
 obtain⟨J,ck,rfl,xd,qq,put⟩:=B.putPx uf;have uU:¬J=h.bY:=aH
 simp only[Z3,seval,-ae,B.r1,wl,uf,CC];refine K0 (f:=(Tw A)) D aH λG Y R Z=>?_;obtain⟨U,L',w,S⟩:=put (xs:=G) (cp:=Y) R (by rw[R];exact Z);rw[R]at w;have W:dq E ((h.cb (eh G)).set J U):=(D.cb _).set aH _;have r1:(h.cb (eh G)).gv s 1=Ik (.sl J 0 N ck):=(B.cb _).r1;generalize h.cb (eh G)=g at *
 simp only[Z3,seval,-ae,r1,uf,CC,w,wl,kU];generalize g.set J U=g2 at *
 refine zF (λI vs h=>∃(i:Nat) (x:Int) (L:Nat->Nat),i<=Tw A/\I=Tw A-i/\vs=[.int .i64 m,.ptr σ.bY 0,.fz w1 a1 (Tw A) (eh A),.sl X 0 N cW,.ptr s 0,.int .i64 (Tw A),.int .i64 x,.int .i64 i]/\0<=x/\x<=1000/\dq E h/\TB E.bY h (λm=>m=N) O L N N (λj=>N-1-j) σ.bY s vO (.sl J 0 N ck) vC) (Tw A) ?_ ?_
 .exact⟨0,_,L',YQ _,rfl,rfl,cQ,eB,W,S⟩
 clear W S w put uU qq D B jL
 rintro I vs h ⟨i,x,L,hi,rfl,rfl,x0,Lf,D,B⟩
 have jL:=D.bY;refine Tq ?_;refine Tr (λan=>?_) λT=>?_
 .obtain⟨e1,e2,e3⟩:=fin D B;simp only[Z3,seval,-ae,B.r3,e1,e2];exact e3
 refine zF (λI vs h=>∃(j:Nat) (L:Nat->Nat),(Tw A)<=j/\j<=N/\I=N-j/\vs=[.int .i64 m,.ptr σ.bY 0,.fz w1 a1 (Tw A) (eh A),.sl X 0 N cW,.ptr s 0,.int .i64 (Tw A),.int .i64 x,.int .i64 i,.int .i64 j]/\dq E h/\TB E.bY h (λm=>m=N) O L N N (λj=>N-1-j) σ.bY s vO (.sl J 0 N ck) vC) (N-Tw A) ?_ ?_
 .exact⟨(Tw A),L,sB _,aH,rfl,rfl,D,B⟩
 clear D B jL
 rintro I vs h ⟨j,L,Sx,hj,rfl,rfl,D,B⟩
 have jL:=D.bY;have V:i<N:=aH
 have dO:(i:Int)<(N:Int):=aH
 have wM:(i:Int)<(Tw A:Int):=aH
 refine Tq ?_;refine Tr (λan=>?_) λaX=>?_
 .have xi:=(ka _ (ss T)).b1;have gx:(eh A)[i]? = Ik (.int .i64 A[i]):=by rw[zJ,gi T];rfl
  simp only[Z3,seval,-ae,T,wM,gx];refine zMG ⟨x0,Lf⟩ ⟨aH,xi.2⟩ hm λy hy=>?_;simp only[Z3,seval,-ae,WX T];exact⟨_,aH,i+1,y,L,aH,rfl,rfl,hy.1,hy.2,D,B⟩
 have jh:j-i-1<N-1-i:=aH
 have fj:((j-i-1:Nat):Int)<((N-1-i:Nat):Int):=aH
 have wj:Tu .i64 ((j:Int)-(i:Int))=(j:Int)-(i:Int):=WE;have sF:Tu .i64 ((j:Int)-(i:Int)-1)=((j-i-1:Nat):Int):=WQ
 obtain⟨sC,eU,u,kJ,rfl,q7,C4,CB,CY,Cy,put⟩:=B.putCx V jh;have FA:¬sC=h.bY:=aH
 have AA:¬u=h.bY:=aH
 simp only[Z3,seval,-ae,B.r2,q7,V,dO,wj,sF];refine K0 (f:=j) D aH λG Y R Z=>?_;obtain⟨U,L',rC,w,S⟩:=put (xs:=G) (cp:=Y) R (by rw[R];exact Z);rw[R]at w;have r2:(h.cb (eh G)).gv s 2=Ik (.sl sC 0 N eU):=(B.cb _).r2;have W:dq E ((h.cb (eh G)).set u U):=(D.cb _).set aH _;generalize h.cb (eh G)=g at *
 simp only[Z3,seval,-ae,r2,rC,V,dO,jh,fj,w,wj,sF,lG (aH:j<N) (aH:N<=4611686018427387904)];exact⟨_,aH,j+1,L',aH,aH,rfl,rfl,W,S⟩
def zOc{n:Int}(hn:1<=n/\n<=1000)(W:∀e I J G O P C,eQ I J G O P C->Fm 6 O P C->K (.tup [.agg [I,J,G],.int .i64 e]) σ):zA Tp 109 [.int .i64 n] σ K:=by
 have nil:∀e,K (.tup [.agg [Tt,Tt,Tt],.int .i64 e]) σ:=λe=>
  W e _ _ _ [] [] [] ⟨⟨Im,.cU,rfl⟩,⟨Im,.cU,[],rfl,ez.nil _⟩,⟨Im,.cU,[],rfl,ez.nil _⟩⟩ (Fm.nil 6)
 have T:∀{h:dj} {e:Int},dq σ h->Gh σ K (.tup [.agg [Tt,Tt,Tt],.int .i64 e]) h:=λ{h e} kh=>by
  have et:(TR.tup [TR.agg [.nil,.nil,.nil],.leaf (.int .i64 e)]).pv=.tup [.agg [Tt,Tt,Tt],.int .i64 e]:=by simp only[TR.pv,TR.pvs]
  rw[<-et];refine Gh.treeF kh ⟨⟨Is,Is,Is,Is⟩,Is,Is⟩ λaa=>?_;simpa only[TR.fz,TR.fzs]using nil e
 refine To Tryz.func109 ?_;refine Tq ?_;refine QZ ?_;refine Tq ?_;refine Tr (λdM=>?_) λcD=>?_
 .exact T (zB _ _)
 refine Qr hn λv1 O t1 gu ue ka=>?_;obtain⟨w1,U,rfl⟩:=gu;cases t1
 .refine Tq ?_;exact T (zB _ _)
 refine Tq ?_;refine fi (λh6=>?_) λh6=>?_
 .exact T (zB _ _)
 have xh:(Tw O)<=6:=aH
 generalize D:σ.cb [Tt,Tt,Tt]=H;have eG:H.bY=σ.bY+1:=by rw[<-D];rfl
 have kH:dq σ H:=by rw[<-D];exact zB _ _
 have cM:H.cd σ.bY=Ik [Tt,Tt,Tt]:=by rw[<-D];simp only[Z3,seval,-ae]
 clear D;refine zAV ⟨w1,U,rfl⟩ aH λL h vO vP vC E B=>?_;have nV:=E.bY;have u:=TB.start (r:=σ.bY) B aH (by rw[E.cd _ aH];exact cM) nV;have A:=E.cb [vO,vP,vC];simp only[Z3,seval,-ae,B.hO.one,B.hP.one,B.hC.one];generalize h.bY=s at *
 clear B E;generalize hN:(Tw O)=N at *
 refine zF (λX vs h=>∃(i:Nat) (L:Nat->Nat),i<=N/\X=N-i/\vs=[.ptr σ.bY 0,.fz w1 U N (eh O),.ptr s 0,.int .i64 i]/\dq H h/\TB H.bY h (λm=>m=N) O L N N (λj=>N-1-j) σ.bY s vO vP vC) N ?_ ?_
 .exact⟨0,_,YQ _,rfl,rfl,A,u⟩
 clear u A
 rintro X vs h ⟨i,L,hi,rfl,rfl,A,u⟩
 have jL:=A.bY;have S:Tu .i64 ((i:Int)+1)=((i+1:Nat):Int):=WQ
 simp only[Z3,seval,-ae,S];refine fi (λZ=>?_) λan=>?_
 .have ah:((i+1:Nat):Int)<(N:Int):=aH
  have V:i<N:=aH
  have dO:(i:Int)<(N:Int):=aH
  obtain⟨R,ck,rfl,xd,qq,put⟩:=u.putPx V;have uU:¬R=h.bY:=aH
  simp only[Z3,seval,-ae,u.r1,S];refine Qp aH Z λbG cK=>?_;obtain⟨ds,L',w,Y⟩:=put (xs:=iS N (i+1)) (cp:=bG) (zg ..) (by rw[zg];exact cK);rw[zg]at w;have k6:dq H ((h.cb (eh (iS N (i+1)))).set R ds):=(A.cb _).set aH _;have r1:(h.cb (eh (iS N (i+1)))).gv s 1=Ik (.sl R 0 N ck):=(u.cb _).r1;generalize h.cb (eh (iS N (i+1)))=g at *
  simp only[Z3,seval,-ae,r1,V,dO,w,S];refine⟨_,aH,i+1,L',aH,rfl,rfl,k6,Y⟩
 obtain⟨e1,e2,e3⟩:=u.fin;simp only[Z3,seval,-ae,u.r3,e1,e2];refine e3.fin2 ((kH.trans A).set (sB _) _) aH λI J G P C r1 r2=>W 0 I J G O P C r1 ⟨aH,λa h=>(ka a h).b1,?_⟩;rw[hN];exact r2
def zHh{g:dj}{t:Nat}{xs m:List PV}(u:¬t=g.bY):(g.cb xs).set t m=(g.set t m).cb xs:=by simp only[Z3,seval,-ae,u]
def zHO{g:dj}{t i:Nat}{xs u v:List PV}(m:(g.cb xs).wr t i v=Ik ((g.cb xs).set t u))(B:¬t=g.bY):∃A,g.wr t i v=Ik A/\A.cb xs=(g.cb xs).set t u:=by
 rw[zHh B]at m ⊢;simp only[Z3,seval,-ae,B]at m;exact YJ.1 m
def zEi{p:Int}(R:So σ s0 vS bs)(hp:2<=p/\p<=7)(hk:∀wO wP Z O P C σ',eQ wO wP Z O P C->Fm 18 O P C->Mv σ s0 σ'->So σ' s0 vS bs->K (.agg [wO,wP,Z]) σ'):zA Tp 111 [.ptr s0 0,.int .i64 p] σ K:=by
 have V:=R.lt;refine To Tryz.func111 ?_;refine Tq ?_;generalize X:σ.cb [Tt,Tt,Tt]=H;have eG:H.bY=σ.bY+1:=by rw[<-X];rfl
 have kH:dq σ H:=by rw[<-X];exact zB _ _
 have cM:H.cd σ.bY=Ik [Tt,Tt,Tt]:=by rw[<-X];simp only[Z3,seval,-ae]
 clear X;rw[<-eG];obtain⟨O,hO⟩:∃O,O=[p,p,p]:=⟨_,rfl⟩
 have H8:(Tw O)=3:=by rw[hO];rfl
 have ob:∀a∈O,1<=a/\a<=1000:=λa h=>by
  grind
 have tr:∀{g:dj} {K':PV->dj->Prop},g.cd H.bY=Ik (eh O)->H.bY<g.bY->(∀L h vO vP vC,dq g h->PW L g.bY h (λm=>m=3) O 3 3 (λj=>3-1-j) vO vP vC->K' (.agg [vO,vP,vC]) h)->zA Tp 57 [.sl H.bY 0 3 (.cm 3)] g K':=λ{g K'} h1 h2 h3=>by
  have:=qw (cap:=.cm 3) h1 h2 aH (K:=K') (by rw[H8];exact h3)
  rw[H8]at this;exact this
 refine tr (by rw[zC,Iu rfl,hO];rfl) (YB _) λL h vO vP vC Y N=>?_;clear tr;have nV:H.bY+1<=h.bY:=Y.bY;have S:dq H h:=(zB H _).trans Y;have a5:=TB.start (r:=σ.bY) N (by show σ.bY<H.bY+1;omega) (by rw[S.cd _ aH];exact cM) Y.bY;have iF:KM σ s0 (h.cb [vO,vP,vC]):=R.kmK ((kH.trans S).cb _);have j4:So (h.cb [vO,vP,vC]) s0 vS bs:=R.c7 ((kH.trans S).cb _);generalize hb:(H.cb [PV.int .i64 p,PV.int .i64 p,PV.int .i64 p]).bY=b at *
 have SF:b=H.bY+1:=hb.symm;simp only[Z3,seval,-ae,N.hO.one,N.hP.one,N.hC.one];clear hb N S;have Sg:h.bY<(h.cb [vO,vP,vC]).bY:=YB _;generalize h.cb [vO,vP,vC]=g at *
 generalize h.bY=s at *
 clear Y;have fin:∀{g:dj} {L':Nat->Nat},KM σ s0 g->So g s0 vS bs->TB b g (λm=>m=3) O L' 3 3 (λi=>3-1-i) σ.bY s vO vP vC->
   g.wr σ.bY 0 [vO,vP,vC]=Ik (g.set σ.bY [vO,vP,vC])/\(g.set σ.bY [vO,vP,vC]).rd σ.bY 0 3=Ik [vO,vP,vC]/\Gh σ K (.agg [vO,vP,vC]) (g.set σ.bY [vO,vP,vC]):=λ{g L'} km dA a=>by
  obtain⟨B,E,J⟩:=a.fin;refine⟨B,E,J.finKM (km.set aH _) (dA.set aH _) V aH λwO wP Z P C σ' x1 x2 x3 x4=>hk wO wP Z O P C σ' x1 ⟨aH,ob,?_⟩ x3 x4⟩;rw[H8];exact x2
 obtain⟨sC,eU,u,kJ,rfl,q7,C4,CB,CY,Cy,put⟩:=a5.putCx (i:=0) (j:=0) Tx Tx;obtain⟨W,L',rC,w,a6⟩:=put (xs:=[0,1,1]) (cp:=.cm 3) rfl (.inr rfl);have AA:¬u=g.bY:=aH
 have AD:KM σ s0 ((g.cb (eh [0,1,1])).set u W):=(iF.c7 (zB _ _)).set aH _;have nL:So ((g.cb (eh [0,1,1])).set u W) s0 vS bs:=(j4.c7 (zB _ _)).set aH _;have B:∀y:Int,eh [0,y,1]=[PV.int .i64 0,PV.int .i64 y,PV.int .i64 1]:=λ_=>rfl;have E:∀y:Int,eh [0,0,y]=[PV.int .i64 0,PV.int .i64 0,PV.int .i64 y]:=λ_=>rfl;have KN:(0:Int)<((3:Nat):Int):=by decide
 have Pd:(1:Int)<((3:Nat):Int):=by decide
 have Pf:(0:Int)<((2:Nat):Int):=by decide
 have Ix:(0:Int)<((3-1-0:Nat):Int):=by decide
 obtain⟨I,w1,w2⟩:=zHO w AA;rw[B]at w2 AD nL a6;generalize (g.cb [PV.int .i64 0,PV.int .i64 1,PV.int .i64 1]).set u W=g6 at *
 have w1:g.wr u 0 [PV.sl g.bY 0 3 (.cm 3)]=Ik I:=w1;simp only[Z3,seval,-ae,a5.r2,q7,AA,w1,w2,KN,Pf,Ix];have bD:s0<b:=aH
 have jo:s0≠σ.bY:=aH
 refine zQ (n:=2) nL Tx λx1 g7 eB m7 sH=>?_;have T:=a6.mv bD jo m7;have uZ:=AD.mv V m7;by_cases h0:x1=0;rotate_left
 .obtain⟨B,E,J⟩:=fin uZ sH T;simp only[Z3,seval,-ae,h0,T.r3,B,E];exact J
 have step:∀{g:dj} {L:Nat->Nat} (i:Nat) (y:Int),i<3->KM σ s0 g->So g s0 vS bs->TB b g (λm=>m=3) O L 3 3 (λj=>3-1-j) σ.bY s vO vP (.sl sC 0 3 eU)->
   ∃A D I G L',vP=.sl A 0 3 D/\¬A=g.bY/\g.gv s 1=Ik (.sl A 0 3 D)/\(g.cb [PV.int .i64 0,PV.int .i64 0,PV.int .i64 y]).gv s 1=Ik (.sl A 0 3 D)/\g.wr A i [.sl g.bY 0 3 (.cm 3)]=Ik I/\I.cb [PV.int .i64 0,PV.int .i64 0,PV.int .i64 y]=G/\
    KM σ s0 G/\So G s0 vS bs/\TB b G (λm=>m=3) O L' 3 3 (λj=>3-1-j) σ.bY s vO vP (.sl sC 0 3 eU):=λ{g L} i y hi km R a=>by
  obtain⟨A,D,e,xd,qq,put⟩:=a.putPx (i:=i) hi;obtain⟨W,L',w,U⟩:=put (xs:=[0,0,y]) (cp:=.cm 3) rfl (.inr rfl);obtain⟨I,w1,w2⟩:=zHO w aH;have r:=(a.cb [PV.int .i64 0,PV.int .i64 0,PV.int .i64 y]).r1;have r':=a.r1;rw[e]at r r';exact⟨A,D,I,_,L',e,aH,r',r,w1,w2,(km.c7 (zB _ _)).set aH _,(R.c7 (zB _ _)).set aH _,U⟩
 simp only[Z3,seval,-ae,h0,T.r1];refine zQ (n:=p) sH aH λy1 g8 ky m8 Bm=>?_;have a8:=T.mv bD jo m8;obtain⟨A,D,g9,G,L9,rfl,n8,r8,Mq,w8,e8,M9,L8,U⟩:=step 0 y1 Tx (uZ.mv V m8) Bm a8;simp only[Z3,seval,-ae,r8,Mq,n8,w8,e8,KN,U.r1];refine zQ (n:=p) L8 aH λy2 g10 u6 m10 EW=>?_;have ED:=U.mv bD jo m10;obtain⟨E1,Dx,g11,G2,Tm,e',MZ,Bp,Fc,DG,PZ,FN,EU,I5⟩:=step 1 y2 Tx (M9.mv V m10) EW ED;simp only[PV.sl.injEq]at e';obtain⟨rfl,-,-,rfl⟩:=e';obtain⟨B,E,J⟩:=fin FN EU I5;simp only[Z3,seval,-ae,Bp,Fc,MZ,DG,PZ,Pd,I5.r3,B,E];exact J
end
section
open Go.Mx
variable{s:Nat}{L L':Nat->Nat}{len:Nat->Nat}
def zIa{p m:Int}(hp:2<=p/\p<=7)(hm:1<=m/\m<=1000)(V:MatX σ vM M)(KB:Ma p (Tw M) M)(hl:1<=Tw M/\Tw M<=8)
  (hk:∀wO wP wC O P C,eQ wO wP wC O P C->Fm 18 O P C->K (.agg [wO,wP,wC]) σ):zA Tp 112 [.int .i64 p,vM,.int .i64 m] σ K:=by
 refine zA.gh ?_;refine ZY mix Tryz.func112 ?_;simp only[Z3,seval,-ae,V.one];refine Qr hm λv1 D t1 gu ue ka=>?_;simp only[Z3,seval,-ae,V.one];obtain⟨w1,W,rfl⟩:=gu;refine zl rfl aH λcA iB=>?_;generalize hH:σ.cb [Tt,Tt,Tt]=H;have eG:H.bY=σ.bY+1:=by rw[<-hH];rfl
 have kH:dq σ H:=by rw[<-hH];exact zB _ _
 have cM:H.cd σ.bY=Ik [Tt,Tt,Tt]:=by rw[<-hH];simp only[Z3,seval,-ae]
 clear hH;simp only[Z3,seval,-ae,V.one];have OK:=V.c7 kH;obtain⟨n,hn⟩:∃n,n=Tw M:=⟨_,rfl⟩
 have hlen:=V.nN;have J:=V.one;have wn:∀{i:Nat},i<n->Tu .i64 ((i:Int)+1)=((i+1:Nat):Int):=λ{i} hi=>by rw[mn aH aH];omega
 rw[<-hn]at hlen hl;refine zF (λI vs h=>∃(i:Nat) (v:PV),i<=n/\I=n-i/\vs=[.int .i64 p,vM,.ptr σ.bY 0,.fz w1 W (Tw D) (eh D),v,.int .i64 i]/\dq H h/\ft H.bY 1 h v (Tw D+i) (eh (D++Jf i p))) n ?_ ?_
 .refine⟨0,.sl H.bY 0 (Tw D) cA,YQ _,rfl,rfl,zB H _,?_⟩
  have:=ft.own (b:=H.bY) (h:=H.cb (eh D)) (s:=H.bY) (n:=(Tw D)) (e:=1) (cs:=eh D) iB (by rw[zC,Iu rfl]) (by rw[zK,KE]) (sB _) (YB _)
  simpa using this
 rintro I vs h ⟨i,v,hi,rfl,rfl,X,a3⟩
 simp only[Z3,seval,-ae,hlen,J];refine fi (λT=>?_) λan=>?_
 .have ah:(i:Int)<(n:Int):=aH
  refine ft.push (σb:=H) (bytes:=8) X a3 aH aH λv2 h2 k2 a2=>?_;simp only[Z3,seval,-ae,wn T,J];refine⟨_,aH,i+1,v2,aH,rfl,rfl,k2,?_⟩;have e:eh (D++Jf (i+1) p)=eh (D++Jf i p)++[.int .i64 p]:=by rw[Oj,<-YH];simp[eh]
  rw[e];exact a2
 have cD:i=n:=aH
 subst cD;generalize jg:i=n at *
 obtain⟨O,hO⟩:∃O,O=D++Jf n p:=⟨_,rfl⟩
 rw[<-hO]at a3;have uw:(Tw O)=Tw D+n:=by rw[hO,cO,YT]
 have jF:∀a∈O,1<=a/\a<=1000:=λa h=>by
  rw[hO]at h;rcases YZ.1 h with h|h
  .exact(ka a h).b1
  .rw[(List.mem_replicate.1 h).2];omega
 clear hO;rw[<-uw]at a3;obtain⟨so,cW,rfl,q1,q2,q3,q4,q5⟩:=a3;have yD:=X.bY;generalize h=h3 at *
 have OL:=OK.c7 X;refine Tq ?_;refine qw q2 q5 aH λL h vO vP vC k4 Y=>?_;have nV:=k4.bY;have E:=TB.start (r:=σ.bY) Y aH (by rw[k4.cd _ aH,X.cd _ aH];exact cM) nV;have G:=k4.cb [vO,vP,vC];simp only[Z3,seval,-ae,Y.hO.one,Y.hP.one,Y.hC.one];generalize h.bY=s at *
 clear Y k4;generalize hN:(Tw O)=N at *
 refine zF (λI vs h=>∃(i:Nat) (L:Nat->Nat),i<=Tw D/\I=Tw D-i/\vs=[.int .i64 p,vM,.ptr σ.bY 0,.fz w1 W (Tw D) (eh D),.sl so 0 N cW,.ptr s 0,.int .i64 (Tw D),.int .i64 i]/\dq h3 h/\TB h3.bY h (λm=>m=N) O L N N (λj=>N-1-j) σ.bY s vO vP vC) (Tw D) ?_ ?_
 .exact⟨0,_,YQ _,rfl,rfl,G,E⟩
 clear E G
 rintro I vs h ⟨i,L,hi,rfl,rfl,G,E⟩
 have jL:=G.bY;have wi:Tu .i64 ((i:Int)+1)=((i+1:Nat):Int):=WQ
 simp only[Z3,seval,-ae,wi,J];refine fi (λT=>?_) λan=>?_
 .have U:i<N:=aH
  have dO:(i:Int)<(N:Int):=aH
  obtain⟨sP,ck,rfl,xd,qq,put⟩:=E.putPx U;have uU:¬sP=h.bY:=aH
  simp only[Z3,seval,-ae,E.r1,wi];refine Qp aH aH λbG cK=>?_;obtain⟨ds,L',w,a6⟩:=put (xs:=iS N (i+1)) (cp:=bG) (zg ..) (by rw[zg];exact cK);rw[zg]at w;have k6:dq h3 ((h.cb (eh (iS N (i+1)))).set sP ds):=(G.cb _).set aH _;have r1:(h.cb (eh (iS N (i+1)))).gv s 1=Ik (.sl sP 0 N ck):=(E.cb _).r1;generalize h.cb (eh (iS N (i+1)))=g at *
  simp only[Z3,seval,-ae,r1,U,dO,w,wi,J];refine⟨_,aH,i+1,L',aH,rfl,rfl,k6,a6⟩
 clear wi an hi;have fin:∀{g:dj} {L:Nat->Nat},dq h3 g->TB h3.bY g (λm=>m=N) O L N N (λj=>N-1-j) σ.bY s vO vP vC->
   g.wr σ.bY 0 [vO,vP,vC]=Ik (g.set σ.bY [vO,vP,vC])/\(g.set σ.bY [vO,vP,vC]).rd σ.bY 0 3=Ik [vO,vP,vC]/\Gh σ K (.agg [vO,vP,vC]) (g.set σ.bY [vO,vP,vC]):=λ{g L} kg a=>by
  obtain⟨e1,e2,e3⟩:=a.fin;refine⟨e1,e2,e3.fin (((kH.trans X).trans kg).set (sB _) _) aH λwO wP wC P C r1 r2=>hk wO wP wC O P C r1 ⟨aH,jF,?_⟩⟩;rw[hN];exact r2
 refine zNy (OL.c7 G) aH (λr hr=>by have:=(KB r hr).len;omega) λS R=>?_;simp only[Z3,seval,-ae,J];refine zF (λI vs h=>∃(i:Nat) (S:PV) (A:V2) (L:Nat->Nat),i<=Tw D/\I=Tw D-i/\vs=[.int .i64 p,vM,.ptr σ.bY 0,.fz w1 W (Tw D) (eh D),.ptr s 0,.int .i64 (Tw D),S,.int .i64 i]/\hK S A/\Ma p n A/\Tw A=n/\dq h3 h/\TB h3.bY h (λm=>m=N) O L N N (λj=>N-1-j) σ.bY s vO vP vC) (Tw D) ?_ ?_
 .exact⟨0,S,M,L,YQ _,rfl,rfl,R,by rw[hn];exact KB,hn.symm,G,E⟩
 clear G E jL R
 rintro I vs h ⟨i,S,A,L,hi,rfl,rfl,R,hA,Ip,G,E⟩
 have jL:=G.bY;simp only[Z3,seval,-ae,J,R.one];refine Tr (λan=>?_) λT=>?_
 .obtain⟨e1,e2,e3⟩:=fin G E;simp only[Z3,seval,-ae,E.r3,e1,e2];exact e3
 refine zF (λI vs h=>∃(j:Nat) (L:Nat->Nat),j<=n/\I=n-j/\vs=[.int .i64 p,vM,.ptr σ.bY 0,.fz w1 W (Tw D) (eh D),.ptr s 0,.int .i64 (Tw D),S,.int .i64 i,.int .i64 j]/\dq h3 h/\TB h3.bY h (λm=>m=N) O L N N (λj=>N-1-j) σ.bY s vO vP vC) n ?_ ?_
 .exact⟨0,L,YQ _,rfl,rfl,G,E⟩
 clear G E jL
 rintro I vs h ⟨j,L,hj,rfl,rfl,G,E⟩
 have jL:=G.bY;have U:i<N:=aH
 have dO:(i:Int)<(N:Int):=aH
 have wM:(i:Int)<(Tw D:Int):=aH
 simp only[Z3,seval,-ae,hlen,J,R.one];refine Tr (λan=>?_) λaX=>?_
 .have xi:=(ka _ (ss T)).b1;have gx:(eh D)[i]? = Ik (.int .i64 D[i]):=by rw[zJ,gi T];rfl
  have Li:Tu .i64 ((i:Int)+1)=((i+1:Nat):Int):=WQ
  refine zF (λI vs h'=>∃(k:Nat) (wB:PV) (B:V2),1<=k/\k<=1000/\I=1000-k/\vs=[.int .i64 p,vM,.ptr σ.bY 0,.fz w1 W (Tw D) (eh D),.ptr s 0,.int .i64 (Tw D),wB,.int .i64 i,S,.int .i64 k]/\hK wB B/\Ma p n B/\Tw B=n/\h'=h) 999 ?_ ?_
  .exact⟨1,S,A,sB _,Tx,Tx,rfl,R,hA,Ip,rfl⟩
  rintro I vs h' ⟨k,wB,B,bm,jr,rfl,rfl,hB,Io,Eu,rfl⟩
  simp only[Z3,seval,-ae,T,wM,gx,J,R.one,hB.one];refine Tr (λlP=>?_) λJ3=>?_
  .simp only[Z3,seval,-ae,Li,hB.one,J];exact⟨_,aH,i+1,wB,B,L,aH,rfl,rfl,hB,Io,Eu,G,E⟩
  have wk:Tu .i64 ((k:Int)+1)=((k+1:Nat):Int):=WQ
  simp only[Z3,seval,-ae,hlen];refine zHF hp (A:=B) (B:=A) (n:=n) (by rw[Ip];exact Io) hA aH aH aH hB R λz hz=>?_;have eJ:=hz.one;simp only[Z3,seval,-ae,eJ,wk,J,R.one];exact⟨_,aH,k+1,z,mm p n B A,aH,aH,rfl,rfl,hz,mm_ma aH (by rw[Ip];exact Io) hA,by rw[zBL];exact Eu⟩
 have jh:(Tw D)+j-i-1<N-1-i:=aH
 have fj:((Tw D+j-i-1:Nat):Int)<((N-1-i:Nat):Int):=aH
 have Hg:j<Tw A:=aH
 have Hf:(j:Int)<(Tw A:Int):=aH
 have I8:Tu .i64 ((Tw D:Int)+(j:Int))=(Tw D:Int)+(j:Int):=WE;have wj:Tu .i64 ((Tw D:Int)+(j:Int)-(i:Int))=(Tw D:Int)+(j:Int)-(i:Int):=WE;have sF:Tu .i64 ((Tw D:Int)+(j:Int)-(i:Int)-1)=((Tw D+j-i-1:Nat):Int):=WQ
 obtain⟨sC,eU,u,kJ,rfl,q7,C4,CB,CY,Cy,put⟩:=E.putCx U jh;have FA:¬sC=h.bY:=aH
 have AA:¬u=h.bY:=aH
 obtain⟨wA,aA,rA,rfl,yo⟩:=R;obtain⟨w4,a4,hr⟩:=yo.rowI Hg;have aE:=(hA _ (ss Hg)).len;simp only[Z3,seval,-ae,E.r2,q7,U,dO,I8,wj,sF,Hg,Hf,hr];refine QR (before:=(Tw D)) (behind:=0) ⟨w4,a4,rfl⟩ aH aH aH λbG Z iq cK=>?_;have oV:(Tw Z)=N:=aH
 obtain⟨ds,L',rC,w,a6⟩:=put (xs:=Z) (cp:=bG) oV cK;have r2:(h.cb (eh Z)).gv s 2=Ik (.sl sC 0 N eU):=(E.cb _).r2;have k6:dq h3 ((h.cb (eh Z)).set u ds):=(G.cb _).set aH _;generalize h.cb (eh Z)=g at *
 simp only[Z3,seval,-ae,r2,rC,U,dO,jh,fj,w,I8,wj,sF,wn aX,J];exact⟨_,aH,j+1,L',aH,rfl,rfl,k6,a6⟩
end
section
variable{s:Nat}{L L':Nat->Nat}{Q:Nat->Prop}{len:Nat->Nat}{C1 C2:V3}
def kI.mark{b':Nat}(a:kI L h b k x v)(G:b'<=b)(E:∀t,b<=t->L' t=L t):kI L' h b' k x v:=by
 obtain⟨s,cap,rfl,m,u,A,B,D⟩:=a;exact⟨s,cap,rfl,m,u,aH,B,by rw[E s A];exact D⟩
def gw.mark{b':Nat}(a:gw L h b Q v)(u:b'<=b)(m:∀t,b<=t->L' t=L t):gw L' h b' Q v:=by
 obtain⟨x,q,a⟩:=a;exact⟨x,q,a.mark u m⟩
def gD.mark{b' n:Nat}(a:gD L h b Q k n v)(I:b'<=b)(m:∀t,b<=t->L' t=L t):gD L' h b' Q k n v:=by
 obtain⟨s,cap,cs,rfl,u,A,B,D,E,G,H⟩:=a;exact⟨s,cap,cs,rfl,u,A,B,aH,E,by rw[m s D];exact G,λc J=>(H c J).mark I m⟩
def CX.mark{b' n:Nat}(a:CX L h b Q n len v)(I:b'<=b)(m:∀t,b<=t->L' t=L t):CX L' h b' Q n len v:=by
 obtain⟨s,cap,cs,rfl,u,A,B,D,E,G,H⟩:=a;exact⟨s,cap,cs,rfl,u,A,B,aH,E,by rw[m s D];exact G,λi c J=>(H i c J).mark I m⟩
def PW.mark{b':Nat}(a:PW L b h Q O nP nC len vO vP vC)(u:b'<=b)(m:∀t,b<=t->L' t=L t):PW L' b' h Q O nP nC len vO vP vC:=
 ⟨a.hO.mark u m,a.hP.imp id λa=>a.mark u m,a.hC.imp id λa=>a.mark u m⟩
def TB.startAt{b':Nat}(a:PW L b h Q O nP nC len vO vP vC)(hs:s<b)(m:b'<=s)(B:b<=h.bY)(A:r<b')(u:h.cd r=Ik [Tt,Tt,Tt]):TB b' (h.set s [vO,vP,vC]) Q O (l6 L s 7) nP nC len r s vO vP vC:=
 ⟨by rw[zG,Iv aH];exact u,A,by rw[zG,Iu rfl],(a.set hs _).mark aH λt D=>by unfold l6;rw[Iv aH],qG,⟨m,by show s<h.bY;omega⟩⟩
def zL8(En:eQ vO vP vC O1 P1 C1)(Z:Fm 18 O1 P1 C1)(bH:eQ yO yP yC O2 P2 C2)(h2:Fm 18 O2 P2 C2)
  (hk:∀wO wP wC O P C,eQ wO wP wC O P C->Fm 36 O P C->K (.agg [wO,wP,wC]) σ):zA Tp 55 [.agg [vO,vP,vC],.agg [yO,yP,yC]] σ K:=by
 refine zA.gh ?_;have o1:=En.O.one;have o2:=bH.O.one;have p1:=En.P.one;have p2:=bH.P.one;have c1:=En.C.one;have c2:=bH.C.one;obtain⟨⟨w1,a1,rfl⟩,OF,OW⟩:=En;obtain⟨⟨w2,a2,rfl⟩,OE,OV⟩:=bH;have n1:=Z.n;have n2:=h2.n;refine zt mix Tryz.func55 cf55 rfl ?_;dsimp only[if55,eI,qD,eD,rH,kI0,lI0,LI0,fI0,xI0,bI0,BY,sI0,ta,uY,E2,xD0,I0,vI0,wD0,R0,S0];simp only[Z3,seval,-ae,o1,o2,p1,p2,c1,c2];generalize A7:((σ.cb [PV.fz w1 a1 (Tw O1) (eh O1),vP,vC]).cb [PV.fz w2 a2 (Tw O2) (eh O2),yP,yC]).cb [Tt,Tt,Tt]=H3;have Ig:H3.bY=σ.bY+3:=by rw[<-A7];rfl
 have lC:dq σ H3:=by rw[<-A7];exact((zB _ _).cb _).cb _
 have uR:H3.cd σ.bY=Ik [PV.fz w1 a1 (Tw O1) (eh O1),vP,vC]:=by rw[<-A7];simp only[Z3,seval,-ae]
 have Ft:H3.cd (σ.bY+1)=Ik [PV.fz w2 a2 (Tw O2) (eh O2),yP,yC]:=by rw[<-A7];simp only[Z3,seval,-ae]
 have xF:H3.cd (σ.bY+2)=Ik [Tt,Tt,Tt]:=by rw[<-A7];simp only[Z3,seval,-ae]
 clear A7;generalize hH:H3.cb [Tt,Tt,Tt]=H;have eG:H.bY=σ.bY+4:=by rw[<-hH];show H3.bY+1=_;omega
 have kH:dq H3 H:=by rw[<-hH];exact zB _ _
 have MJ:H.cd (σ.bY+3)=Ik [Tt,Tt,Tt]:=by rw[<-hH,zC,Iu Ig.symm]
 clear hH;refine zl rfl aH λcA iB=>?_;have Jk:(H.cb (eh O1)).gv (σ.bY+1) 0=Ik (.fz w2 a2 (Tw O2) (eh O2)):=by rw[zH (by rw[zC,Iv aH,kH.cd _ aH];exact Ft)];rfl
 have JE:dq H (H.cb (eh O1)):=zB _ _;have uN:ft H.bY 1 (H.cb (eh O1)) (.sl H.bY 0 (Tw O1) cA) (Tw O1) (eh O1):=ft.own iB (by rw[zC,Iu rfl]) (by rw[zK,KE]) (sB _) (YB _);have CH:H.bY<=(H.cb (eh O1)).bY:=Yb _;generalize H.cb (eh O1)=g at *
 simp only[Z3,seval,-ae,Jk];refine ft.cat (σb:=H) (bytes:=8) (m:=(Tw O2)) (news:=eh O2) JE uN (by rw[zK]) aH aH λv3 h3 k3 a3=>?_;rw[qh,<-cO]at a3;obtain⟨O,hO⟩:∃O,O=O1++O2:=⟨_,rfl⟩
 rw[<-hO]at a3;have uw:(Tw O)=Tw O1+Tw O2:=by rw[hO,cO]
 have jF:∀a∈O,1<=a/\a<=1000:=λa h=>by
  rw[hO]at h;rcases YZ.1 h with h|h
  .exact Z.ob a h
  .exact h2.ob a h
 clear hO;obtain⟨so,cW,rfl,q1,q2,q3,q4,q5⟩:=a3;have yD:=k3.bY;refine Tq ?_;refine qw q2 q5 aH λL h W uP V k4 U=>?_;have nV:=k4.bY;have sK:=k3.trans k4;have Jq:h.cd (σ.bY+3)=Ik [Tt,Tt,Tt]:=by rw[sK.cd _ aH];exact MJ
 have B:=TB.startAt (b':=σ.bY+3) (r:=σ.bY+2) (s:=σ.bY+3) U aH (sB _) nV aH (by rw[sK.cd _ aH,kH.cd _ aH];exact xF);have A:dq H3 (h.set (σ.bY+3) [W,uP,V]):=(kH.trans sK).set aH _;have w5:h.wr (σ.bY+3) 0 [W,uP,V]=Ik (h.set (σ.bY+3) [W,uP,V]):=by rw[zL Jq,Iu ⟨bj,by simp[U.hO.one,U.hP.one,U.hC.one]⟩];rfl
 simp only[Z3,seval,-ae,U.hO.one,U.hP.one,U.hC.one,w5];generalize h.set (σ.bY+3) [W,uP,V]=g5 at *
 clear w5 Jq U sK k4 nV uN JE Jk CH k3 q1 q2 q3 q4 q5 yD;generalize hN:(Tw O)=N at *
 obtain⟨Lu,Rj,Mk,rfl,Gm⟩:=OF;obtain⟨Ly,Rn,Mp,rfl,Gq⟩:=OW;obtain⟨Lt,Ri,Mj,rfl,Gl⟩:=OE;obtain⟨Lx,Rm,Mo,rfl,Gn⟩:=OV;have JB:=Z.q.pl;have JA:=h2.q.pl;have JD:=Z.q.cl;have JC:=h2.q.cl;have X1:∀{g:dj},dq H3 g->g.gv σ.bY 1=Ik (.fz Lu Rj (Tw P1) Mk):=λ{g} kg=>by rw[zH (by rw[kg.cd _ aH];exact uR)];rfl
 have X2:∀{g:dj},dq H3 g->g.gv σ.bY 2=Ik (.fz Ly Rn (Tw C1) Mp):=λ{g} kg=>by rw[zH (by rw[kg.cd _ aH];exact uR)];rfl
 have Y1:∀{g:dj},dq H3 g->g.gv (σ.bY+1) 1=Ik (.fz Lt Ri (Tw P2) Mj):=λ{g} kg=>by rw[zH (by rw[kg.cd _ aH];exact Ft)];rfl
 have Y2:∀{g:dj},dq H3 g->g.gv (σ.bY+1) 2=Ik (.fz Lx Rm (Tw C2) Mo):=λ{g} kg=>by rw[zH (by rw[kg.cd _ aH];exact Ft)];rfl
 have E9:∀i (hi:i<Tw C1),C1[i].length=Tw O1-1-i:=λi hi=>by
  have:=Z.q.row i aH
  grind
 have E8:∀i (hi:i<Tw C2),C2[i].length=Tw O2-1-i:=λi hi=>by
  have:=h2.q.row i aH
  grind
 refine zF (λG vs h=>∃(i:Nat) (L:Nat->Nat),i<=Tw O1/\G=Tw O1-i/\vs=[.ptr σ.bY 0,.ptr (σ.bY+1) 0,.ptr (σ.bY+2) 0,.int .i64 (Tw O1),.int .i64 (Tw O2),.ptr (σ.bY+3) 0,.int .i64 i]/\dq H3 h/\TB (σ.bY+3) h (λm=>m=N) O L N N (λj=>N-1-j) (σ.bY+2) (σ.bY+3) W uP V) (Tw O1) ?_ ?_
 .exact⟨0,_,YQ _,rfl,rfl,A,B⟩
 clear B A
 rintro G vs h ⟨i,L,hi,rfl,rfl,A,B⟩
 have jL:=A.bY;refine Tq ?_;refine Tr (λan=>?_) λaf=>?_
 .refine zF (λG vs h=>∃(i:Nat) (L:Nat->Nat),i<=Tw O2/\G=Tw O2-i/\vs=[.ptr (σ.bY+1) 0,.ptr (σ.bY+2) 0,.int .i64 (Tw O1),.int .i64 (Tw O2),.ptr (σ.bY+3) 0,.int .i64 i]/\dq H3 h/\TB (σ.bY+3) h (λm=>m=N) O L N N (λj=>N-1-j) (σ.bY+2) (σ.bY+3) W uP V) (Tw O2) ?_ ?_
  .exact⟨0,_,YQ _,rfl,rfl,A,B⟩
  clear B A
  rintro G vs h ⟨i,L,hi,rfl,rfl,A,B⟩
  have jL:=A.bY;refine Tq ?_;refine Tr (λan=>?_) λaf=>?_
  .obtain⟨e1,e2,e3⟩:=B.fin;simp only[Z3,seval,-ae,B.r3,e1,e2];refine e3.fin ((lC.trans A).set aH _) aH λwO wP wC P C r1 r2=>hk wO wP wC O P C r1 ⟨aH,jF,?_⟩;rw[hN];exact r2
  have E:(Tw O1)+i<N:=aH
  have Y:((Tw O1+i:Nat):Int)<(N:Int):=aH
  have X:i<Tw P2:=aH
  have rj:(i:Int)<(Tw P2:Int):=aH
  have D:i<Tw C2:=aH
  have lN:(i:Int)<(Tw C2:Int):=aH
  have wi:Tu .i64 ((i:Int)+1)=((i+1:Nat):Int):=WQ
  have Bg:Tu .i64 ((Tw O1:Int)+(i:Int))=((Tw O1+i:Nat):Int):=WQ
  obtain⟨I,ck,rfl,xd,qq,put⟩:=B.putPx E;have uU:¬I=h.bY:=aH
  obtain⟨w4,a4,hr⟩:=Gl.rowI X;have dR:P2[i].length=Tw O2:=h2.q.pq _ (ss X);simp only[Z3,seval,-ae,B.r1,Y1 A,Bg,X,rj,hr];refine QR (before:=(Tw O1)) (behind:=0) ⟨w4,a4,rfl⟩ aH aH aH λbG J iq cK=>?_;have oV:(Tw J)=N:=aH
  obtain⟨ds,L',w,R⟩:=put (xs:=J) (cp:=bG) oV cK;have r1:(h.cb (eh J)).gv (σ.bY+3) 1=Ik (.sl I 0 N ck):=(B.cb _).r1;have T:dq H3 ((h.cb (eh J)).set I ds):=(A.cb _).set aH _;generalize h.cb (eh J)=g at *
  simp only[Z3,seval,-ae,r1,E,Y,w,Bg,wi];generalize g.set I ds=g6 at *
  clear w r1 jL qq uU put A B;obtain⟨w7,a7,Mg,B9,yg⟩:=Gn.rowL D;have eE:=E8 i D;refine zF (λG vs h=>∃(j:Nat) (L:Nat->Nat),j<=C2[i].length/\G=C2[i].length-j/\vs=[.ptr (σ.bY+1) 0,.ptr (σ.bY+2) 0,.int .i64 (Tw O1),.int .i64 (Tw O2),.ptr (σ.bY+3) 0,.int .i64 i,.int .i64 j]/\dq H3 h/\TB (σ.bY+3) h (λm=>m=N) O L N N (λj=>N-1-j) (σ.bY+2) (σ.bY+3) W (.sl I 0 N ck) V) C2[i].length ?_ ?_
  .exact⟨0,L',YQ _,rfl,rfl,T,R⟩
  clear T R
  rintro G vs h ⟨j,L,hj,rfl,rfl,A,B⟩
  have jL:=A.bY;simp only[Z3,seval,-ae,Y2 A,D,lN,B9];refine Tr (λlP=>?_) λS=>?_
  .simp only[Z3,seval,-ae,wi];exact⟨_,aH,i+1,L,aH,rfl,rfl,A,B⟩
  have jh:j<N-1-(Tw O1+i):=aH
  have fj:(j:Int)<((N-1-(Tw O1+i):Nat):Int):=aH
  have yN:(j:Int)<(C2[i].length:Int):=aH
  obtain⟨sC,eU,u,kJ,rfl,q7,C4,CB,CY,Cy,put⟩:=B.putCx E jh;have FA:¬sC=h.bY:=aH
  have AA:¬u=h.bY:=aH
  obtain⟨w8,a8,Gs⟩:=yg.rowI S;have Gr:C2[i][j].length=Tw O2:=h2.q.cq _ (ss D) _ (ss S);simp only[Z3,seval,-ae,B.r2,q7,E,Y,Bg,Y2 A,D,lN,B9,S,yN,Gs];refine QR (before:=(Tw O1)) (behind:=0) ⟨w8,a8,rfl⟩ aH aH aH λsE zs dQ zp=>?_;have xZ:(Tw zs)=N:=aH
  obtain⟨om,I6,rC,w,R⟩:=put (xs:=zs) (cp:=sE) xZ zp;have r2:(h.cb (eh zs)).gv (σ.bY+3) 2=Ik (.sl sC 0 N eU):=(B.cb _).r2;have T:dq H3 ((h.cb (eh zs)).set u om):=(A.cb _).set aH _;generalize h.cb (eh zs)=g at *
  simp only[Z3,seval,-ae,r2,rC,E,Y,jh,fj,w,Bg,WX S];exact⟨_,aH,j+1,I6,aH,rfl,rfl,T,R⟩
 have E:i<N:=aH
 have Y:((i:Nat):Int)<(N:Int):=aH
 have X:i<Tw P1:=aH
 have rj:(i:Int)<(Tw P1:Int):=aH
 have D:i<Tw C1:=aH
 have lN:(i:Int)<(Tw C1:Int):=aH
 have wi:Tu .i64 ((i:Int)+1)=((i+1:Nat):Int):=WQ
 have Bg:Tu .i64 ((Tw O1:Int)+(i:Int))=((Tw O1+i:Nat):Int):=WQ
 obtain⟨I,ck,rfl,xd,qq,put⟩:=B.putPx E;have uU:¬I=h.bY:=aH
 obtain⟨w4,a4,hr⟩:=Gm.rowI X;have dR:P1[i].length=Tw O1:=Z.q.pq _ (ss X);simp only[Z3,seval,-ae,B.r1,X1 A,X,rj,hr];refine QR (before:=0) (behind:=(Tw O2)) ⟨w4,a4,rfl⟩ aH aH aH λbG J iq cK=>?_;have oV:(Tw J)=N:=aH
 obtain⟨ds,L',w,R⟩:=put (xs:=J) (cp:=bG) oV cK;have r1:(h.cb (eh J)).gv (σ.bY+3) 1=Ik (.sl I 0 N ck):=(B.cb _).r1;have T:dq H3 ((h.cb (eh J)).set I ds):=(A.cb _).set aH _;generalize h.cb (eh J)=g at *
 simp only[Z3,seval,-ae,r1,E,Y,w,wi];generalize g.set I ds=g6 at *
 clear w r1 jL qq uU put A B;obtain⟨w7,a7,Mg,B9,yg⟩:=Gq.rowL D;have eE:=E9 i D;refine zF (λG vs h=>∃(j:Nat) (L:Nat->Nat),j<=C1[i].length/\G=C1[i].length-j/\vs=[.ptr σ.bY 0,.ptr (σ.bY+1) 0,.ptr (σ.bY+2) 0,.int .i64 (Tw O1),.int .i64 (Tw O2),.ptr (σ.bY+3) 0,.int .i64 i,.int .i64 j]/\dq H3 h/\TB (σ.bY+3) h (λm=>m=N) O L N N (λj=>N-1-j) (σ.bY+2) (σ.bY+3) W (.sl I 0 N ck) V) C1[i].length ?_ ?_
 .exact⟨0,L',YQ _,rfl,rfl,T,R⟩
 clear T R
 rintro G vs h ⟨j,L,hj,rfl,rfl,A,B⟩
 have jL:=A.bY;simp only[Z3,seval,-ae,X2 A,D,lN,B9];refine Tr (λlP=>?_) λS=>?_
 .simp only[Z3,seval,-ae,wi];exact⟨_,aH,i+1,L,aH,rfl,rfl,A,B⟩
 have jh:j<N-1-(i):=aH
 have fj:(j:Int)<((N-1-(i):Nat):Int):=aH
 have yN:(j:Int)<(C1[i].length:Int):=aH
 obtain⟨sC,eU,u,kJ,rfl,q7,C4,CB,CY,Cy,put⟩:=B.putCx E jh;have FA:¬sC=h.bY:=aH
 have AA:¬u=h.bY:=aH
 obtain⟨w8,a8,Gs⟩:=yg.rowI S;have Gr:C1[i][j].length=Tw O1:=Z.q.cq _ (ss D) _ (ss S);simp only[Z3,seval,-ae,B.r2,q7,E,Y,X2 A,D,lN,B9,S,yN,Gs];refine QR (before:=0) (behind:=(Tw O2)) ⟨w8,a8,rfl⟩ aH aH aH λsE zs dQ zp=>?_;have xZ:(Tw zs)=N:=aH
 obtain⟨om,I6,rC,w,R⟩:=put (xs:=zs) (cp:=sE) xZ zp;have r2:(h.cb (eh zs)).gv (σ.bY+3) 2=Ik (.sl sC 0 N eU):=(B.cb _).r2;have T:dq H3 ((h.cb (eh zs)).set u om):=(A.cb _).set aH _;generalize h.cb (eh zs)=g at *
 simp only[Z3,seval,-ae,r2,rC,E,Y,jh,fj,w,WX S];exact⟨_,aH,j+1,I6,aH,rfl,rfl,T,R⟩
end
section
variable{s:List UInt8}
def Zx{z:Int}(u:0<=z)(A:z<256):IntKind.u8.wrap z=z:=by
 unfold IntKind.wrap;have e:z % (2 ^ IntKind.u8.bits:Int)=z:=by
  have:(2 ^ IntKind.u8.bits:Int)=256:=by decide
  rw[this];omega
 have m:IntKind.u8.signed=false:=rfl;simp only[e,m,Bool.false_and,JM,if_false]
def zMF(hs:(Tw s)<=1000)(I:∀y,-1<=y/\y<=1000000->K (.int .i64 y) σ):zA Tp 171 [.str s] σ K:=by
 have bad:=I (-1) Tx;refine Tn Tryz.func171 ?_;by_cases Y:(Tw s)=0
 .have u:((Tw s:Nat):Int)=0:=aH
  simp only[Z3,seval,-ae,u];exact bad
 have u:¬((Tw s:Nat):Int)=0:=aH
 by_cases h6:6<Tw s
 .have A:(6:Int)<((Tw s:Nat):Int):=aH
  simp only[Z3,seval,-ae,u,A];exact bad
 have A:¬(6:Int)<((Tw s:Nat):Int):=aH
 have J:0<Tw s:=aH
 by_cases Z:1<Tw s/\s[0].toNat=48
 .have B:(1:Int)<((Tw s:Nat):Int):=aH
  have E:((s[0].toNat:Nat):Int)=48:=aH
  simp only[Z3,seval,-ae,u,A,B,OD,na J,E];exact bad
 by_cases h3:1<Tw s
 case' pos=>
  have B:(1:Int)<((Tw s:Nat):Int):=aH
  have E:¬((s[0].toNat:Nat):Int)=48:=aH
  simp only[Z3,seval,-ae,u,A,B,OD,na J,E]
 case' neg=>
  have B:¬(1:Int)<((Tw s:Nat):Int):=aH
  simp only[Z3,seval,-ae,u,A,B]
 all_goals
  refine zF (λm vs h=>∃(i:Nat) (y:Int),i<=Tw s/\m=Tw s-i/\vs=[.str s,.int .i64 y,.int .i64 i]/\0<=y/\y<10 ^ i/\h=σ) (Tw s) ?_ ?_
  .exact⟨0,0,YQ _,rfl,rfl,Tx,Tx,rfl⟩
  rintro m vs h ⟨i,y,hi,rfl,rfl,y0,y1,rfl⟩
  have N:∀k:Nat,k<=6->(10:Int) ^ k<=1000000:=λk X=>by
   have:k=0\/k=1\/k=2\/k=3\/k=4\/k=5\/k=6:=aH
   rcases this with rfl|rfl|rfl|rfl|rfl|rfl|rfl<;>decide
  have T:=N i aH;refine Tq ?_;refine Tr (λU=>?_) λH=>?_
  .exact I y aH
  have gs:s[i]? = Ik s[i]:=na H;by_cases V:s[i].toNat<48
  .have D:((s[i].toNat:Nat):Int)<48:=aH
   simp only[Z3,seval,-ae,KH,gs,D];exact bad
  have D:¬((s[i].toNat:Nat):Int)<48:=aH
  by_cases W:57<s[i].toNat
  .have G:(57:Int)<((s[i].toNat:Nat):Int):=aH
   simp only[Z3,seval,-ae,KH,gs,D,G];exact bad
  have G:¬(57:Int)<((s[i].toNat:Nat):Int):=aH
  have w1:IntKind.u8.wrap ((s[i].toNat:Int)-48)=(s[i].toNat:Int)-48:=by
   exact Zx aH aH
  have w2:Tu .i64 ((s[i].toNat:Int)-48)=(s[i].toNat:Int)-48:=WE;have R:Tu .i64 (10*y)=10*y:=WE;have S:Tu .i64 (10*y+((s[i].toNat:Int)-48))=10*y+((s[i].toNat:Int)-48):=WE;simp only[Z3,seval,-ae,KH,gs,D,G,w1,w2,R,S,WX H];exact⟨_,aH,i+1,_,aH,rfl,rfl,aH,by rw[S1];omega⟩
def Strs(n:Nat)(cells:List PV):Prop:=∀c∈cells,∃q:List UInt8,c=.str q/\Tw q<=n
def Strs.bels{n:Nat}{cells:List PV}(a:Strs n cells)(b:Nat):ko b cells:=Zl.2 λc m=>by obtain⟨q,rfl,_⟩:=a c m;trivial
def Strs.snoc{n:Nat}{cells:List PV}(a:Strs n cells){q:List UInt8}(m:(Tw q)<=n):Strs n (cells++[.str q]):=λc hc=>by
 rcases YZ.1 hc with hc|hc
 .exact a c hc
 .exact⟨q,YW.1 hc,m⟩
def zBa{c:Int}(hs:(Tw s)<=1000)(Y:∀a n cells,1<=n->n<=Tw s+1->(Tw cells)=n->Strs (Tw s) cells->K (.fz Im a n cells) σ):zA Tp 130 [.str s,.int .u8 c] σ K:=by
 refine To Tryz.func130 ?_;refine Tq ?_;refine zF (λm vs h=>∃(i u:Nat) (v:PV) (cells:List PV),i<=Tw s/\u<=i/\m=Tw s-i/\vs=[.str s,.int .u8 c,v,.int .i64 u,.int .i64 i]/\Tw cells<=i/\Strs (Tw s) cells/\dq σ h/\ft σ.bY 1 h v (Tw cells) cells) (Tw s) ?_ ?_
 .exact⟨0,0,_,[],YQ _,sB _,rfl,rfl,YQ _,λc W=>(by cases W),zB _ _,ft.cb _ 1 rfl (sB _)⟩
 rintro m vs h ⟨i,u,v,cells,X,U,rfl,rfl,dD,E,I,D⟩
 have B:=D.one;simp only[Z3,seval,-ae,B];refine fi (λS=>?_) λan=>?_
 .have gs:s[i]? = Ik s[i]:=na S;have R:Tu .i64 ((i:Int)+1)=((i+1:Nat):Int):=WQ
  simp only[Z3,seval,-ae,gs,B];by_cases J:((s[i].toNat:Nat):Int)=c
  .have b1:((i:Int)<=(Tw s:Int))=True:=by simp;omega
   have T:((u:Int)<=(i:Int))=True:=by simp;omega
   simp only[Z3,seval,-ae,J,b1,T,B,X,U];refine ft.push (σb:=σ) (bytes:=16) I D aH aH λN V H A=>?_;have G:=A.one;simp only[Z3,seval,-ae,R,G];have Z:(cells++[PV.str (Kf u (O0 i s))]).length=Tw cells+1:=bj
   exact⟨_,aH,i+1,i+1,N,cells++[.str (Kf u (O0 i s))],aH,sB _,rfl,rfl,aH,E.snoc (by rw[Ys,Ym];omega),H,by rw[Z];exact A⟩
  .simp only[Z3,seval,-ae,J,R,B];exact⟨_,aH,i+1,u,v,cells,aH,aH,rfl,rfl,aH,E,I,D⟩
 have b1:u<=Tw s:=aH
 simp only[Z3,seval,-ae,B,b1,YP];refine ft.push (σb:=σ) (bytes:=16) I D aH aH λN V H A=>?_;have G:=A.one;simp only[Z3,seval,-ae,G];refine A.fin H ((E.snoc ?_).bels 0) λo cap=>Y _ _ _ aH aH bj (E.snoc ?_)
 all_goals simp
end
section
variable{s:List UInt8}
def zAC{g:dj}{z:Int}:Z5 (g.cb [.int .u8 z]) (.sl g.bY 0 1 (.cm 1))=Ik [UInt8.ofNat z.toNat]:=by
 simp only[Z3,seval,-ae,Z5];rw[qO];refine Tq ?_;rfl
def zIb{n:Int}(k:Nat)(A:0<=n/\n<=1000000/\n<10 ^ (k+1))(R:k<=100)(u:∀q:List UInt8,(Tw q)<=k+1->K (.str q) σ):zA Tp 48 [.int .i64 n] σ K:=by
 induction k generalizing n σ K with
 |zero=>
  have m:n<10:=by have:=A.2.2;simpa using this
  have w1:Tu .i64 (48+n)=48+n:=WE;have w2:IntKind.u8.wrap (48+n)=48+n:=Zx aH aH;refine zA.gh ?_;refine zt mix Tryz.func48 cf48 rfl ?_;dsimp only[if48,qI,eI,qD,eD,rH,BY,ta,I0,R0,S0];simp only[Z3,seval,-ae,m,w1,w2,qz,zAC];exact Gh.fin0 (zB _ _) trivial (u _ (sB _))
 |succ k ih=>
  by_cases m:n<10
  .have w1:Tu .i64 (48+n)=48+n:=WE;have w2:IntKind.u8.wrap (48+n)=48+n:=Zx aH aH;refine zA.gh ?_;refine zt mix Tryz.func48 cf48 rfl ?_;dsimp only[if48,qI,eI,qD,eD,rH,BY,ta,I0,R0,S0];simp only[Z3,seval,-ae,m,w1,w2,qz,zAC];exact Gh.fin0 (zB _ _) trivial (u _ (Nat.succ_le_succ (YQ _)))
  have N:0<=n.tdiv 10:=Tg A.1 Tx;have B:n.tdiv 10<=1000000/\n.tdiv 10<10 ^ (k+1):=by
   grind
  have r0:0<=n.tmod 10/\n.tmod 10<10:=⟨Th _ A.1,Sn _ Tx⟩
  have D:Tu .i64 (n.tdiv 10)=n.tdiv 10:=WE;have E:Tu .i64 (n.tmod 10)=n.tmod 10:=WE;have w1:Tu .i64 (48+n.tmod 10)=48+n.tmod 10:=WE;have w2:IntKind.u8.wrap (48+n.tmod 10)=48+n.tmod 10:=Zx aH aH;have G:∀{g:dj} {K':PV->dj->Prop},(∀q:List UInt8,(Tw q)<=k+1->K' (.str q) g)->zA Tp 48 [.int .i64 (n.tdiv 10)] g K':=λH=>ih ⟨N,B.1,B.2⟩ aH H;refine zA.gh ?_;refine zt mix Tryz.func48 cf48 rfl ?_;dsimp only[if48,qI,eI,qD,eD,rH,BY,ta,I0,R0,S0];simp only[Z3,seval,-ae,m,D,w1,w2,E,qz,zAC,Qc,uk,uE,qY,qX];refine⟨?_,?_,?_⟩
  all_goals
   refine G λq J=>?_;have I:(Tw q)+1<=9223372036854775807:=aH
   simp only[Z3,seval,-ae,m,D,w1,w2,E,qz,zAC,Qc,uk,uE,qY,qX,I];exact Gh.fin0 (zB _ _) trivial (u _ (by rw[cO];exact Nat.succ_le_succ J))
def Byts(cells:List PV):Prop:=∀c∈cells,∃z:Int,c=.int .u8 z
def Byts.bytes:∀{cells:List PV},Byts cells->∃q:List UInt8,Qm cells=Ik q/\Tw q=(Tw cells)
 |[],_=>⟨[],rfl,rfl⟩
 |c::cells,a=>by
  obtain⟨z,rfl⟩:=a c (Yp ..);obtain⟨q,m,u⟩:=Byts.bytes (cells:=cells) λc A=>a c (Yc _ A);exact⟨UInt8.ofNat z.toNat::q,by simp only[Qm,m,Kc],by simp[u]⟩
def Byts.snoc{cells:List PV}(a:Byts cells){z:Int}:Byts (cells++[.int .u8 z]):=λc hc=>by
 rcases YZ.1 hc with hc|hc
 .exact a c hc
 .exact⟨z,YW.1 hc⟩
def ft.bytes{cells:List PV}(a:ft b 1 h v (Tw cells) cells)(D:Byts cells):∃q:List UInt8,Z5 h v=Ik q/\Tw q=(Tw cells):=by
 obtain⟨s,cap,rfl,E,B,G,H,I⟩:=a;obtain⟨q,u,A⟩:=D.bytes;refine⟨q,?_,A⟩;unfold Z5;rw[zBr];simp only[YG];rw[qO];by_cases m:(Tw cells)=0
 .have:cells=[]:=List.length_eq_zero_iff.1 m
  subst this;rw[Iu m];exact u
 .rw[Iv m,Iu (sB _),KE,zN B,Iu aH,J0,YP];exact u
def zGn{w:Bool}{H:AV}(hn:(Tw x)<=1000)(J:∀q:List UInt8,(Tw q)<=Tw x+1->K (.str q) σ):zA Tp 99 [.fz w H (Tw x) (eh x)] σ K:=by
 refine To Tryz.func99 ?_;by_cases h0:(Tw x)=0
 .have B:((Tw x:Nat):Int)=0:=aH
  simp only[Z3,seval,-ae,B];exact Gh.fin0 (dq.refl _) trivial (J _ bj)
 have B:¬((Tw x:Nat):Int)=0:=aH
 simp only[Z3,seval,-ae,B];refine zF (λm vs h=>∃(i:Nat) (v:PV) (cells:List PV),i<=Tw x/\m=Tw x-i/\vs=[.fz w H (Tw x) (eh x),v,.int .i64 i]/\Tw cells=i/\Byts cells/\dq σ h/\ft σ.bY 1 h v (Tw cells) cells) (Tw x) ?_ ?_
 .exact⟨0,_,[],YQ _,rfl,rfl,rfl,λc U=>(by cases U),zB _ _,ft.cb _ 1 rfl (sB _)⟩
 rintro m vs h ⟨i,v,cells,hi,rfl,rfl,R,E,N,D⟩
 have A:=D.one;simp only[Z3,seval,-ae,A];refine fi (λu=>?_) λY=>?_
 .have ah:(i:Int)<(Tw x:Int):=aH
  have I:(eh x)[i]? = Ik (.int .i64 x[i]):=by rw[zJ,gi u];rfl
  simp only[Z3,seval,-ae,A,u,ah,I];refine fi (λV=>?_) λV=>?_
  all_goals
   simp only[Z3,seval,-ae,A,u,ah,I];refine ft.push (σb:=σ) (bytes:=1) N D aH aH λX h2 W G=>?_;have T:=G.one;simp only[Z3,seval,-ae,T,WX u];exact⟨_,aH,i+1,X,_,aH,rfl,rfl,by rw[cO,R];rfl,E.snoc,W,by rw[cO];exact G⟩
 obtain⟨q,S,Z⟩:=ft.bytes D E;simp only[Z3,seval,-ae,A,qz,S];exact Gh.fin0 N trivial (J _ aH)
def zNu{cap:nK}(U:σ.cd s0=Ik (eh x))(hs:s0<σ.bY)(hn:(Tw x)<=1000)(J:∀q:List UInt8,(Tw q)<=Tw x+1->K (.str q) σ):zA Tp 99 [.sl s0 0 (Tw x) cap] σ K:=by
 refine To Tryz.func99 ?_;by_cases h0:(Tw x)=0
 .have B:((Tw x:Nat):Int)=0:=aH
  simp only[Z3,seval,-ae,B];exact Gh.fin0 (dq.refl _) trivial (J _ bj)
 have B:¬((Tw x:Nat):Int)=0:=aH
 simp only[Z3,seval,-ae,B];refine zF (λm vs h=>∃(i:Nat) (v:PV) (cells:List PV),i<=Tw x/\m=Tw x-i/\vs=[.sl s0 0 (Tw x) cap,v,.int .i64 i]/\Tw cells=i/\Byts cells/\dq σ h/\ft σ.bY 1 h v (Tw cells) cells) (Tw x) ?_ ?_
 .exact⟨0,_,[],YQ _,rfl,rfl,rfl,λc T=>(by cases T),zB _ _,ft.cb _ 1 rfl (sB _)⟩
 rintro m vs h ⟨i,v,cells,hi,rfl,rfl,N,G,D,E⟩
 have A:=E.one;simp only[Z3,seval,-ae,A];refine fi (λu=>?_) λY=>?_
 .have ah:(i:Int)<(Tw x:Int):=aH
  have I:h.gv s0 i=Ik (.int .i64 x[i]):=by rw[zH (by rw[D.cd _ hs];exact U),zJ,gi u];rfl
  simp only[Z3,seval,-ae,A,u,ah,I];refine fi (λV=>?_) λV=>?_
  all_goals
   simp only[Z3,seval,-ae,A,u,ah,I];refine ft.push (σb:=σ) (bytes:=1) D E aH aH λX h2 W H=>?_;have S:=H.one;simp only[Z3,seval,-ae,S,WX u];exact⟨_,aH,i+1,X,_,aH,rfl,rfl,by rw[cO,N];rfl,G.snoc,W,by rw[cO];exact H⟩
 obtain⟨q,R,Z⟩:=ft.bytes E G;simp only[Z3,seval,-ae,A,qz,R];exact Gh.fin0 D trivial (J _ aH)
def zBY{i:Int}(A:-1000<=i/\i<=1000)(m:∀q:List UInt8,(Tw q)<=2->K (.str q) σ):zA Tp 98 [.int .i64 i] σ K:=by
 refine To Tryz.func98 ?_;refine Tq ?_;refine zNu (x:=[Tu .i64 (i+1)]) (by rw[zC,Iu rfl];rfl) (YB _) bj λq u=>?_;refine Tq ?_;exact Gh.fin0 (zB _ _) trivial (m q u)
end
end Go.Proofs
