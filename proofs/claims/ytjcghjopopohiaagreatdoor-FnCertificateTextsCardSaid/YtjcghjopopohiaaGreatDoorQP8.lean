/- . -/
import Derived.Test.YtjcghjopopohiaaGreatDoorQP7
set_option linter.all false
set_option linter.defProp false
open Go.IntKind renaming wrap->Tu
open List renaming length->Tw
open Go.Proofs.Tryz renaming prog->Tp
open Bool renaming true->Im
open Int renaming mul_le_mul->Oq,pow_succ->S1,toNat_natCast->KH
open List renaming any_eq_true->Nz,drop->Kf,ext_getElem?->Kr,filter_append->P0,getElem?_range->O6,getElem?_replicate->RR,mem_append_left->Ni,mem_append_right->Nj,mem_filter->ND,mem_of_mem_drop->Jx,mem_or_eq_of_mem_set->O3,nodup_cons->Q1,pairwise_append->Oa,pairwise_cons->Sp,pairwise_map->N0,range->Iw,range_succ->Om,replicate->Jf,replicate_succ'->Oj,take->O0
open Nat renaming mod_eq_of_lt->L0,mul_le_mul_right->M0,mul_one->KE,not_lt_zero->Jv,pow_le_pow_right->O9
open Option renaming some->Ik
open True renaming intro->Is
open Int renaming reduceNatCast'->ae
set_option maxRecDepth 100000
namespace Go.Proofs
open Go.Ab Go.Lie Go.Grp
variable{cs rb:List PV}{N i j k n r s0 t:Nat}{h h' h2 σ:dj}{c iE iM iO uC uO uP v v' v2 vB vC vD vF vI vL vO vP vR vS vU vW vZ va vx vy:PV}{K:PV->dj->Prop}{O O' O2 a b bs x xs y z:V1}{A B D I L M P P' P2 R Z u w:V2}{C C':V3}
section
variable{w:V1}
def fB.finB{σb:dj}{e n:Nat}{cs:List PV}(J:σ.bY<=σb.bY)(m:dq σ h)(a:fB σb.bY e h v n cs)(G:ko 0 cs)(k:∀a,K (.fz Im a n cs) σ):Gh σ K v h:=by
 rcases a with ⟨rfl,rfl,rfl⟩|⟨s,cap,rfl,E,H,Q,S,T⟩
 .exact Gh.fin0 m trivial (k _)
 .exact Gh.finF m H aH G E.ok λo=>k _
def zIB(s:kC O P C){c:V1}{i:Nat}(m:TT O i c)(J:i<=Tw O):(Tw c)<=6/\(∀a∈c,0<=a/\a<=7)/\(Mx.nw c).length<=42/\∀l∈Mx.nw c,-1000<=l/\l<=1000:=by
 have T:=s.le;have S:=m.len;have G:=zCv m J;refine⟨aH,λa H=>?_,by have:=zGc s m;rw[zCJ S,Yj];exact this,λl E=>by have:=G l E;omega⟩;obtain⟨j,Q,rfl⟩:=YE.1 H;have b:=m.bd j aH;rw[gj Q]at b;have o:=s.pr j aH;omega
set_option maxHeartbeats 1600000 in
def zGK(hp:zI O P C)(hR:eQ vO vP vC O P C)(hk:∀v R,hK v R->((∀r∈R,Hj O P C r)/\∀r,Hj O P C r->r∈R)->(Tw R)<=100->K v σ):zA Tp 174 [.agg [vO,vP,vC]] σ K:=by
 have s:=hp.shp;have h6:=s.le;have g1:=hR.O.one;have g2:=hR.P.one;have g3:=hR.C.one;obtain⟨⟨X,U,rfl⟩,⟨w1,Y,rP,rfl,hP⟩,⟨w3,Q,rC,rfl,hC⟩⟩:=hR;refine zA.pwf λwf=>zA.gh ?_;have ob:(σ.cb [.fz X U (Tw O) (eh O),.fz w1 Y (Tw P) rP,.fz w3 Q (Tw C) rC]).cd σ.bY=Ik [.fz X U (Tw O) (eh O),.fz w1 Y (Tw P) rP,.fz w3 Q (Tw C) rC]:=by rw[zC,Iu rfl]
 have hwf:PWF (σ.cb [PV.fz X U (Tw O) (eh O),.fz w1 Y (Tw P) rP,.fz w3 Q (Tw C) rC]):=PWF.newF wf ⟨Is,Is,Is,Is⟩;have k1:=zB σ [PV.fz X U (Tw O) (eh O),.fz w1 Y (Tw P) rP,.fz w3 Q (Tw C) rC];have dW:(σ.cb [PV.fz X U (Tw O) (eh O),.fz w1 Y (Tw P) rP,.fz w3 Q (Tw C) rC]).bY=σ.bY+1:=rfl;refine Tn Tryz.func174 ?_;simp only[Z3,seval,-ae,g1,g2,g3];generalize σ.cb [PV.fz X U (Tw O) (eh O),.fz w1 Y (Tw P) rP,.fz w3 Q (Tw C) rC]=H at *
 have P3:H.gv σ.bY 0=Ik (.fz X U (Tw O) (eh O)):=by rw[zH ob];rfl
 have Gb:¬σ.bY=H.bY:=aH
 simp only[Z3,seval,-ae,P3,Gb];rw[<-dW];refine qF (λm W h'=>∃(i:Nat) (vL:PV) (R:V2) (rows:List PV),i<=Tw O/\m=Tw O-i/\W=[.ptr σ.bY 0,vL,.int .i64 (Tw O),.int .i64 i]/\dq H h'/\fB H.bY 1 h' vL (Tw R) rows/\ez FI rows R/\Tw R=i/\Av O P C R i 0 0) (Tw O) ?_ ?_
 .exact .here ⟨0,_,[],[],aH,aH,rfl,zB H _,ft.acc (ft.cb _ 1 rfl (sB _)),ez.nil _,rfl,λr hr=>(by cases hr),λj hj=>aH,λj q hj=>aH⟩
 rintro m W h' ⟨i,vL,R,rows,hi,rfl,rfl,E,G,S,A4,J⟩
 have bZ:=E.bY;have s9:h'.cd σ.bY=Ik [.fz X U (Tw O) (eh O),.fz w1 Y (Tw P) rP,.fz w3 Q (Tw C) rC]:=by rw[E.cd _ aH];exact ob
 have one:=G.one;simp only[Z3,seval,-ae,one];refine fi (λT=>?_) λan=>?_
 .have bO:=s.pr i T;rw[gj T]at bO;have Sl:((nx O i:Nat):Int)=O[i]:=by unfold nx;rw[gj T];omega
  have dC:i<Tw P:=by rw[s.pl];exact T
  obtain⟨w5,a5,dH⟩:=hP.rowI dC;have fh:=s.pw i T;have gP:P.getD i []=P[i]:=zBO dC;rw[show jt P i=P[i] from gP]at fh;have mX:GA O P i=Jf (nx O i) ((i:Int)+1)++Ad (Mx.nw P[i]):=by unfold GA;rw[show jt P i=P[i] from gP]
  obtain⟨f1,f2,f3,f4⟩:=zIB s fh aH;have ew:Tu .i64 ((i:Int)+1)=(i:Int)+1:=WE;have yx:Av O P C (R++[GA O P i]) (i+1) 0 0:=by
   refine⟨λr hr=>?_,λj hj=>?_,λj q hj=>aH⟩
   .rcases YZ.1 hr with h|h
    .exact J.1 r h
    .rw[YW.1 h];exact .inl ⟨i,T,rfl⟩
   .rcases YY j i with h|h
    .exact YZ.2 (.inl (J.2.1 j h))
    grind
  have gO:(eh O)[i]? = Ik (.int .i64 O[i]):=by rw[zJ,gi T];rfl
  have ah:(i:Int)<(Tw O:Int):=aH
  refine zF (λm W h2=>∃(j:Nat) (v:PV),(j:Int)<=O[i]/\m=8-j/\W=[.ptr σ.bY 0,vL,.int .i64 (Tw O),.int .i64 i,v,.int .i64 j]/\dq h' h2/\ft h'.bY 1 h2 v j (eh (Jf j ((i:Int)+1)))) 8 ?_ ?_
  .exact⟨0,_,aH,rfl,rfl,zB h' _,ft.cb _ 1 rfl (sB _)⟩
  rintro m W h2 ⟨j,v,hj,rfl,rfl,jr,pa⟩
  have Cp:h2.cd σ.bY=Ik [.fz X U (Tw O) (eh O),.fz w1 Y (Tw P) rP,.fz w3 Q (Tw C) rC]:=by rw[jr.cd _ aH];exact s9
  have e0:h2.gv σ.bY 0=Ik (.fz X U (Tw O) (eh O)):=by rw[zH Cp];rfl
  have e1:h2.gv σ.bY 1=Ik (.fz w1 Y (Tw P) rP):=by rw[zH Cp];rfl
  have oF:=pa.one;simp only[Z3,seval,-ae,one,oF,e0,e1,T,ah,gO];refine fi (λjO=>?_) λan=>?_
  .have wj:Tu .i64 ((j:Int)+1)=((j+1:Nat):Int):=WQ
   simp only[Z3,seval,-ae,one,oF,ew];refine ft.push (σb:=h') (bytes:=8) jr pa aH aH λv2 h3 k3 Q=>?_;have O8:=Q.one;simp only[Z3,seval,-ae,one,O8,wj];exact⟨_,aH,j+1,v2,aH,rfl,rfl,k3,by rw[Oj,show eh (Jf j ((i:Int)+1)++[(i:Int)+1])=eh (Jf j ((i:Int)+1))++[.int .i64 ((i:Int)+1)] by simp[eh]];exact Q⟩
  have ks:j=nx O i:=aH
  subst ks;simp only[Z3,seval,-ae,one,oF,e1,dC,dH];refine zFa ⟨w5,a5,rfl⟩ f1 f2 λv2 dx=>?_;simp only[Z3,seval,-ae,one,oF,dx.one];refine zDA dx aH f4 λv3 jl=>?_;have mi:=zAn (w:=Mx.nw P[i]);obtain⟨w6,a6,rfl⟩:=jl;have Sa:nx O i<=7:=aH
  simp only[Z3,seval,-ae,one,oF];refine ft.cat (bytes:=8) (σb:=h') jr pa (by rw[zK]) aH aH λv4 h4 k4 a4=>?_;obtain⟨V,bG,rfl,cK,q2,q3,q4,q5⟩:=a4;rw[qh,<-mX]at q2;have y9:(GA O P i).length=nx O i+(Ad (Mx.nw P[i])).length:=by rw[mX,cO,YT]
  have k5:=E.trans k4;have I4:=G.c7 k4;simp only[Z3,seval,-ae,one];refine fB.pushS (σb:=H) (bytes:=24) (news:=[.sl V 0 (nx O i+(Ad (Mx.nw P[i])).length) bG]) k5 I4 rfl aH aH λv' h2 k6 DD o2 n2 l2=>?_;have oE:=DD.one;simp only[Z3,seval,-ae,oE,WX T];have og:h2.cd V=Ik (eh (GA O P i)):=by rw[o2 _ q5 (G.ne q4)];exact q2
  refine⟨(Tw O)-(i+1),aH,.fzh V _ og (zO _ _) λo3=>?_⟩;obtain⟨f1,f2,f3⟩:=ft.fzr hwf k6 DD (s:=V) (cs:=eh (GA O P i)) aH (n2 _ q5) o3;rw[zBo (S.bI 0) cK.ok]at f2;refine .here ⟨i+1,v',R++[GA O P i],_,aH,rfl,?_,f1,by rw[cO];exact f2.acc,S.snoc ⟨Im,.sl o3 0 (nx O i+(Ad (Mx.nw P[i])).length) bG,by rw[y9]⟩,by simp[A4],yx⟩;show nD V o3 (eh (GA O P i)) [PV.ptr σ.bY 0,v',.int .i64 (Tw O),.int .i64 ((i+1:Nat):Int)]=_;simp only[nD,sb,f3]
 obtain rfl:i=Tw O:=aH
 simp only[Z3,seval,-ae,one];refine zF (λm W h'=>∃(i:Nat) (vL:PV) (R:V2) (rows:List PV),i<=Tw O/\m=Tw O-i/\W=[.ptr σ.bY 0,vL,.int .i64 (Tw O),.int .i64 i]/\dq H h'/\fB H.bY 1 h' vL (Tw R) rows/\ez FI rows R/\Tw R<=6+6*i/\Av O P C R (Tw O) i 0) (Tw O) ?_ ?_
 .exact⟨0,vL,R,rows,aH,aH,rfl,E,G,S,aH,J⟩
 clear G S J E s9 bZ A4 an hi one
 rintro m W h' ⟨i,vL,R,rows,hi,rfl,rfl,E,G,S,A4,J⟩
 have bZ:=E.bY;have one:=G.one;simp only[Z3,seval,-ae,one];refine Tr (λan=>?_) λT=>?_
 .exact fB.finB (σb:=H) aH (k1.trans E) G (S.bI 0) λa=>hk _ R ⟨Im,a,rows,rfl,S⟩ ⟨J.1,Av.all ((show i=(Tw O) by omega) ▸ J)⟩ aH
 have dI:i<Tw C:=by rw[s.cl];exact T
 obtain⟨w5,a5,rs,cn,gI⟩:=cvRow s hC T;have eV:Tu .i64 ((i:Int)+1)=((i+1:Nat):Int):=WQ
 simp only[Z3,seval,-ae,one,eV];refine qF (λm W h'=>∃(k:Nat) (vL:PV) (R:V2) (rows:List PV),k<=Tw O-1-i/\m=Tw O-1-i-k/\W=[.ptr σ.bY 0,vL,.int .i64 (Tw O),.int .i64 i,.int .i64 ((i+(1+k):Nat):Int)]/\dq H h'/\fB H.bY 1 h' vL (Tw R) rows/\ez FI rows R/\Tw R<=6+6*i+k/\Av O P C R (Tw O) i k) (Tw O-1-i) ?_ ?_
 .exact .here ⟨0,vL,R,rows,aH,aH,rfl,E,G,S,aH,J⟩
 clear G S J E bZ A4 one
 rintro m W h' ⟨k,vL,R,rows,cB,rfl,rfl,E,G,S,A4,J⟩
 have one:=G.one;have bZ:=E.bY;have s9:h'.cd σ.bY=Ik [.fz X U (Tw O) (eh O),.fz w1 Y (Tw P) rP,.fz w3 Q (Tw C) rC]:=by rw[E.cd _ aH];exact ob
 simp only[Z3,seval,-ae,one];refine Tr (λN5=>?_) λJ3=>?_
 .obtain rfl:k=Tw O-1-i:=aH
  simp only[Z3,seval,-ae,one,eV];exact⟨_,aH,i+1,vL,R,rows,aH,rfl,rfl,E,G,S,aH,J.bY⟩
 have CA:k<Tw O-1-i:=aH
 obtain⟨w7,a7,jf⟩:=gI k CA;have dn:=s.cj i (i+(1+k)) aH aH;have CU:Ho C i k=[-((i:Int)+1),((i+k:Nat):Int)+2,(i:Int)+1]++Ad (Mx.nw (iD C i (i+(1+k)))):=rfl;generalize hc:iD C i (i+(1+k))=c at *
 obtain⟨f1,f2,f3,f4⟩:=zIB s dn aH;have dD:=dn.len;have yx:Av O P C (R++[Ho C i k]) (Tw O) i (k+1):=by
  refine⟨λr hr=>?_,λj hj=>YZ.2 (.inl (J.2.1 j hj)),λj q hj hq=>?_⟩
  .rcases YZ.1 hr with h|h
   .exact J.1 r h
   .rw[YW.1 h];exact .inr ⟨i,k,aH,rfl⟩
  .by_cases e:j=i/\q=k
   .simp_all
   .exact YZ.2 (.inl (J.2.2 j q aH hq))
 have PE:Tu .i64 (0-(i:Int))=-(i:Int):=WQ
 have Du:Tu .i64 (-(i:Int)-1)=-((i:Int)+1):=WQ
 have uB:Tu .i64 (((i+(1+k):Nat):Int)+1)=((i+k:Nat):Int)+2:=WQ
 have IK:Tu .i64 ((i:Int)+1)=(i:Int)+1:=WE;have PD:Tu .i64 (((i+(1+k):Nat):Int)-(i:Int))=((1+k:Nat):Int):=WQ
 have PC:Tu .i64 (((1+k:Nat):Int)-1)=(k:Int):=WQ
 have PB:Tu .i64 (((i+(1+k):Nat):Int)+1)=((i+(1+(k+1)):Nat):Int):=WQ
 have yD:¬σ.bY=h'.bY:=aH
 have e2:h'.gv σ.bY 2=Ik (.fz w3 Q (Tw C) rC):=by rw[zH s9];rfl
 have GX:(k:Int)<((Tw O-1-i:Nat):Int):=aH
 simp only[Z3,seval,-ae,one,PE,Du,uB,IK,PD,PC,e2,yD,dI,cn,jf,CA,GX];refine zFa ⟨w7,a7,by rw[dD]⟩ f1 f2 λv2 dx=>?_;simp only[Z3,seval,-ae,one,dx.one];refine zDA dx aH f4 λv3 jl=>?_;obtain⟨w6,a6,rfl⟩:=jl;have mi:=zAn (w:=Mx.nw c);generalize JT:Ad (Mx.nw c)=rest at *
 simp only[Z3,seval,-ae,one];refine ft.cat (bytes:=8) (σb:=h') (n:=3) (cs:=eh [-((i:Int)+1),((i+k:Nat):Int)+2,(i:Int)+1]) (zB _ _) (ft.cb _ 1 rfl (sB _)) (by rw[zK]) aH aH λv4 h4 k4 a4=>?_;obtain⟨V,bG,rfl,cK,q2,q3,q4,q5⟩:=a4;rw[qh,<-CU]at q2;have y9:(Ho C i k).length=3+Tw rest:=by rw[CU];simp;omega
 have k5:=E.trans k4;have I4:=G.c7 k4;simp only[Z3,seval,-ae,one];refine fB.pushS (σb:=H) (bytes:=24) (news:=[.sl V 0 (3+Tw rest) bG]) k5 I4 rfl aH aH λv' h2 k6 DD o2 n2 l2=>?_;have oE:=DD.one;simp only[Z3,seval,-ae,oE,PB];have og:h2.cd V=Ik (eh (Ho C i k)):=by rw[o2 _ q5 (G.ne q4)];exact q2
 refine⟨(Tw O)-1-i-(k+1),aH,.fzh V _ og (zO _ _) λo3=>?_⟩;obtain⟨f1,f2,f3⟩:=ft.fzr hwf k6 DD (s:=V) (cs:=eh (Ho C i k)) aH (n2 _ q5) o3;rw[zBo (S.bI 0) cK.ok]at f2;refine .here ⟨k+1,v',R++[Ho C i k],_,aH,rfl,?_,f1,by rw[cO];exact f2.acc,S.snoc ⟨Im,.sl o3 0 (3+Tw rest) bG,by rw[y9]⟩,by simp;omega,yx⟩;show nD V o3 (eh (Ho C i k)) [PV.ptr σ.bY 0,v',.int .i64 (Tw O),.int .i64 i,.int .i64 ((i+(1+(k+1)):Nat):Int)]=_;simp only[nD,sb,f3]
end
section
variable{w:V1}
def zMu(O:V1)(P:V2)(C:V3)(O':V1)(P':V2)(C':V3)(D:V2):Prop:=∀r,Hj O P C r->isZ (evS O' P' C' D r)
def zGJ(hp:zI O P C)(S:eQ vO vP vC O P C)(g:LG O' P' C')(J:eQ iM iE iO O' P' C')(hD:hK vD D)(Et:(Tw D)=Tw O)(hg:∀y∈D,gS O' y)
  (hk:∀t:Bool,(t=Im↔zMu O P C O' P' C' D)->K (.bool t) σ):zA Tp 135 [.agg [vO,vP,vC],.agg [iM,iE,iO],vD] σ K:=by
 have fl:=@Ts
 have X:=S.O.one;have Y:=S.P.one;have g2:=S.C.one;have q0:=J.O.one;have q1:=J.P.one;have q2:=J.C.one;have E:=hD.one;have s:=hp.shp;have h6:=s.le;refine To Tryz.func135 ?_;simp only[Z3,seval,-ae,X,Y,g2,q0,q1,q2,E];generalize Q:(σ.cb [vO,vP,vC]).cb [iM,iE,iO]=H;have kH:dq σ H:=by rw[<-Q];exact(zB _ _).cb _
 have r1:H.rd σ.bY 0 3=Ik [vO,vP,vC]:=by rw[<-Q];simp only[Z3,seval,-ae]
 have r2:H.rd (σ.bY+1) 0 3=Ik [iM,iE,iO]:=by rw[<-Q];simp only[Z3,seval,-ae]
 clear Q;simp only[Z3,seval,-ae,r1,X,Y,g2,E];refine zGK hp S λvR R Nq ⟨W,ai⟩ A4=>?_;obtain⟨wR,aR,rR,rfl,Nw⟩:=Nq;simp only[Z3,seval,-ae,E];refine zF (λm vs h=>∃(i:Nat),i<=Tw R/\m=Tw R-i/\vs=[vD,.ptr (σ.bY+1) 0,.fz wR aR (Tw R) rR,.int .i64 i]/\h=H/\∀r∈R.take i,isZ (evS O' P' C' D r)) (Tw R) ?_ ?_
 .exact⟨0,YQ _,rfl,rfl,rfl,λr V=>by simp at V⟩
 rintro m vs h ⟨i,hi,rfl,rfl,rfl,U⟩
 simp only[Z3,seval,-ae,E];refine Tr (λan=>?_) λG=>?_
 .rw[YU aH]at U;exact Gh.fin0 kH trivial (hk _ ⟨λ_=>λr V=>U r (ai r V),λ_=>rfl⟩)
 have ah:(i:Int)<(Tw R:Int):=aH
 obtain⟨w5,a5,h5⟩:=Nw.rowI G;have mem:R[i]∈R:=ss G;obtain⟨b1,b2⟩:=(W _ mem).facts s;rw[<-Et]at b1;simp only[Z3,seval,-ae,E,G,ah,h5,r2,q0,q1,q2,zR,qA];refine zNr g.s g.co J ⟨w5,a5,rfl⟩ b1 aH hD aH hg λv5 f5=>?_;have el:=(zOJ g.s g.F hg b1).len;have td:=g.s.le;obtain⟨w6,a6,rfl⟩:=f5;simp only[Z3,seval,-ae,E,zR,qA];refine zAc rfl aH ?_;by_cases T:isZ (evS O' P' C' D R[i])
 .simp only[Z3,seval,-ae,E,T,decide_true,WX G,zR,qA];refine⟨_,aH,i+1,aH,rfl,rfl,?_⟩;intro r kQ;rw[YV G]at kQ;rcases YZ.1 kQ with h|h
  .exact U r h
  .rw[YW.1 h];exact T
 .simp only[Z3,seval,-ae,E,T,decide_false,zR,qA];exact Gh.fin0 kH trivial (hk _ (fl λh=>T (h _ (W _ mem))))
def tR(O:V1):V2->Int
 |[]=>1
 |v::u=>at_ O (fR v)*tR O u
def zB9(O:V1)(v:V1):∀u,tR O (u++[v])=tR O u*at_ O (fR v)
 |[]=>by simp[tR]
 |w::u=>by simp only[Yy,tR];rw[zB9 O v u,Uk]
def zBk(h:∀v∈u,1<=at_ O (fR v)/\at_ O (fR v)<=7):∀i,i<=Tw u->1<=tR O (u.take i)/\tR O (u.take i)<=(7:Int) ^ i
 |0,_=>by simp[tR]
 |i+1,hi=>by
  obtain⟨m,h2⟩:=zBk h i aH;obtain⟨E,G⟩:=h _ (ss (show i<(Tw u) by omega));rw[YV aH,zB9,S1];refine⟨?_,?_⟩
  .have:=Oq m E aH aH
   omega
  .exact Oq h2 G aH (Int.pow_nonneg aH)
def pow7b:∀{i:Nat},i<=6->(7:Int) ^ i<=117649
 |0,_=>by decide
 |1,_=>by decide
 |2,_=>by decide
 |3,_=>by decide
 |4,_=>by decide
 |5,_=>by decide
 |6,_=>by decide
def Qb{H:V1->Prop}(s:kC O P C)(E:sA O H u):(∀v∈u,1<=at_ O (fR v)/\at_ O (fR v)<=7)/\∀v∈u,(Tw v)=Tw O/\fR v<Tw O:=
 ⟨λv m=>by have:=s.pr (fR v) (E.one v m).2.1;omega,λv m=>⟨(E.one v m).1.len,(E.one v m).2.1⟩⟩
def QO{H:V1->Prop}(s:kC O P C)(G:eQ vO vP vC O P C)(hU:hK vU u)(hu:sA O H u)(iu:(Tw u)<=6)(hk:K (.int .i64 (tR O u)) σ):zA Tp 179 [.agg [vO,vP,vC],vU] σ K:=by
 have bB:=s.le;have g0:=G.O.one;have g1:=G.P.one;have g2:=G.C.one;obtain⟨b1,X⟩:=Qb s hu;obtain⟨⟨V,S,rfl⟩,_,_⟩:=G;obtain⟨wU,W,rU,rfl,tZ⟩:=hU;refine To Tryz.func179 ?_;simp only[Z3,seval,-ae,g0,g1,g2];generalize J:σ.cb [PV.fz V S (Tw O) (eh O),vP,vC]=H';have kH:dq σ H':=by rw[<-J];exact zB _ _
 have U:H'.gv σ.bY 0=Ik (.fz V S (Tw O) (eh O)):=by rw[<-J];simp only[Z3,seval,-ae]
 clear J;refine zF (λm vs h=>∃(i:Nat),i<=Tw u/\m=Tw u-i/\vs=[.fz wU W (Tw u) rU,.ptr σ.bY 0,.int .i64 (tR O (u.take i)),.int .i64 i]/\h=H') (Tw u) ?_ ?_
 .exact⟨0,YQ _,rfl,rfl,rfl⟩
 rintro m vs h ⟨i,hi,rfl,rfl,rfl⟩
 refine Tq ?_;refine Tr (λan=>?_) λE=>?_
 .rw[YU aH];exact Gh.fin0 kH trivial hk
 have T:(i:Int)<(Tw u:Int):=aH
 have mem:=ss E;obtain⟨hl,Q⟩:=X _ mem;have iZ:((fR u[i]:Nat):Int)<(Tw O:Int):=aH
 obtain⟨w5,a5,h5⟩:=tZ.rowI E;have gO:(eh O)[fR u[i]]? = Ik (.int .i64 O[fR u[i]]):=by rw[zJ,gi Q];rfl
 obtain⟨c1,c2⟩:=zBk b1 i hi;obtain⟨c3,c4⟩:=zBk b1 (i+1) E;have p1:=pow7b (show i<=6 by omega);have p2:=pow7b (show i+1<=6 by omega);have Y:tR O (u.take i)*O[fR u[i]]=tR O (u.take (i+1)):=by rw[YV E,zB9,gj Q]
 have wm:Tu .i64 (tR O (u.take (i+1)))=tR O (u.take (i+1)):=WE;simp only[Z3,seval,-ae,E,T,h5,U,zR,qA];refine QP rfl aH ?_;simp only[Z3,seval,-ae,E,T,U,Q,iZ,gO,Y,wm,zR,qA,WX E];exact⟨_,aH,i+1,aH,rfl,rfl⟩
end
section
variable{out:V2}
abbrev gpw(O:V1)(P:V2)(C:V3)(v:V1)(k:Nat):V1:=pw (gm O P C) (zv O) v k
def PrU(O:V1)(P:V2)(C:V3):V2->V1->Prop
 |[],y=>y=zv O
 |v::u,y=>∃k:Nat,k<nx O (fR v)/\∃m,PrU O P C u m/\y=gm O P C (gpw O P C v k) m
def exR(O:V1)(P:V2)(C:V3)(x v:V1)(k:Nat):V2:=(Iw k).map λt=>gm O P C x (gpw O P C v t)
def exN(O:V1)(P:V2)(C:V3)(out:V2)(v:V1):V2:=out.flatMap λx=>exR O P C x v (nx O (fR v))
def exA(O:V1)(P:V2)(C:V3)(out u:V2):V2:=u.foldl (exN O P C) out
section
variable(F:Full O P C (Tw O))
include F
theorem zSE(E:∀x∈out,gS O x)(G:gS O y):∀x∈exN O P C out y,gS O x:=λx H=>by
 obtain⟨z,J,m⟩:=UY.1 H;obtain⟨t,Q,rfl⟩:=YD.1 m;exact F.g.cl (E z J) (F.g.pw G t)
theorem PrU.inS:∀{u:V2} {y},(∀v∈u,gS O v)->PrU O P C u y->gS O y
 |[],_,_,h=>by rw[show _=zv O from h];exact F.g.one
 |v::u,y,hu,⟨k,_,y',h,e⟩=>by
  rw[e];exact F.g.cl (F.g.pw (hu v (Yp ..)) k) (PrU.inS (λw m=>hu w (Yc _ m)) h)
theorem zKq:∀{u out:V2},(∀x∈out,gS O x)->(∀v∈u,gS O v)->∀y,y∈exA O P C out u↔∃z∈out,∃m,PrU O P C u m/\y=gm O P C z m
 |[],out,ho,_,y=>by
  constructor
  .intro h;exact⟨y,h,zv O,rfl,(F.g.r1 (ho y h)).symm⟩
  .rintro⟨z,G,m,e,rfl⟩
   rw[show m=zv O from e,F.g.r1 (ho z G)];exact G
 |v::u,out,ho,hu,y=>by
  have Q:=hu v (Yp ..);have H:=λw T=>hu w (Yc v T);refine(zKq (zSE F ho Q) H y).trans ⟨?_,?_⟩
  .rintro⟨z,G,m,h,rfl⟩
   obtain⟨x,E,S⟩:=UY.1 G;obtain⟨t,J,rfl⟩:=YD.1 S;exact⟨x,E,_,⟨t,Yd.1 J,m,h,rfl⟩,F.g.as (ho x E) (F.g.pw Q t) (PrU.inS F H h)⟩
  .rintro⟨x,E,_,⟨t,J,m,h,rfl⟩,rfl⟩
   exact⟨_,UY.2 ⟨x,E,YD.2 ⟨t,Yd.2 J,rfl⟩⟩,m,h,(F.g.as (ho x E) (F.g.pw Q t) (PrU.inS F H h)).symm⟩
theorem PrU.gc{H:V1->Prop}(m:gB O P C H):∀{u:V2} {y},(∀v∈u,H v)->PrU O P C u y->H y
 |[],_,_,h=>by rw[show _=zv O from h];exact m.one
 |v::u,y,hu,⟨k,_,y',h,e⟩=>by
  rw[e];exact m.cl (m.pw (hu v (Yp ..)) k) (PrU.gc m (λw E=>hu w (Yc _ E)) h)
end
def zCB(g:LG O P C)(Q:t<Tw O)(S:TT O t x)(V:TT O t y)(W:at_ y t=1):∃z,gS O z/\TT O (t+1) z/\x=gm O P C (gpw O P C y (at_ x t).toNat) z/\z=gm O P C (mE (gS O) (gm O P C) (zv O) (gpw O P C y (at_ x t).toNat)) x:=by
 have s:=g.s;have F:=g.F;have G:=F.g;have E:gS O x:=S.mono (YQ _);have yS:gS O y:=V.mono (YQ _);obtain⟨X,Y⟩:=QG s F g.cent Q V (at_ x t).toNat;have J:=S.bd t Q;have m:=G.pw yS (at_ x t).toNat;have T:=(G.inv_in m).1;refine⟨_,G.cl T E,?_,?_,rfl⟩;rotate_left
 .rw[<-G.as m T E,G.inv_r m,G.l1 E]
 have H:TT O t (gm O P C (mE (gS O) (gm O P C) (zv O) (gpw O P C y (at_ x t).toNat)) x):=tt_cl s F g.cent aH (zHV s F g.cent aH X) S;have e:gm O P C (gpw O P C y (at_ x t).toNat) (gm O P C (mE (gS O) (gm O P C) (zv O) (gpw O P C y (at_ x t).toNat)) x)=x:=by rw[<-G.as m T E,G.inv_r m,G.l1 E]
 generalize gm O P C (mE (gS O) (gm O P C) (zv O) (gpw O P C y (at_ x t).toNat)) x=z at *
 obtain⟨g1,U⟩:=qd s (d:=(Tw O)) (b:=gpw O P C y (at_ x t).toNat) (a:=z) (t:=t) (sB _) aH Q (by rw[Yh];exact m) H;have e':mu O P C (Tw O) (gpw O P C y (at_ x t).toNat) z=x:=e;rw[e',Y,W,Uz,Yi J.1,Y5 J.1 J.2]at U;have z0:=zA7 J (H.bd t Q) U.symm;refine⟨H.len,H.bd,λj hj=>?_⟩;rcases YY j t with h|h
 .exact H.zero j h
 .obtain rfl:j=t:=aH
  exact z0
def zRU(g:LG O P C)(G:zh O P C u):∀(w pre:V2),u=pre++w->∀x,GC O P C u x->(∀v∈pre,fR v<fR x)->PrU O P C w x:=by
 have F:=g.F;have E:=GC.sub F G.1;intro w
 induction w with
 |nil=>
  intro pre e x m Q;rcases YY (fR x) (Tw O) with h|h
  .obtain⟨v,H,ev⟩:=G.2.all x m h;rw[e,YL]at H
   have:=Q v H
   omega
  .exact Zb (E.inS m) h
 |cons v w ih=>
  intro pre e x m Q;have T:=E.inS m;have H:v∈u:=by rw[e];simp
  obtain⟨v1,v2,v3⟩:=G.2.one v H;have asc:=G.2.asc;rw[e]at asc;obtain⟨_,S,V⟩:=Oa.1 asc;rw[Sp]at S;have an:fR v<=fR x:=by
   rcases YY (fR x) (Tw O) with h|h
   .obtain⟨v',J,ev⟩:=G.2.all x m h;rw[e]at J;rcases YZ.1 J with h1|h1
    .have:=Q v' h1;omega
    .rcases Yq.1 h1 with rfl|h1
     .omega
     .have:=S.1 v' h1;omega
   .omega
  have U:TT O (fR v) x:=⟨T.len,T.bd,λj hj=>qW aH⟩
  obtain⟨z,zS,zT,W,X⟩:=zCB g v2 U (ZX v1) v3;have Y:GC O P C u z:=by
   rw[X];exact E.cl (E.inv (E.pw (GC.mem H) _)) m
  have bx:=U.bd _ v2;refine⟨(at_ x (fR v)).toNat,by show(at_ x (fR v)).toNat<(at_ O (fR v)).toNat;omega,z,ih (pre++[v]) (by rw[e];simp) z Y λv' J=>?_,W⟩
  have:=Grp.AX zT v2
  rcases YZ.1 J with h|h
  .have:=V v' h v (Yp ..);omega
  .rw[YW.1 h];omega
def zRJ(g:LG O P C)(m:zh O P C u):∀x,x∈exA O P C [zv O] u↔GC O P C u x:=λx=>by
 have F:=g.F;have G:=GC.sub F m.1;refine(zKq F (out:=[zv O]) (λx H=>by rw[YW.1 H];exact F.g.one) m.1 x).trans ⟨?_,?_⟩
 .rintro⟨z,J,y,h,rfl⟩
  rw[YW.1 J,F.g.l1 (PrU.inS F m.1 h)];exact PrU.gc F G (λv E=>GC.mem E) h
 .intro h;exact⟨zv O,YW.2 rfl,x,zRU g m u [] rfl x h (λv E=>by cases E),(F.g.l1 (G.inS h)).symm⟩
end
def TrivM(O:V1)(P:V2)(C:V3)(u w:V2):Prop:=∀x,GC O P C u x->GC O P C w x->x=zv O
def zSA(F:Full O P C (Tw O)):gB O P C λx=>x=zv O:=
 ⟨λe=>by rw[e];exact F.g.one,rfl,λe e'=>by rw[e,e'];exact F.g.l1 F.g.one,λe=>by rw[e];exact(F.g.inv_eq F.g.one F.g.one (F.g.l1 F.g.one)).symm⟩
def zP7(F:Full O P C (Tw O))(H:∀x∈A,gS O x)(h:sA O (GC O P C A) u):(Tw u)=0↔∀x∈A,x=zv O:=by
 constructor
 .intro e x hx;rcases YY (fR x) (Tw O) with hd|hd
  .obtain⟨v,m,_⟩:=h.all x (GC.mem hx) hd;rw[YM e]at m;cases m
  .exact Zb (H x hx) hd
 .intro e;cases u with
  |nil=>rfl
  |cons v u=>
   have E:=h.mem v (Yp ..);have h2:v=zv O:=E _ (zSA F) e;have G:=(h.one v (Yp ..)).2.2;rw[h2,show at_ (zv O) (fR (zv O))=0 from ZV _ _]at G;omega
def zFI:∀i,i<=Tw O->iL (O.take i)=jW O i
 |0,_=>by simp[iL,jW]
 |i+1,hi=>by
  have h:i<Tw O:=aH
  rw[Zg h,zFI i aH,jW,gj h]
def zI.ord(h:zI O P C):jW O (Tw O)<=729:=by
 have e:=zFI (O:=O) (Tw O) (sB _);rw[YP]at e;rw[<-e];exact h.2.2.2.2.1
def NorG(O:V1)(P:V2)(C:V3)(u:V2):Prop:=∀g∈qj O,∀x∈u,GC O P C u (Fq O P C x g)
def zMj(s:kC O P C):∀g∈qj O,gS O g:=λg m=>by
 obtain⟨i,E,rfl⟩:=YD.1 m;exact s.unit (by simpa using E) (YQ _)
def zL2(g:LG O P C)(G:eQ vO vP vC O P C)(H:hK vU u)(m:zh O P C u)(Q:gS O x)(E:FI vx x)(J:∀t:Bool,(t=Im↔GC O P C u x)->K (.bool t) σ):zA Tp 63 [.agg [vO,vP,vC],vU,vx] σ K:=
 zC4 g G (GC.sub g.F m.1) H m.2 Q E J
def zI2(h:∀j,j<Tw O->2<=at_ O j/\at_ O j<=7):∀{c:Nat} {x:V1},c<=Tw O->(Tw x)=c->(∀j,j<c->0<=at_ x j/\at_ x j<at_ O j)->0<=ja O x c/\vj O c (ja O x c).toNat=x
 |0,x,_,hl,_=>by rw[YM hl];exact⟨UL _,rfl⟩
 |c+1,x,hc,hl,hx=>by
  obtain⟨y,b,rfl⟩:∃y b,x=y++[b]:=by
   rcases zCz x with e|e
   .rw[e]at hl;simp at hl
   .exact e
  have J:(Tw y)=c:=by simpa using hl
  have H:∀j,j<c->at_ (y++[b]) j=at_ y j:=λj E=>by rw[zA5,Iu aH]
  have m:at_ (y++[b]) c=b:=by rw[zA5,Iv aH,J,Yh];rfl
  obtain⟨W,G⟩:=zI2 h (c:=c) (x:=y) aH J λj E=>by rw[<-H j E];exact hx j aH
  have Q:=hx c aH;rw[m]at Q;have X:=h c aH;obtain⟨o,eo⟩:∃o:Nat,at_ O c=(o:Int):=⟨(at_ O c).toNat,aH⟩
  obtain⟨n,en⟩:∃n:Nat,ja O y c=(n:Int):=⟨(ja O y c).toNat,aH⟩
  obtain⟨r,er⟩:∃r:Nat,b=(r:Int):=⟨b.toNat,aH⟩
  have U:ja O (y++[b]) c=ja O y c:=zCL H;rw[ja,U,m,en,eo,er];have V:(n:Int)*(o:Int)+(r:Int)=((n*o+r:Nat):Int):=bj
  rw[V];refine⟨aH,?_⟩;rw[KH,vj,eo,KH];rw[en,KH]at G;have ro:r<o:=aH
  have S:(n*o+r) / o=n:=by rw[UT,Nat.add_mul_div_right _ _ aH,Nat.div_eq_of_lt ro,Y4]
  have T:(n*o+r) % o=r:=by rw[UT,Nat.add_mul_mod_self_right,L0 ro]
  rw[S,T,G]
def wW(O:V1)(P:V2)(C:V3)(u:V2)(a:V1):Nat->V1
 |0=>zv O
 |i+1=>gm O P C (wW O P C u a i) (gpw O P C (u.getD i []) (at_ a i).toNat)
def zLJ(h:∀j,j<i->at_ a j=at_ b j):wW O P C u a i=wW O P C u b i:=by
 induction i with
 |zero=>rfl
 |succ i ih=>rw[wW,wW,ih λj m=>h j aH,h i aH]
def kL(O:V1)(u:V2):V1:=u.map λv=>at_ O (fR v)
def Q3(m:i<Tw u):at_ (kL O u) i=at_ O (fR u[i]):=by
 rw[gj (show i<(kL O u).length by simpa [kL]using m)];simp[kL]
def zIt(m:i<Tw u):exA O P C [zv O] (u.take (i+1))=exN O P C (exA O P C [zv O] (u.take i)) u[i]:=by
 unfold exA;rw[YV m,Ug];rfl
def zKW(E:∀j,j<Tw u->0<=at_ a j/\at_ a j<at_ O (fR (u.getD j []))):∀i,i<=Tw u->wW O P C u a i∈exA O P C [zv O] (u.take i)
 |0,_=>by simp[wW,exA]
 |i+1,hi=>by
  have m:i<Tw u:=hi;have g:u.getD i []=u[i]:=by rw[YK,na m];rfl
  have:=E i m
  rw[zIt m,wW,g];rw[g]at this;exact UY.2 ⟨_,zKW E i aH,YD.2 ⟨_,Yd.2 (by show(at_ a i).toNat<(at_ O (fR u[i])).toNat;omega),rfl⟩⟩
def zKg:∀i,i<=Tw u->∀x,x∈exA O P C [zv O] (u.take i)->∃a:V1,(Tw a)=i/\(∀j,j<i->0<=at_ a j/\at_ a j<at_ O (fR (u.getD j [])))/\x=wW O P C u a i
 |0,_,x,hx=>⟨[],rfl,λj m=>aH,by simpa [exA,wW]using hx⟩
 |i+1,hi,x,hx=>by
  have H:i<Tw u:=hi;have g:u.getD i []=u[i]:=by rw[YK,na H];rfl
  rw[zIt H]at hx;obtain⟨y,T,Q⟩:=UY.1 hx;obtain⟨t,E,rfl⟩:=YD.1 Q;have E:=Yd.1 E;obtain⟨a,h2,S,rfl⟩:=zKg i aH y T;have J:∀j,j<i->at_ (a++[(t:Int)]) j=at_ a j:=λj m=>by rw[zA5,Iu aH]
  have G:at_ (a++[(t:Int)]) i=t:=by rw[zA5,Iv aH,h2,Yh];rfl
  have U:t<(at_ O (fR u[i])).toNat:=E;refine⟨a++[(t:Int)],by simp[h2],λj m=>?_,?_⟩
  .rcases YY j i with e|e
   .rw[J j e];exact S j e
   .obtain rfl:j=i:=aH
    rw[G,g];omega
  .rw[wW,G,g,KH,zLJ (λj m=>J j m)]
def zOl:tR O u=jW (kL O u) (Tw u):=by
 have key:∀i,i<=Tw u->tR O (u.take i)=jW (kL O u) i:=by
  intro i
  induction i with
  |zero=>intro _;simp[tR,jW]
  |succ i ih=>
   intro m;rw[YV (show i<(Tw u) by omega),zB9,ih aH,jW,Q3]
 have:=key (Tw u) (sB _)
 rwa[YP]at this
def zEF(g:LG O P C)(J:zh O P C u)(x:V1):GC O P C u x↔∃k:Nat,(k:Int)<tR O u/\x=wW O P C u (vj (kL O u) (Tw u) k) (Tw u):=by
 have s:=g.s;obtain⟨b1,Q⟩:=Qb s J.2;have U:(kL O u).length=Tw u:=by simp[kL]
 have G:∀j (m:j<Tw u),u.getD j []=u[j]:=λj m=>by rw[YK,na m];rfl
 have E:∀j,j<(kL O u).length->2<=at_ (kL O u) j/\at_ (kL O u) j<=7:=λj m=>by
  rw[U]at m;rw[Q3 m];exact s.pr _ (Q _ (ss m)).2
 rw[<-zRJ g J x];constructor
 .intro h;rw[<-YP (l:=u)]at h;obtain⟨a,S,h2,e⟩:=zKg (Tw u) (sB _) x h;have H:∀j,j<Tw u->0<=at_ a j/\at_ a j<at_ (kL O u) j:=λj m=>by rw[Q3 m,<-G j m];exact h2 j m
  obtain⟨W,T⟩:=zI2 E (c:=(Tw u)) (x:=a) aH S H;have bd:=ZK E (x:=a) (λj m=>H j aH) (i:=(Tw u)) aH;refine⟨(ja (kL O u) a (Tw u)).toNat,by rw[zOl];omega,?_⟩;rw[T];exact e
 .rintro⟨k,V,rfl⟩
  have:=zKW (O:=O) (P:=P) (C:=C) (u:=u) (a:=vj (kL O u) (Tw u) k) (λj m=>by
   have:=zFr E (c:=(Tw u)) (k:=k) aH j m
   rw[Q3 m]at this;rw[G j m];exact this) (Tw u) (sB _)
  rwa[YP]at this
def zIS(g:LG O P C)(G:eQ vO vP vC O P C)(hU:hK vU u)(Y:zh O P C u)(hk:∀v,FI v (kL O u)->K v σ):zA Tp 220 [.agg [vO,vP,vC],vU] σ K:=by
 have s:=g.s;have bB:=s.le;have iu:=Y.len;have g0:=G.O.one;have g1:=G.P.one;have g2:=G.C.one;obtain⟨b1,b2⟩:=Qb s Y.2;obtain⟨⟨U,H,rfl⟩,_,_⟩:=G;obtain⟨wU,aU,rU,rfl,tZ⟩:=hU;refine To Tryz.func220 ?_;simp only[Z3,seval,-ae,g0,g1,g2];refine zF (λm vs h=>∃(i:Nat) (T:PV),i<=Tw u/\m=Tw u-i/\vs=[.fz wU aU (Tw u) rU,.ptr σ.bY 0,T,.int .i64 i]/\dq (σ.cb [.fz U H (Tw O) (eh O),vP,vC]) h/\ft (σ.bY+1) 1 h T i (eh (kL O (u.take i)))) (Tw u) ?_ ?_
 .exact⟨0,_,YQ _,rfl,rfl,zB _ _,ft.cb _ _ rfl (sB _)⟩
 rintro m vs h ⟨i,T,hi,rfl,rfl,S,Q⟩
 have W:h.gv σ.bY 0=Ik (.fz U H (Tw O) (eh O)):=by rw[zH (by rw[S.cd _ (by show σ.bY<σ.bY+1;omega),zC];exact Iu rfl)];rfl
 refine Tq ?_;refine Tr (λan=>?_) λE=>?_
 .obtain rfl:i=Tw u:=aH
  rw[YP]at Q;exact fB.fin ((zB σ _).trans S) (Q.acc.low aH) (zO _ _) λa=>hk _ ⟨Im,a,by simp[kL]⟩
 have V:(i:Int)<(Tw u:Int):=aH
 have mem:=ss E;obtain⟨hl,J⟩:=b2 _ mem;have iZ:((fR u[i]:Nat):Int)<(Tw O:Int):=aH
 obtain⟨w5,a5,X⟩:=tZ.rowI E;have gO:(eh O)[fR u[i]]? = Ik (.int .i64 O[fR u[i]]):=by rw[zJ,gi J];rfl
 simp only[Z3,seval,-ae,E,V,X,W];refine QP (x:=u[i]) rfl aH ?_;simp only[Z3,seval,-ae,E,V,X,W,J,iZ,gO];refine fB.push (σb:=σ.cb [.fz U H (Tw O) (eh O),vP,vC]) (bytes:=8) S Q.acc aH aH λv' h2 k2 a2=>?_;simp only[Z3,seval,-ae,WX E];refine⟨_,aH,i+1,v',aH,rfl,rfl,k2,?_⟩;have e:kL O (u.take (i+1))=kL O (u.take i)++[O[fR u[i]]]:=by
  unfold kL;rw[YV E,YI];exact congrArg (λz=>_++[z]) (gj J)
 rw[e,show eh (kL O (u.take i)++[O[fR u[i]]])=eh (kL O (u.take i))++[.int .i64 O[fR u[i]]] by simp[eh]];exact a2
def zHA(g:LG O P C)(G:eQ vO vP vC O P C)(hU:hK vU u)(H:zh O P C u)(ha:FI va a)(lu:(Tw a)=Tw u)(rV:∀j,j<Tw u->0<=at_ a j/\at_ a j<at_ (kL O u) j)
  (hk:∀v,FI v (wW O P C u a (Tw u))->K v σ):zA Tp 74 [.agg [vO,vP,vC],vU,va] σ K:=by
 have s:=g.s;have F:=g.F;have bB:=s.le;have iu:=H.len;have J:=G.O.one;have Q:=G.P.one;have S:=G.C.one;obtain⟨b1,b2⟩:=Qb s H.2;obtain⟨wU,Y,rU,rfl,tZ⟩:=hU;obtain⟨wa,aa,rfl⟩:=ha;refine To Tryz.func74 ?_;simp only[Z3,seval,-ae,J,Q,S];generalize T:σ.cb [vO,vP,vC]=H';have kH:dq σ H':=by rw[<-T];exact zB _ _
 have r3:H'.rd σ.bY 0 3=Ik [vO,vP,vC]:=by rw[<-T];simp only[Z3,seval,-ae]
 clear T;simp only[Z3,seval,-ae,r3,J,Q,S];refine QX G aH λv0 f0=>?_;refine Tq ?_;refine zF (λm vs h=>∃(i:Nat) (vx:PV),i<=Tw u/\m=Tw u-i/\vs=[.fz wU Y (Tw u) rU,.fz wa aa (Tw a) (eh a),.ptr σ.bY 0,vx,.int .i64 i]/\h=H'/\FI vx (wW O P C u a i)) (Tw u) ?_ ?_
 .exact⟨0,v0,YQ _,rfl,rfl,rfl,f0⟩
 rintro m vs h ⟨i,vx,V,rfl,rfl,rfl,fx⟩
 have inS:∀i,i<=Tw u->gS O (wW O P C u a i):=λi V=>by
  induction i with
  |zero=>exact F.g.one
  |succ i ih=>
   have W:i<Tw u:=V;rw[wW,YK,na W];exact F.g.cl (ih aH) (F.g.pw (H.1 _ (ss W)) _)
 refine Tq ?_;refine Tr (λan=>?_) λE=>?_
 .obtain rfl:i=Tw u:=aH
  exact Gh.fin0 kH (fx.bel _) (hk _ fx)
 have ah:(i:Int)<(Tw u:Int):=aH
 have yF:(i:Int)<(Tw a:Int):=aH
 have U:i<Tw a:=aH
 have mem:=ss E;obtain⟨w5,X,h5⟩:=tZ.rowI E;have ga:(eh a)[i]? = Ik (.int .i64 a[i]):=by rw[zJ,gi U];rfl
 have b:=rV i E;rw[Q3 E]at b;have bo:=b1 _ mem;have ea:at_ a i=a[i]:=gj U;simp only[Z3,seval,-ae,E,ah,yF,U,h5,ga,r3,J,Q,S];refine zC5 g G (H.1 _ mem) ⟨w5,X,rfl⟩ aH λv1 f1=>?_;simp only[Z3,seval,-ae,r3,J,Q,S];refine zV s G (inS i aH) (F.g.pw (H.1 _ mem) _) fx f1 λv2 f2=>?_;simp only[Z3,seval,-ae,WX E];refine⟨_,aH,i+1,v2,aH,rfl,rfl,?_⟩;rw[wW,YK,na E,ea];exact f2
section
variable{f:Nat->Nat}
def HB(f:Nat->Nat)(k t:Nat):Bool:=(Iw k).any λj=>f j == t
def Ex(f:Nat->Nat)(N k:Nat):List PV:=(Iw N).map λt=>.bool (HB f k t)
def zIj:HB f k t=Im↔∃j,j<k/\f j=t:=by
 unfold HB;rw[Nz];exact⟨λ⟨j,m,h2⟩=>⟨j,Yd.1 m,by simpa using h2⟩,λ⟨j,m,h2⟩=>⟨j,Yd.2 m,by simpa using h2⟩⟩
def zA0:(Ex f N k).length=N:=by simp[Ex]
def zCR(m:t<N):(Ex f N k)[t]? = Ik (.bool (HB f k t)):=by
 unfold Ex;rw[Yl,O6 m];rfl
def zN4:Ex f N 0=Jf N (.bool false):=by
 refine Kr λt=>?_;rcases YY t N with h|h
 .rw[zCR h,RR,Iu h];rfl
 .rw[YN (by rw[zA0];exact h),YN (by simpa using h)]
def zPk:(Ex f N k).set (f k) (.bool Im)=Ex f N (k+1):=by
 refine Kr λt=>?_;rcases YY t N with h|h
 .rw[zCR h,Yu,zCR h,zA0];have e:HB f (k+1) t=(HB f k t || (f k == t)):=by
   unfold HB;rw[Om,List.any_append];simp
  by_cases c:f k=t
  .rw[Iu c,Iu aH,e,c];simp
  .rw[Iv c,e,show(f k == t)=false by simpa using c,Bool.or_false]
 .rw[YN (by rw[Yx,zA0];exact h),YN (by rw[zA0];exact h)]
def zSN{a:AV}:hK (.fz Im a 0 []) []:=⟨Im,a,[],rfl,ez.nil _⟩
set_option maxHeartbeats 1600000 in
def Q4(g:LG O P C)(Q:eQ vO vP vC O P C)(hU:hK vU u)(T:zh O P C u)(X:∀v Z,hK v Z->(∀x,x∈Z↔GC O P C u x)->(Tw Z)<=729->K v σ):zA Tp 206 [.agg [vO,vP,vC],vU] σ K:=by
 have s:=g.s;have F:=g.F;have bB:=s.le;have iu:=T.len;have G:=Q.O.one;have H:=Q.P.one;have J:=Q.C.one;have n9:=hU;have gU:=hU.one;obtain⟨b1,b2⟩:=Qb s T.2;obtain⟨hN,jX⟩:=ZN s;have ho:=g.pr.ord;refine To Tryz.func206 ?_;simp only[Z3,seval,-ae,G,H,J];generalize W:σ.cb [vO,vP,vC]=H1;have kH:dq σ H1:=by rw[<-W];exact zB _ _
 have nH:H1.bY=σ.bY+1:=by rw[<-W];rfl
 have r3:H1.rd σ.bY 0 3=Ik [vO,vP,vC]:=by rw[<-W];simp only[Z3,seval,-ae]
 have oH:H1.cd σ.bY=Ik [vO,vP,vC]:=by rw[<-W,zC,Iu rfl]
 clear W;simp only[Z3,seval,-ae,r3,G,H,J];refine QO s Q n9 T.2 aH ?_;simp only[Z3,seval,-ae,r3,G,H,J];refine zb s Q ?_;rw[hN];have BI:((iV O:Nat):Int)*((1:Nat):Int)<=140737488355328:=aH
 have V:¬σ.bY=H1.bY:=aH
 simp only[Z3,seval,-ae,r3,G,H,J,BI,zx (n:=iV O) aH,V];refine zIS g Q n9 T λvD fD=>?_;have E2:=fD;obtain⟨wd,ad,rfl⟩:=fD;have Jr:(kL O u).length=Tw u:=by simp[kL]
 simp only[Z3,seval,-ae,r3,G,H,J,V];have dH:∀j,j<(kL O u).length->2<=at_ (kL O u) j/\at_ (kL O u) j<=7:=λj E=>by
  rw[Jr]at E;rw[Q3 E];exact s.pr _ (b2 _ (ss E)).2
 have ye:eQ (.fz wd ad (kL O u).length (eh (kL O u))) (Tt) (Tt) (kL O u) [] []:=⟨E2,zSN,⟨Im,.cU,[],rfl,⟨rfl,λk a b ha=>by cases ha⟩⟩⟩
 have oA:∀k:Nat,(k:Int)<tR O u->GC O P C u (wW O P C u (vj (kL O u) (Tw u) k) (Tw u)):=λk X=>(zEF g T _).2 ⟨k,X,rfl⟩;have hS:=GC.sub F T.1;obtain⟨f,hf⟩:∃f:Nat->Nat,∀k,f k=(ja O (wW O P C u (vj (kL O u) (Tw u) k) (Tw u)) (Tw O)).toNat:=⟨_,λ_=>rfl⟩
 have fN:∀k:Nat,(k:Int)<tR O u->ja O (wW O P C u (vj (kL O u) (Tw u) k) (Tw u)) (Tw O)=((f k:Nat):Int)/\f k<iV O:=λk X=>by
  have b:=ZK s.pr (λj E=>(hS.inS (oA k X)).bd j E) (sB (Tw O));rw[hf];omega
 have pu:=zBk b1 (Tw u) (sB _);rw[YP]at pu;have p7:=pow7b (show (Tw u)<=6 by omega);obtain⟨S,eS⟩:∃S:Nat,tR O u=(S:Int):=⟨(tR O u).toNat,aH⟩
 rw[eS]at oA fN pu ⊢;refine zF (λm vs h=>∃k:Nat,k<=S/\m=S-k/\vs=[vU,.ptr σ.bY 0,.int .i64 (S:Int),.sl H1.bY 0 (iV O) (.cm (iV O)),.ptr (H1.bY+1) 0,.int .i64 k]/\h=(H1.cb (Ex f (iV O) k)).cb [.fz wd ad (kL O u).length (eh (kL O u)),Tt,Tt]) S ?_ ?_
 .exact⟨0,aH,aH,rfl,by rw[zN4]⟩
 rintro m vs h ⟨k,Su,rfl,rfl,rfl⟩
 have n2:¬σ.bY=H1.bY+1:=aH
 by_cases af:k<S;rotate_left
 .obtain rfl:k=S:=aH
  simp only[Z3,seval,-ae,af];generalize Er:(H1.cb (Ex f (iV O) k)).cb [.fz wd ad (kL O u).length (eh (kL O u)),Tt,Tt]=H2;have k2:dq H1 H2:=by rw[<-Er];exact(zB _ _).cb _
  have MW:H2.bY=H1.bY+2:=by rw[<-Er];rfl
  have ob:H2.cd H1.bY=Ik (Ex f (iV O) k):=by
   rw[<-Er,zC,Iv (by show ¬H1.bY=H1.bY+1;omega),zC,Iu rfl]
  clear Er;refine zF (λm vs h=>∃(t:Nat) (vo:PV) (rows:List PV),t<=iV O/\m=iV O-t/\vs=[.ptr σ.bY 0,.sl H1.bY 0 (iV O) (.cm (iV O)),vo,.int .i64 t]/\dq H2 h/\ft H2.bY 1 h vo (Tw rows) rows/\Tw rows<=t/\ez FI rows (((Iw t).filter (HB f k)).map λt=>vj O (Tw O) t)) (iV O) ?_ ?_
  .refine⟨0,.sl (H1.bY+2) 0 0 (.cm 0),[],aH,aH,rfl,zB _ _,?_,bj,by simpa using ez.nil _⟩;rw[<-MW];exact ft.cb H2.bY 1 (h:=H2) (n:=0) (cs:=[]) rfl (sB _)
  rintro m vs h ⟨t,vo,rows,ht,rfl,rfl,kh,po,rl,U⟩
  have et:h.rd σ.bY 0 3=Ik [vO,vP,vC]:=by rw[zN (by rw[kh.cd _ aH,k2.cd _ aH];exact oH)];rfl
  by_cases Y:t<iV O;rotate_left
  .obtain rfl:t=iV O:=aH
   simp only[Z3,seval,-ae,Y];refine fB.fin ((kH.trans k2).trans kh) (po.acc.low aH) (U.bI 0) λa=>?_;refine X _ _ ⟨Im,a,rows,by rw[U.1],U⟩ (λx=>?_) ?_
   .rw[YD,zEF g T x];constructor
    .rintro⟨t,h1,rfl⟩
     obtain⟨h1,h2⟩:=ND.1 h1;obtain⟨j,E,e⟩:=zIj.1 h2;refine⟨j,by rw[eS];omega,?_⟩;obtain⟨e1,e2⟩:=fN j aH;rw[<-e,hf,zIx s (hS.inS (oA j aH))]
    .rintro⟨j,E,rfl⟩
     rw[eS]at E;obtain⟨e1,e2⟩:=fN j E;refine⟨f j,ND.2 ⟨Yd.2 e2,zIj.2 ⟨j,aH,rfl⟩⟩,?_⟩;rw[hf,zIx s (hS.inS (oA j E))]
   .rw[<-U.1];omega
  have vE:=inb Y;have rb:h.gv H1.bY t=Ik (.bool (HB f k t)):=by rw[zH (by rw[kh.cd _ aH];exact ob)];exact zCR Y
  have wt:Tu .i64 ((t:Int)+1)=((t+1:Nat):Int):=lG (show t<200000 by omega) aH;have rs:Iw (t+1)=Iw t++[t]:=Om;cases hb:HB f k t with
  |false=>
   rw[hb]at rb;simp only[Z3,seval,-ae,Y,vE,rb,wt];exact⟨_,aH,t+1,vo,rows,aH,rfl,rfl,kh,po,aH,by rw[rs,P0,YI];simpa [hb]using U⟩
  |true=>
   rw[hb]at rb;simp only[Z3,seval,-ae,Y,vE,rb,et,G,H,J];refine Qg s Q aH λv3 f3=>?_;have f30:=f3;obtain⟨w3,a3,rfl⟩:=f3;refine Tq ?_;refine fB.push (σb:=H2) (bytes:=24) kh po.acc aH aH λv' h2 k3 p3=>?_;simp only[Z3,seval,-ae,wt];refine⟨_,aH,t+1,v',rows++[.fz w3 a3 (vj O (Tw O) t).length (eh (vj O (Tw O) t))],aH,rfl,rfl,k3,by rw[cO];exact p3,by rw[cO];simp;omega,?_⟩;rw[rs,P0,YI];have e:([t].filter (HB f k)).map (λt=>vj O (Tw O) t)=[vj O (Tw O) t]:=by simp[hb]
   rw[e];exact U.snoc f30
 have ah:(k:Int)<(S:Int):=aH
 obtain⟨en,fl⟩:=fN k ah;have wk:Tu .i64 ((k:Int)+1)=((k+1:Nat):Int):=lG (show k<200000 by omega) aH;simp only[Z3,seval,-ae,af,ah,r3,G,H,J,V,n2,gU];refine zKj aH dH ye aH λv1 f1=>?_;rw[Jr]at f1;have g3:=f1.one;simp only[Z3,seval,-ae,r3,G,H,J,V,n2,gU,g3];refine zHA g Q n9 T f1 (ZU _ _ _) (λj E=>zFr dH aH j E) λv2 f2=>?_;have g4:=f2.one;simp only[Z3,seval,-ae,r3,G,H,J,V,n2,gU,g3,g4];refine qU s Q (hS.inS (oA k ah)) f2 ?_;rw[en];have Py:=inb fl;have e1:f k+1<=(Ex f (iV O) k).length:=by rw[zA0];exact fl
 have e2:O0 (f k) (Ex f (iV O) k)++[PV.bool Im]++Kf (f k+1) (Ex f (iV O) k)=Ex f (iV O) (k+1):=by rw[<-zPk];exact zMk e1
 simp only[Z3,seval,-ae,r3,G,H,J,V,n2,gU,g3,g4,Py,e1,e2,wk];exact⟨_,aH,k+1,aH,rfl,rfl,rfl⟩
end
set_option maxHeartbeats 1600000 in
def zLz(g:LG O P C)(E:eQ vO vP vC O P C)(hU:hK vU u)(hu:zh O P C u)(hW:hK vW w)(hw:zh O P C w)
  (hk:∀v L,hK v L->(Tw L=0↔TrivM O P C u w)->K v σ):zA Tp 180 [.agg [vO,vP,vC],vU,vW] σ K:=by
 have s:=g.s;have F:=g.F;have bB:=s.le;have T:=E.O.one;have U:=E.P.one;have V:=E.C.one;have gW:=hW.one;refine To Tryz.func180 ?_;simp only[Z3,seval,-ae,T,U,V];generalize Q:σ.cb [vO,vP,vC]=H1;have kH:dq σ H1:=by rw[<-Q];exact zB _ _
 have nH:H1.bY=σ.bY+1:=by rw[<-Q];rfl
 have r3:H1.rd σ.bY 0 3=Ik [vO,vP,vC]:=by rw[<-Q];simp only[Z3,seval,-ae]
 have oH:H1.cd σ.bY=Ik [vO,vP,vC]:=by rw[<-Q,zC,Iu rfl]
 clear Q;simp only[Z3,seval,-ae,r3,T,U,V];refine Q4 g E hU hu λvZ Z fZ X lZ=>?_;have S6:=fZ;obtain⟨wz,az,rz,rfl,tW⟩:=fZ;refine Tq ?_;refine zF (λm vs h=>∃(i:Nat) (Y:PV) (rows:List PV),i<=Tw Z/\m=Tw Z-i/\vs=[vW,.ptr σ.bY 0,.fz wz az (Tw Z) rz,Y,.int .i64 i]/\dq H1 h/\ft H1.bY 1 h Y (Tw rows) rows/\∃A,ez FI rows A/\Tw A<=i/\(∀x,x∈A↔x∈Z.take i/\GC O P C w x)) (Tw Z) ?_ ?_
 .exact⟨0,_,[],aH,aH,rfl,zB _ _,ft.cb _ _ rfl (sB _),[],ez.nil _,bj,λx=>bj⟩
 rintro m vs h ⟨i,Y,rows,hi,rfl,rfl,W,po,A,J,lA,G⟩
 have r4:h.rd σ.bY 0 3=Ik [vO,vP,vC]:=by rw[zN (by rw[W.cd _ aH];exact oH)];rfl
 have gA:∀x∈A,gS O x:=λx hx=>(GC.sub F hu.1).inS ((X x).1 (Y7 ((G x).1 hx).1));have OY:=J.1;by_cases H:i<Tw Z;rotate_left
 .obtain rfl:i=Tw Z:=aH
  rw[YP]at G;obtain⟨S,cap,rfl,cV,q2,q3,q4,q5⟩:=po;simp only[Z3,seval,-ae,H,r4,T,U,V];have n1:¬σ.bY=S:=aH
  have sD:=cV.ok;refine zA.frz (s:=S) (cs:=rows) q2 (J.bI 0) λo=>?_;have bO:Go.Ab.sb S o rows vO=vO:=ZL (YQ _) (E.O.bel 0);have bP:Go.Ab.sb S o rows vP=vP:=ZL (YQ _) (E.P.bel 0);have bC:Go.Ab.sb S o rows vC=vC:=ZL (YQ _) (E.C.bel 0);simp only[nD,Go.Ab.sb,bO,bP,bC,sD,and_self,if_true,mr];refine Zt (L:=A) g E ⟨Im,.sl o 0 (Tw rows) cap,rows,by rw[OY],J⟩ ⟨aH,λy hy=>by have:=(gA y hy).len;omega⟩ gA λv L f1 hL=>?_;refine Tq ?_;refine Gh.fin0 ((kH.trans W).kill aH) (f1.bel _) (hk v L f1 ?_);refine(zP7 F gA hL).trans ⟨λh x h1 h2=>h x ((G x).2 ⟨(X x).2 h1,h2⟩),λh x hx=>?_⟩;obtain⟨h1,h2⟩:=(G x).1 hx;exact h x ((X x).1 h1) h2
 obtain⟨wx,ax,AI⟩:=tW.rowI H;have ah:(i:Int)<(Tw Z:Int):=aH
 have mz:=ss H;have xS:=(GC.sub F hu.1).inS ((X _).1 mz);have tk:Z.take (i+1)=Z.take i++[Z[i]]:=YV H;have wt:Tu .i64 ((i:Int)+1)=((i+1:Nat):Int):=lG H aH;simp only[Z3,seval,-ae,H,ah,AI,r4,T,U,V,gW];refine zL2 g E hW hw xS ⟨wx,ax,rfl⟩ λt ht=>?_;cases t with
 |false=>
  have nt:¬GC O P C w Z[i]:=λh=>by have:=ht.2 h;cases this
  simp only[Z3,seval,-ae,wt];refine⟨_,aH,i+1,Y,rows,aH,rfl,rfl,W,po,A,J,aH,λx=>(G x).trans ⟨λh=>⟨by rw[tk];exact Ni _ h.1,h.2⟩,λh=>⟨?_,h.2⟩⟩⟩;rw[tk]at h;rcases YZ.1 h.1 with h1|h1
  .exact h1
  .exact absurd (YW.1 h1 ▸ h.2) nt
 |true=>
  have yt:GC O P C w Z[i]:=ht.1 rfl;simp only[Z3,seval,-ae,H,ah,AI];refine fB.push (σb:=H1) (bytes:=24) W po.acc aH aH λv' h2 k3 p3=>?_;simp only[Z3,seval,-ae,wt];refine⟨_,aH,i+1,v',rows++[.fz wx ax Z[i].length (eh Z[i])],aH,rfl,rfl,k3,by rw[cO];exact p3,A++[Z[i]],J.snoc ⟨wx,ax,rfl⟩,by rw[cO];simp;omega,λx=>?_⟩;rw[tk,YZ,YZ,YW];exact⟨λh=>h.elim (λh=>⟨.inl ((G x).1 h).1,((G x).1 h).2⟩) (λh=>⟨.inr h,by rw[h];exact yt⟩),λh=>h.1.elim (λh1=>.inl ((G x).2 ⟨h1,h.2⟩)) .inr⟩
def zEf(g:LG O P C)(Q:eQ vO vP vC O P C)(W:hK vU u)(S:zh O P C u)(X:hK vW w)(T:zh O P C w)
  (Y:∀t:Bool,(t=Im↔tR O u*tR O w=jW O (Tw O)/\TrivM O P C u w)->K (.bool t) σ):zA Tp 139 [.agg [vO,vP,vC],vU,vW] σ K:=by
 have fl:=@Ts
 have s:=g.s;have bB:=s.le;have iu:=S.len;have mi:=T.len;have m:=Q.O.one;have E:=Q.P.one;have G:=Q.C.one;have H:=W.one;have J:=X.one;obtain⟨Rb,Tj⟩:=Qb s S.2;obtain⟨Ra,Ti⟩:=Qb s T.2;have pu:=zBk Rb (Tw u) (sB _);have MA:=zBk Ra (Tw w) (sB _);rw[YP]at pu MA;have p7:=pow7b (show (Tw u)<=6 by omega);have q7:=pow7b (show (Tw w)<=6 by omega);have wm:Tu .i64 (tR O u*tR O w)=tR O u*tR O w:=by
  have h1:tR O u*tR O w<=117649*117649:=Oq aH aH aH aH;have h2:0<=tR O u*tR O w:=UW aH aH;exact mn aH aH
 refine To Tryz.func139 ?_;simp only[Z3,seval,-ae,m,E,G,H,J];generalize V:σ.cb [vO,vP,vC]=H1;have kH:dq σ H1:=by rw[<-V];exact zB _ _
 have r3:H1.rd σ.bY 0 3=Ik [vO,vP,vC]:=by rw[<-V];simp only[Z3,seval,-ae]
 clear V;simp only[Z3,seval,-ae,r3,m,E,G,H,J];refine QO s Q W S.2 aH ?_;simp only[Z3,seval,-ae,r3,m,E,G,H,J];refine QO s Q X T.2 aH ?_;simp only[Z3,seval,-ae,r3,m,E,G,H,J,wm];refine zb s Q ?_;by_cases e:tR O u*tR O w=jW O (Tw O);rotate_left
 .simp only[Z3,seval,-ae,r3,m,E,G,H,J,wm,e,decide_false];exact Gh.fin0 kH trivial (Y false (fl λh=>e h.1))
 .simp only[Z3,seval,-ae,r3,m,E,G,H,J,wm,e,decide_true];refine zLz g Q W S X T λv L f1 hL=>?_;obtain⟨w1,a1,r1,rfl,jo⟩:=f1;by_cases U:(Tw L)=0
  .have z:((Tw L:Nat):Int)=0:=aH
   simp only[Z3,seval,-ae,r3,m,E,G,H,J,z,decide_true];exact Gh.fin0 kH trivial (Y Im ⟨λ_=>⟨e,hL.1 U⟩,λ_=>rfl⟩)
  .have z:¬((Tw L:Nat):Int)=0:=aH
   simp only[Z3,seval,-ae,r3,m,E,G,H,J,U,z,decide_false];exact Gh.fin0 kH trivial (Y false (fl λh=>U (hL.2 h.2)))
def zNv(hn:(Tw O)<=6)(hk:∀v,hK v (qj O)->K v σ):zA Tp 81 [.int .i64 (Tw O)] σ K:=by
 have hl:(qj O).length=Tw O:=by simp[qj]
 refine zA.pwf λw0=>zA.gh ?_;refine Tn Tryz.func81 ?_;refine Tq ?_;refine qF (λm vs h'=>∃(i:Nat) (vC:PV) (rows:List PV),i<=Tw O/\m=Tw O-i/\vs=[.int .i64 (Tw O),vC,.int .i64 i]/\dq σ h'/\ft σ.bY 1 h' vC i rows/\ez FI rows ((Iw i).map (Grp.unit O))) (Tw O) ?_ ?_
 .exact .here ⟨0,_,[],aH,aH,rfl,zB σ _,ft.cb _ 1 rfl (sB _),ez.nil _⟩
 rintro m vs h' ⟨i,vC,rows,hi,rfl,rfl,H,J,G⟩
 refine Tq ?_;refine Tr (λan=>?_) λaf=>?_
 .have dd:i=Tw O:=aH
  subst dd;exact J.fin H (G.bI 0) λo cap=>hk _ ⟨Im,_,rows,by rw[hl],G⟩
 have E:i<Tw O:=aH
 have iT:(eh (Jf (Tw O) 0)).take i++[PV.int .i64 1]++(eh (Jf (Tw O) 0)).drop (i+1)=eh (Grp.unit O i):=zq (by simpa using E);have iu:(Grp.unit O i).length=Tw O:=bj
 simp only[Z3,seval,-ae,E,YT,zi,zK,iT,E4 (n:=(Tw O)) aH,zx (n:=(Tw O)) aH,UH E];refine fB.pushS (σb:=σ) (bytes:=24) (H.cb _) (J.acc.c7 (zB _ _)) rfl aH aH λv' h2 k2 U T Q l2=>?_;have V:(h'.cb (eh (Grp.unit O i))).bY=h'.bY+1:=rfl;rw[V]at T Q l2;have pD:h2.cd h'.bY=Ik (eh (Grp.unit O i)):=by rw[T _ aH (J.acc.ne (sB _)),zC,Iu rfl]
 simp only[Z3,seval,-ae,WX E];refine⟨(Tw O)-(i+1),aH,.fzh h'.bY (eh (Grp.unit O i)) pD (zO _ _) λS=>?_⟩;obtain⟨W,X,Y⟩:=ft.fzr w0 k2 U (s:=h'.bY) (cs:=eh (Grp.unit O i)) (by have:=H.bY;omega) (Q _ aH) S;refine .here ⟨i+1,v',rows++[.fz Im (.sl S 0 (Tw O) (.cm (Tw O))) (Tw O) (eh (Grp.unit O i))],aH,rfl,?_,W,?_,?_⟩
 .simp only[nD,Go.Ab.sb,Y]
 .have cV:kv (.cm (Tw O)) (Tw O)=Im:=by simp[kv]
  rwa[zBo (G.bI 0) cV]at X
 .rw[zD4];exact G.snoc ⟨Im,_,by rw[iu]⟩
def zBW(m:eQ vO vP vC O P C)(J:(Tw O)<=6)(H:∀v,hK v (qj O)->K v σ):zA Tp 34 [.agg [vO,vP,vC]] σ K:=by
 have G:=m.P.one;have h2:=m.C.one;obtain⟨⟨U,Q,rfl⟩,S,T⟩:=m;refine To Tryz.func34 ?_;simp only[Z3,seval,-ae,G,h2];refine zNv J λv E=>?_;refine Tq ?_;exact Gh.fin0 (zB σ _) (E.bel _) (H v E)
def zOX(h:u.Pairwise λa b=>fR a<fR b):(u.map fR).Nodup:=by
 rw[List.Nodup,N0];exact h.imp λh=>by omega
def zCM:∀{a b:List Nat},a.Nodup->(∀x∈a,x∈b)->(Tw a)<=Tw b
 |[],_,_,_=>YQ _
 |x::a,b,h,s=>by
  rw[Q1]at h;have m:=s x (Yp ..)
  have:=zCM (b:=b.erase x) h.2 λy E=>(List.mem_erase_of_ne (λe=>h.1 (by rw[<-e];exact E))).2 (s y (Yc _ E))
  rw[List.length_erase_of_mem m]at this
  have:=List.length_pos_of_mem m
  simp only[YF];omega
def zNe:∀{a b:List Nat},a.Nodup->(∀x∈a,x∈b)->(Tw a)=Tw b->∀x∈b,x∈a:=by
 intro a b h s e x m;rcases Classical.em (x∈a)with h1|h1
 .exact h1
 .have:=zCM (a:=x::a) (b:=b) (Q1.2 ⟨h1,h⟩) (λy hy=>by
   rcases Yq.1 hy with rfl|hy
   .exact m
   .exact s y hy)
  simp only[YF]at this;omega
def zQO(g:LG O P C)(H:zh O P C u)(Y:∀x∈L,gS O x)(Q:sA O (GC O P C L) w)(hs:∀x∈u,x∈L):(Tw u)<=Tw w/\(Tw u=(Tw w)->∀x,GC O P C L x->GC O P C u x):=by
 have F:=g.F;have E:=GC.sub F Y;have G:=GC.sub F H.1;have sub:∀d∈u.map fR,d∈w.map fR:=λd hd=>by
  obtain⟨v,m,rfl⟩:=YD.1 hd;obtain⟨v',J,h2⟩:=Q.all v (GC.mem (hs v m)) (H.2.one v m).2.1;exact YD.2 ⟨v',J,h2⟩
 have S:=zOX H.2.asc;refine⟨by have:=zCM S sub;simpa using this,λe=>?_⟩;have back:=zNe S sub (by simpa using e);have key:∀n x,(Tw O)-fR x<=n->GC O P C L x->GC O P C u x:=by
  intro n
  induction n with
  |zero=>
   intro x hx h;rw[Zb (E.inS h) aH];exact G.one
  |succ n ih=>
   intro x hx h;have V:=E.inS h;rcases YY (fR x) (Tw O) with hd|hd
   .obtain⟨v',J,h2⟩:=Q.all x h hd;obtain⟨v,m,ev⟩:=YD.1 (back (fR x) (YD.2 ⟨v',J,h2⟩));obtain⟨v1,v2,T⟩:=H.2.one v m;have U:=ZX v1;rw[ev]at U T;obtain⟨z,zS,zT,W,X⟩:=zCB g hd (ZX V) U T;have hz:GC O P C L z:=by
     rw[X];exact E.cl (E.inv (E.pw (GC.mem (hs v m)) _)) h
    have:=Grp.AX zT hd
    rw[W];exact G.cl (G.pw (GC.mem m) _) (ih z aH hz)
   .rw[Zb V hd];exact G.one
 exactλx h=>key _ x (sB _) h
def zL4(g:LG O P C)(E:eQ vO vP vC O P C)(H:gS O x)(m:gS O y)(bX:FI vx x)(Y:FI vy y)(hk:∀v,FI v (Fq O P C x y)->K v σ):zA Tp 75 [.agg [vO,vP,vC],vx,vy] σ K:=by
 have s:=g.s;have F:=g.F;have G:=F.g;have J:=E.O.one;have Q:=E.P.one;have S:=E.C.one;have T:=bX.one;have U:=Y.one;refine To Tryz.func75 ?_;simp only[Z3,seval,-ae,J,Q,S,T,U];generalize W:σ.cb [vO,vP,vC]=H1;have kH:dq σ H1:=by rw[<-W];exact zB _ _
 have r3:H1.rd σ.bY 0 3=Ik [vO,vP,vC]:=by rw[<-W];simp only[Z3,seval,-ae]
 clear W;simp only[Z3,seval,-ae,r3,J,Q,S,T,U];refine zBM s g.co E m Y λv1 f1=>?_;have o1:=f1.one;simp only[Z3,seval,-ae,r3,J,Q,S,T,U,o1];refine zV s E H m bX Y λv2 f2=>?_;have o2:=f2.one;simp only[Z3,seval,-ae,r3,J,Q,S,T,U,o1,o2];have X:=(G.inv_in m).1;refine zV s E X (G.cl H m) f1 f2 λv3 V=>?_;have o3:=V.one;simp only[Z3,seval,-ae,r3,J,Q,S,T,U,o1,o2,o3];refine Gh.fin0 kH (V.bel _) (hk _ ?_);have e:gm O P C (mE (gS O) (gm O P C) (zv O) y) (gm O P C x y)=Fq O P C x y:=G.cnj_eq H m (G.cl X (G.cl H m)) (by rw[<-G.as m X (G.cl H m),G.inv_r m,G.l1 (G.cl H m)]);rw[e]at V;exact V
section
variable{out:V2}
def zI8(g:LG O P C){H:V1->Prop}(m:gB O P C H)(G:sA O H w):∀x,H x->GC O P C w x:=by
 have F:=g.F;have E:=GC.sub F (L:=w) λx Q=>(G.one x Q).1;have key:∀n x,(Tw O)-fR x<=n->H x->GC O P C w x:=by
  intro n
  induction n with
  |zero=>
   intro x Q h;rw[Zb (m.inS h) aH];exact E.one
  |succ n ih=>
   intro x Q h;have U:=m.inS h;rcases YY (fR x) (Tw O) with hd|hd
   .obtain⟨v,J,ev⟩:=G.all x h hd;obtain⟨Y,v2,S⟩:=G.one v J;have T:=ZX Y;rw[ev]at T S;obtain⟨z,zS,zT,V,W⟩:=zCB g hd (ZX U) T S;have X:H z:=by
     rw[W];exact m.cl (m.inv (m.pw (G.mem v J) _)) h
    have:=Grp.AX zT hd
    rw[V];exact E.cl (E.pw (GC.mem J) _) (ih z aH X)
   .rw[Zb U hd];exact E.one
 exactλx h=>key _ x (sB _) h
set_option maxHeartbeats 1600000 in
def zG9(g:LG O P C)(T:eQ vO vP vC O P C)(hU:hK vU u)(hu:zh O P C u)(hB:hK vB B)(Ev:∀y∈B,gS O y)(Eu:(Tw B)<=6)
  (hk:∀v L,hK v L->(Tw L=(Tw u)↔∀y∈B,∀x∈u,GC O P C u (Fq O P C x y))->K v σ):zA Tp 32 [.agg [vO,vP,vC],vU,vB] σ K:=by
 have s:=g.s;have F:=g.F;have bB:=s.le;have g0:=T.O.one;have g1:=T.P.one;have g2:=T.C.one;obtain⟨wb,ab,rb,rfl,cn⟩:=hB;refine To Tryz.func32 ?_;simp only[Z3,seval,-ae,g0,g1,g2];generalize hH:σ.cb [vO,vP,vC]=H1;have kH:dq σ H1:=by rw[<-hH];exact zB _ _
 have nH:H1.bY=σ.bY+1:=by rw[<-hH];rfl
 have oH:H1.cd σ.bY=Ik [vO,vP,vC]:=by rw[<-hH,zC,Iu rfl]
 clear hH;refine zF (λm vs h=>∃(vo:PV) (out:V2),m=Tw O-Tw out/\vs=[.fz wb ab (Tw B) rb,.ptr σ.bY 0,vo]/\dq H1 h/\hK vo out/\zh O P C out/\(out=u\/(¬(∀y∈B,∀x∈u,GC O P C u (Fq O P C x y))/\Tw u<Tw out))) (Tw O-Tw u) ?_ ?_
 .exact⟨vU,u,rfl,rfl,dq.refl _,hU,hu,.inl rfl⟩
 rintro m vs Y ⟨vo,out,rfl,rfl,k0,fo,Q,yv⟩
 have ki:=Q.len;have EN:CV out:=⟨aH,λy G=>by have:=(Q.1 y G).len;omega⟩
 have IE:=fo;obtain⟨wo,ao,ro,rfl,jC⟩:=fo;refine Tq ?_;refine zAI IE EN λv1 h1 rows k1 p1 r1=>?_;refine Tq ?_;refine zF (λm vs h2=>∃(i:Nat) (J:PV) (rows:List PV) (A:V2),i<=Tw B/\m=Tw B-i/\vs=[.fz wb ab (Tw B) rb,.ptr σ.bY 0,.fz wo ao (Tw out) ro,J,.int .i64 i]/\dq Y h2/\ft Y.bY 1 h2 J (Tw rows) rows/\ez FI rows (out++A)/\Tw A<=6*i/\(∀x∈A,∃y∈B,∃z∈out,x=Fq O P C z y)/\(∀y∈B.take i,∀z∈out,Fq O P C z y∈A)) (Tw B) ?_ ?_
 .refine⟨0,v1,rows,[],aH,aH,rfl,k1,by rw[r1.1];exact p1,by rw[YL];exact r1,bj,λx E=>(by cases E),λy G=>(by simp at G)⟩
 clear p1 r1 k1
 rintro m vs h2 ⟨i,J,rows,A,hi,rfl,rfl,k2,p2,r2,lA,U,V⟩
 have Be:∀x∈A,gS O x:=λx E=>by
  obtain⟨y,G,z,H,rfl⟩:=U x E;exact F.g.cnj_in (Q.1 z H) (Ev y G)
 by_cases S:i<Tw B;rotate_left
 .obtain rfl:i=Tw B:=aH
  rw[YP]at V;have X:∀x∈out++A,gS O x:=λx E=>(YZ.1 E).elim (Q.1 x) (Be x);have dR:=r2.1;rw[cO]at dR;obtain⟨sl,cap,rfl,cV,q2,q3,q4,q5⟩:=p2;have FU:=k0.bY;have Nc:=k2.bY;have r4:h2.rd σ.bY 0 3=Ik [vO,vP,vC]:=by rw[zN (by rw[k2.cd _ aH,k0.cd _ aH];exact oH)];rfl
  simp only[Z3,seval,-ae,S,r4,g0,g1,g2];have sD:=cV.ok;refine zA.frz (s:=sl) (cs:=rows) q2 (r2.bI 0) λo=>?_;have bO:Go.Ab.sb sl o rows vO=vO:=ZL (YQ _) (T.O.bel 0);have bP:Go.Ab.sb sl o rows vP=vP:=ZL (YQ _) (T.P.bel 0);have bC:Go.Ab.sb sl o rows vC=vC:=ZL (YQ _) (T.C.bel 0);simp only[nD,Go.Ab.sb,bO,bP,bC,sD,and_self,if_true,mr];refine Zt (L:=out++A) g T ⟨Im,.sl o 0 (Tw rows) cap,rows,by rw[cO,dR],r2⟩ ⟨by rw[cO];omega,λy G=>by have:=(X y G).len;omega⟩ X λv L f1 hL=>?_;have kk:dq Y (h2.kill sl):=k2.kill q4;have sL:zh O P C L:=⟨λx E=>(hL.one x E).1,hL.congr λx=>⟨zI8 g (GC.sub F X) hL x,λh=>h _ (GC.sub F X) hL.mem⟩⟩
  obtain⟨l1,l2⟩:=zQO g Q X hL λx E=>Ni _ E;have f10:=f1;obtain⟨wl,al,rl,rfl,yj⟩:=f1;by_cases hlen:(Tw L)=Tw out
  .simp only[Z3,seval,-ae,hlen];have f11:hK (.fz wl al (Tw out) rl) L:=by rw[<-hlen];exact f10
   refine Gh.fin0 ((kH.trans k0).trans kk) (f11.bel _) (hk _ L f11 ?_);have all:=l2 hlen.symm;rcases yv with rfl|⟨hn,qe⟩
   .exact⟨λ_ y G x E=>all _ (GC.mem (Nj _ (V y G x E))),λ_=>hlen⟩
   .exact⟨λh=>aH,λh=>absurd h hn⟩
  .have hI:¬((Tw L:Nat):Int)=(Tw out:Int):=aH
   simp only[Z3,seval,-ae,hlen,hI];have Bn:=sL.len;refine⟨_,?_,_,L,rfl,rfl,k0.trans kk,f10,sL,.inr ?_⟩
   .omega
   .rcases yv with rfl|⟨hn,qe⟩
    .refine⟨λh=>hlen ?_,aH⟩;have e:∀x,GC O P C (out++A) x↔GC O P C out x:=λx=>⟨λE=>E _ (GC.sub F Q.1) λl hl=>(YZ.1 hl).elim GC.mem λh1=>by
      obtain⟨y,G,z,H,rfl⟩:=U l h1;exact h y G z H,λE=>E _ (GC.sub F X) λl hl=>GC.mem (Ni _ hl)⟩
     rw[(hL.congr e).unique s F (GC.sub F Q.1) Q.2]
    .exact⟨hn,aH⟩
 obtain⟨wy,ay,tX⟩:=cn.rowI S;have ah:(i:Int)<(Tw B:Int):=aH
 have my:=ss S;have yS:=Ev _ my;have tk:B.take (i+1)=B.take i++[B[i]]:=YV S;have wi:Tu .i64 ((i:Int)+1)=((i+1:Nat):Int):=lG S aH;simp only[Z3,seval,-ae,S];refine zF (λm vs h3=>∃(j:Nat) (J:PV) (rows:List PV) (A':V2),j<=Tw out/\m=Tw out-j/\vs=[.fz wb ab (Tw B) rb,.ptr σ.bY 0,.fz wo ao (Tw out) ro,J,.int .i64 i,.int .i64 j]/\dq Y h3/\ft Y.bY 1 h3 J (Tw rows) rows/\ez FI rows (out++A')/\Tw A'<=6*i+j/\(∀x∈A',∃y∈B,∃z∈out,x=Fq O P C z y)/\(∀y∈B.take i,∀z∈out,Fq O P C z y∈A')/\(∀z∈out.take j,Fq O P C z B[i]∈A')) (Tw out) ?_ ?_
 .exact⟨0,J,rows,A,aH,aH,rfl,k2,p2,r2,aH,U,V,λz H=>(by simp at H)⟩
 clear p2 r2 k2 lA U V Be A rows J
 rintro m vs h3 ⟨j,J,rows,A,hj,rfl,rfl,k3,p3,r3,lA,U,V,a3⟩
 have dR:=r3.1;rw[cO]at dR;by_cases W:j<Tw out;rotate_left
 .obtain rfl:j=Tw out:=aH
  rw[YP]at a3;simp only[Z3,seval,-ae,W,wi];refine⟨_,aH,i+1,J,rows,A,aH,rfl,rfl,k3,p3,r3,aH,U,λy G z H=>?_⟩;rw[tk]at G;rcases YZ.1 G with h|h
  .exact V y h z H
  .rw[YW.1 h];exact a3 z H
 obtain⟨wz,az,tW⟩:=jC.rowI W;have jP:(j:Int)<(Tw out:Int):=aH
 have mz:=ss W;have zS:=Q.1 _ mz;have FU:=k0.bY;have r4:h3.rd σ.bY 0 3=Ik [vO,vP,vC]:=by rw[zN (by rw[k3.cd _ aH,k0.cd _ aH];exact oH)];rfl
 have wj:Tu .i64 ((j:Int)+1)=((j+1:Nat):Int):=lG W aH;simp only[Z3,seval,-ae,W,jP,S,ah,tW,tX,r4,g0,g1,g2];refine zL4 g T zS yS ⟨wz,az,rfl⟩ ⟨wy,ay,rfl⟩ λv4 f4=>?_;have f40:=f4;obtain⟨w4,a4,rfl⟩:=f4;simp only[Z3,seval,-ae,W,jP,S,ah,tW,tX,r4,g0,g1,g2];refine fB.push (σb:=Y) (bytes:=24) k3 p3.acc aH aH λv' h5 k5 p5=>?_;simp only[Z3,seval,-ae,wj];refine⟨_,aH,j+1,v',rows++[.fz w4 a4 (Fq O P C out[j] B[i]).length (eh (Fq O P C out[j] B[i]))],A++[Fq O P C out[j] B[i]],aH,rfl,rfl,k5,by rw[cO];exact p5,by rw[<-YH];exact r3.snoc f40,by rw[cO];simp;omega,λx E=>?_,λy G z H=>Ni _ (V y G z H),λz H=>?_⟩
 .rcases YZ.1 E with h|h
  .exact U x h
  .exact⟨_,my,_,mz,YW.1 h⟩
 .rw[YV W]at H;rcases YZ.1 H with h|h
  .exact Ni _ (a3 z h)
  .rw[YW.1 h];exact Nj _ (YW.2 rfl)
end
section
variable{out:V2}
def zCC:∀{a b:List Nat},a.Pairwise (· < ·)->b.Pairwise (· < ·)->(∀x∈a,x∈b)->(Tw a)<=Tw b
 |[],_,_,_,_=>YQ _
 |x::a,[],_,_,h=>by cases h x (Yp ..)
 |x::a,y::b,ha,hb,h=>by
  rw[Sp]at ha hb;have E:=hb.2;by_cases e:x=y
  .subst e
   have:=zCC ha.2 E λz m=>by
    rcases Yq.1 (h z (Yc _ m))with g|g
    .have:=ha.1 z m;omega
    .exact g
   simp only[YF];omega
  .have:=zCC (a:=x::a) (b:=b) (Sp.2 ha) E λz m=>by
    rcases Yq.1 (h z m)with g|g
    .subst g;rcases Yq.1 m with g|g
     .exact absurd g.symm e
     .have h1:=ha.1 z g;rcases Yq.1 (h x (Yp ..))with g2|g2
      .exact absurd g2 e
      .have:=hb.1 x g2;omega
    .exact g
   simp only[YF]at this ⊢;omega
def WSeq.le_of(E:WSeq O u)(G:WSeq O w)(h:∀x∈u,∃y∈w,fR y=fR x):(Tw u)<=Tw w:=by
 have:=zCC (N0.2 E.ord) (N0.2 G.ord) λd m=>by
  obtain⟨x,H,rfl⟩:=YD.1 m;obtain⟨y,J,e⟩:=h x H;exact YD.2 ⟨y,J,e⟩
 simpa using this
set_option maxHeartbeats 1600000 in
def zJx(s:kC O P C)(hp:∀o∈O,pR o)(G:eQ vO vP vC O P C)(hU:hK vU u)(hu:WSeq O u)(hB:hK vB B)(Ev:∀y∈B,gS O y)(Eu:(Tw B)<=6)
  (hk:∀v L,hK v L->WSeq O L->K v σ):zA Tp 32 [.agg [vO,vP,vC],vU,vB] σ K:=by
 have bB:=s.le;have X:=G.O.one;have Y:=G.P.one;have g2:=G.C.one;obtain⟨wb,ab,rb,rfl,cn⟩:=hB;refine To Tryz.func32 ?_;simp only[Z3,seval,-ae,X,Y,g2];generalize hH:σ.cb [vO,vP,vC]=H1;have kH:dq σ H1:=by rw[<-hH];exact zB _ _
 have nH:H1.bY=σ.bY+1:=by rw[<-hH];rfl
 have oH:H1.cd σ.bY=Ik [vO,vP,vC]:=by rw[<-hH,zC,Iu rfl]
 clear hH;refine zF (λm vs h=>∃(vo:PV) (out:V2),m=Tw O-Tw out/\vs=[.fz wb ab (Tw B) rb,.ptr σ.bY 0,vo]/\dq H1 h/\hK vo out/\WSeq O out) (Tw O-Tw u) ?_ ?_
 .exact⟨vU,u,rfl,rfl,dq.refl _,hU,hu⟩
 rintro m vs S ⟨vo,out,rfl,rfl,T,fo,so⟩
 have ki:=so.le;have oS:∀y∈out,gS O y:=λy U=>(so.mem y U).1;have EN:CV out:=⟨aH,λy U=>by have:=(oS y U).len;omega⟩
 have IE:=fo;obtain⟨wo,ao,ro,rfl,jC⟩:=fo;refine Tq ?_;refine zAI IE EN λv1 h1 rows k1 p1 r1=>?_;refine Tq ?_;refine zF (λm vs h2=>∃(i:Nat) (E:PV) (rows:List PV) (A:V2),i<=Tw B/\m=Tw B-i/\vs=[.fz wb ab (Tw B) rb,.ptr σ.bY 0,.fz wo ao (Tw out) ro,E,.int .i64 i]/\dq S h2/\ft S.bY 1 h2 E (Tw rows) rows/\ez FI rows (out++A)/\Tw A<=6*i/\(∀x∈A,gS O x)) (Tw B) ?_ ?_
 .exact⟨0,v1,rows,[],aH,aH,rfl,k1,by rw[r1.1];exact p1,by rw[YL];exact r1,bj,λx H=>(by cases H)⟩
 clear p1 r1 k1
 rintro m vs h2 ⟨i,E,rows,A,hi,rfl,rfl,V,p2,r2,lA,Be⟩
 by_cases J:i<Tw B;rotate_left
 .obtain rfl:i=Tw B:=aH
  have gL:∀x∈out++A,gS O x:=λx H=>(YZ.1 H).elim (oS x) (Be x);have W:=r2.1;rw[cO]at W;obtain⟨sl,cap,rfl,cV,q2,q3,q4,q5⟩:=p2;have FU:=T.bY;have Nc:=V.bY;have r4:h2.rd σ.bY 0 3=Ik [vO,vP,vC]:=by rw[zN (by rw[V.cd _ aH,T.cd _ aH];exact oH)];rfl
  simp only[Z3,seval,-ae,J,r4,X,Y,g2];have sD:=cV.ok;refine zA.frz (s:=sl) (cs:=rows) q2 (r2.bI 0) λo=>?_;have bO:Go.Ab.sb sl o rows vO=vO:=ZL (YQ _) (G.O.bel 0);have bP:Go.Ab.sb sl o rows vP=vP:=ZL (YQ _) (G.P.bel 0);have bC:Go.Ab.sb sl o rows vC=vC:=ZL (YQ _) (G.C.bel 0);simp only[nD,Go.Ab.sb,bO,bP,bC,sD,and_self,if_true,mr];refine zFY (L:=out++A) s hp G ⟨Im,.sl o 0 (Tw rows) cap,rows,by rw[cO,W],r2⟩ ⟨by rw[cO];omega,λy U=>by have:=(gL y U).len;omega⟩ gL λv L f1 hL cL=>?_;have kk:dq S (h2.kill sl):=V.kill q4;have l1:=so.le_of hL λx H=>cL x (Ni _ H) (so.mem x H).2.1;have uy:=hL.le;have f10:=f1;obtain⟨wl,al,rl,rfl,yj⟩:=f1;by_cases hlen:(Tw L)=Tw out
  .simp only[Z3,seval,-ae,hlen];have f11:hK (.fz wl al (Tw out) rl) L:=by rw[<-hlen];exact f10
   exact Gh.fin0 ((kH.trans T).trans kk) (f11.bel _) (hk _ L f11 hL)
  .have hI:¬((Tw L:Nat):Int)=(Tw out:Int):=aH
   simp only[Z3,seval,-ae,hlen,hI];exact⟨_,aH,_,L,rfl,rfl,T.trans kk,f10,hL⟩
 obtain⟨wy,ay,tX⟩:=cn.rowI J;have ah:(i:Int)<(Tw B:Int):=aH
 have my:=ss J;have yS:=Ev _ my;have wi:Tu .i64 ((i:Int)+1)=((i+1:Nat):Int):=lG J aH;simp only[Z3,seval,-ae,J];refine zF (λm vs h3=>∃(j:Nat) (E:PV) (rows:List PV) (A':V2),j<=Tw out/\m=Tw out-j/\vs=[.fz wb ab (Tw B) rb,.ptr σ.bY 0,.fz wo ao (Tw out) ro,E,.int .i64 i,.int .i64 j]/\dq S h3/\ft S.bY 1 h3 E (Tw rows) rows/\ez FI rows (out++A')/\Tw A'<=6*i+j/\(∀x∈A',gS O x)) (Tw out) ?_ ?_
 .exact⟨0,E,rows,A,aH,aH,rfl,V,p2,r2,aH,Be⟩
 clear p2 r2 V lA Be A rows E
 rintro m vs h3 ⟨j,E,rows,A,hj,rfl,rfl,k3,p3,r3,lA,a1⟩
 have W:=r3.1;rw[cO]at W;by_cases Q:j<Tw out;rotate_left
 .obtain rfl:j=Tw out:=aH
  simp only[Z3,seval,-ae,Q,wi];exact⟨_,aH,i+1,E,rows,A,aH,rfl,rfl,k3,p3,r3,aH,a1⟩
 obtain⟨wz,az,tW⟩:=jC.rowI Q;have jP:(j:Int)<(Tw out:Int):=aH
 have zS:=oS _ (ss Q);have FU:=T.bY;have r4:h3.rd σ.bY 0 3=Ik [vO,vP,vC]:=by rw[zN (by rw[k3.cd _ aH,T.cd _ aH];exact oH)];rfl
 have wj:Tu .i64 ((j:Int)+1)=((j+1:Nat):Int):=lG Q aH;simp only[Z3,seval,-ae,Q,jP,J,ah,tW,tX,r4,X,Y,g2];refine zGh s G zS yS ⟨wz,az,rfl⟩ ⟨wy,ay,rfl⟩ λv4 c4 f4 cS=>?_;have f40:=f4;obtain⟨w4,a4,rfl⟩:=f4;simp only[Z3,seval,-ae,Q,jP,J,ah,tW,tX,r4,X,Y,g2];refine fB.push (σb:=S) (bytes:=24) k3 p3.acc aH aH λv' h5 k5 p5=>?_;simp only[Z3,seval,-ae,wj];refine⟨_,aH,j+1,v',rows++[.fz w4 a4 (Tw c4) (eh c4)],A++[c4],aH,rfl,rfl,k5,by rw[cO];exact p5,by rw[<-YH];exact r3.snoc f40,by rw[cO];simp;omega,λx H=>?_⟩;rcases YZ.1 H with h|h
 .exact a1 x h
 .rw[YW.1 h];exact cS
end
section
variable{b:Nat}
def Qo(so:So σ s0 vS bs)(T:eQ vO vP vC O P C)(s:kC O P C)(hk:∀v x σ',FI v x->gS O x->Mv σ s0 σ'->So σ' s0 vS bs->K v σ'):zA Tp 24 [.ptr s0 0,.agg [vO,vP,vC]] σ K:=by
 have bD:=so.lt;have g0:=T.O.one;have g1:=T.P.one;have g2:=T.C.one;have bB:=s.le;obtain⟨⟨wO,V,rfl⟩,_,_⟩:=T;refine To Tryz.func24 ?_;simp only[Z3,seval,-ae,g0,g1,g2];generalize Q:σ.cb [PV.fz wO V (Tw O) (eh O),vP,vC]=H;have eG:H.bY=σ.bY+1:=by rw[<-Q];rfl
 have E:s0<H.bY:=aH
 have bK:H.cd σ.bY=Ik [PV.fz wO V (Tw O) (eh O),vP,vC]:=by rw[<-Q];simp only[Z3,seval,-ae]
 have kK:KM σ s0 H:=by rw[<-Q];exact so.kmK (zB _ _)
 have jG:So H s0 vS bs:=by rw[<-Q];exact so.c7 (zB _ _)
 clear Q;have rO:∀{g:dj},KM H s0 g->g.gv σ.bY 0=Ik (.fz wO V (Tw O) (eh O)):=λ{g} km=>by rw[zH (by rw[km.cd aH aH];exact bK)];rfl
 refine zF (λm vs h=>∃(i:Nat) (v:PV) (x:V1),i<=Tw O/\m=Tw O-i/\vs=[.ptr s0 0,.ptr σ.bY 0,v,.int .i64 i]/\Tw x=i/\(∀j,j<i->0<=at_ x j/\at_ x j<at_ O j)/\KM H s0 h/\So h s0 vS bs/\ft H.bY 1 h v (Tw x) (eh x)) (Tw O) ?_ ?_
 .exact⟨0,_,[],YQ _,rfl,rfl,rfl,λj U=>absurd U (Jv _),jG.km.cb _,jG.c7 (zB _ _),ft.own (n:=0) (.inr rfl) (by rw[zC,Iu eG.symm];rfl) rfl aH (by show σ.bY+1<H.bY+1;omega)⟩
 rintro m vs h ⟨i,v,x,hi,rfl,rfl,W,DX,km,fC,pa⟩
 have J:=pa.one;simp only[Z3,seval,-ae,J,rO km];refine fi (λG=>?_) λan=>?_
 .have ah:(i:Int)<(Tw O:Int):=aH
  have gx:(eh O)[i]? = Ik (.int .i64 O[i]):=by rw[zJ,gi G];rfl
  have ob:=s.pr i G;have eO:at_ O i=O[i]:=gj G;have wi:=WX G;simp only[Z3,seval,-ae,J,rO km,G,ah,gx];refine zQ (n:=O[i]) fC aH λy g hy m2 ca=>?_;have de:=km.mv E m2;have xA:=ft.mv' pa E m2;have y0:=hy.1;have y1:=hy.lt aH;simp only[Z3,seval,-ae,J];refine zQ (n:=3) ca Tx λz g' hz m3 cX=>?_;have fE:=de.mv E m3;have uM:=ft.mv' xA E m3;have fin:∀y:Int,0<=y->y<O[i]->∀j,j<i+1->0<=at_ (x++[y]) j/\at_ (x++[y]) j<at_ O j:=λy a b j U=>by
   rcases YY j i with q|q
   .have e:at_ (x++[y]) j=at_ x j:=by rw[gj (by rw[cO];omega),gj aH,Uj aH]
    rw[e];exact DX j q
   .obtain rfl:j=i:=aH
    have e:at_ (x++[y]) j=y:=by rw[gj (by rw[cO,Yk];omega),Uq aH];simp
    rw[e,eO];exact⟨a,b⟩
  by_cases z0:z=0
  .simp only[Z3,seval,-ae,z0,J];refine ft.pushKM uM aH fE cX E λv2 h2 Y X S=>?_;have h3:=S.one;simp only[Z3,seval,-ae,h3,wi];exact⟨_,aH,i+1,v2,x++[0],aH,rfl,rfl,by rw[cO,W];rfl,fin 0 aH aH,Y,X,S⟩
  .simp only[Z3,seval,-ae,z0,J];refine ft.pushKM uM aH fE cX E λv2 h2 Y X S=>?_;have h3:=S.one;simp only[Z3,seval,-ae,h3,wi];exact⟨_,aH,i+1,v2,x++[y],aH,rfl,rfl,by rw[cO,W];rfl,fin y y0 y1,Y,X,S⟩
 have dd:i=Tw O:=aH
 subst dd;exact ft.finKM pa aH (kK.trans bD km) fC bD λw σ' hw m' jH=>hk w x σ' hw ⟨W,DX,λj U=>absurd U (Jv _)⟩ m' jH
def zL1(V:So σ s0 vS bs)(G:eQ vO vP vC O P C)(s:kC O P C)(hp:∀o∈O,pR o)(hk:∀v u σ',hK v u->WSeq O u->Mv σ s0 σ'->So σ' s0 vS bs->K v σ'):zA Tp 33 [.ptr s0 0,.agg [vO,vP,vC]] σ K:=by
 have X:=V.lt;have o1:=G.O.one;have o2:=G.P.one;have o3:=G.C.one;have bB:=s.le;refine To Tryz.func33 ?_;simp only[Z3,seval,-ae,o1,o2,o3];generalize E:σ.cb [vO,vP,vC]=T;have A3:T.bY=σ.bY+1:=by rw[<-E];rfl
 have H:s0<T.bY:=aH
 have mL:T.cd σ.bY=Ik [vO,vP,vC]:=by rw[<-E];simp only[Z3,seval,-ae]
 have kK:KM σ s0 T:=by rw[<-E];exact V.kmK (zB _ _)
 have xu:So T s0 vS bs:=by rw[<-E];exact V.c7 (zB _ _)
 clear E;rw[<-A3];have rT:∀{g:dj},KM T s0 g->g.rd σ.bY 0 3=Ik [vO,vP,vC]:=λ{g} km=>by rw[zN (by rw[km.cd aH aH];exact mL)];rfl
 have I:∃I:Nat->List PV->dj->Prop,I=λm vs h=>∃(x:Nat) (v:PV) (rows:List PV) (L:V2),m=x/\vs=[.ptr s0 0,.ptr σ.bY 0,v,.int .i64 x]/\Tw L+x<=4/\(∀y∈L,gS O y)/\ez FI rows L/\KM T s0 h/\So h s0 vS bs/\(x=0/\hK v L\/x≠0/\ft T.bY 1 h v (Tw L) rows):=⟨_,rfl⟩
 obtain⟨I,Q⟩:=I;have enter:∀{g:dj} {x:Nat} {v:PV} {rows:List PV} {L:V2},(Tw L)+x<=4->(∀y∈L,gS O y)->ez FI rows L->KM T s0 g->So g s0 vS bs->ft T.bY 1 g v (Tw L) rows->GL (I x) [.ptr s0 0,.ptr σ.bY 0,v,.int .i64 x] g:=λ{g x v rows L} h1 h2 J h4 h5 h6=>by
  by_cases hx:x=0
  .subst hx;obtain⟨s,cap,rfl,q1,q2,q3,q4,q5⟩:=h6;refine .fz s rows q2 (J.bI 0) λo=>.here ?_;rw[Q];refine⟨0,.fz Im (.sl o 0 (Tw L) cap) (Tw L) rows,rows,L,rfl,?_,h1,h2,J,h4.kill q4,h5.kill aH,.inl ⟨rfl,⟨Im,_,rows,rfl,J⟩⟩⟩;simp only[nD,sb,q1.ok,and_self,if_true]
  .refine .here ?_;rw[Q];exact⟨x,v,rows,L,rfl,rfl,h1,h2,J,h4,h5,.inr ⟨hx,h6⟩⟩
 have FK:=xu.km.cb [];have ES:=xu.c7 (zB T []);have Fi:ft T.bY 1 (T.cb []) (.sl T.bY 0 0 (.cm 0)) 0 []:=ft.own (n:=0) (.inr rfl) (by rw[zC,Iu rfl]) rfl (sB _) (YB _);refine zQ (n:=4) ES Tx λc g hc m2 ca=>?_;have de:=FK.mv H m2;have xA:=ft.mv' Fi H m2;have c0:=hc.1;have c4:=hc.lt Tx;obtain⟨d,rfl⟩:∃d:Nat,c=(d:Int):=⟨c.toNat,aH⟩
 refine Tq ?_;refine qF I d (by exact enter (L:=[]) (by simp;omega) (λy hy=>by cases hy) (ez.nil _) de ca xA) ?_;intro m vs g xm;rw[Q]at xm;obtain⟨x,v,rows,L,rfl,rfl,du,U,ai,km,nL,hv⟩:=xm;rcases hv with ⟨Y,hL⟩|⟨Y,pa⟩;rotate_left
 .have p1:=pa.one;have aM:(0:Int)<((m:Nat):Int):=aH
  have wx:Tu .i64 ((m:Int)-1)=((m-1:Nat):Int):=WQ
  simp only[Z3,seval,-ae,aM,p1,rT km];refine Qo nL G s λvy y g3 S u5 m7 sH=>?_;have uZ:=km.mv H m7;have Fj:=ft.mv' pa H m7;have y1:=S.one;have y2:vy.cells=[vy]:=by obtain⟨w5,a5,rfl⟩:=S;rfl
  simp only[Z3,seval,-ae,p1,y1,y2];refine ft.pushR Fj aH uZ sH H λv2 h2 FM Bm W=>?_;have p2:=W.one;simp only[Z3,seval,-ae,p2,wx];have mC:(L++[y]).length=Tw L+1:=bj
  refine⟨m-1,aH,enter (L:=L++[y]) aH (λz hz=>?_) (ai.snoc S) FM Bm (by rw[mC];exact W)⟩;rcases YZ.1 hz with hz|hz
  .exact U z hz
  .rw[YW.1 hz];exact u5
 subst Y;have l1:=hL.one;have eY:¬((0:Int)<((0:Nat):Int)):=by decide
 simp only[Z3,seval,-ae,l1,eY,rT km];refine zFY s hp G hL ⟨aH,λz hz=>by have:=(U z hz).len;omega⟩ U λvu u fu wu _=>?_;refine Tq ?_;exact Gh.km (kK.trans X km) nL X λσ' m' jH kp=>Gh.fin0 kp (fu.bel _) (hk vu u σ' fu wu m' jH)
end
section
variable{b:Nat}{D:List (Option V1)}
def zMD(hn:(Tw O)<=6)(hk:∀v h' rows,dq σ h'->ft σ.bY 1 h' v (Tw O) rows->ez FI rows (qj O)->K v h'):zA Tp 81 [.int .i64 (Tw O)] σ K:=by
 refine zA.pwf λw0=>zA.gh ?_;refine Tn Tryz.func81 ?_;refine Tq ?_;refine qF (λm vs h'=>∃(i:Nat) (vC:PV) (rows:List PV),i<=Tw O/\m=Tw O-i/\vs=[.int .i64 (Tw O),vC,.int .i64 i]/\dq σ h'/\ft σ.bY 1 h' vC i rows/\ez FI rows ((Iw i).map (Grp.unit O))) (Tw O) ?_ ?_
 .exact .here ⟨0,_,[],aH,aH,rfl,zB σ _,ft.cb _ 1 rfl (sB _),ez.nil _⟩
 rintro m vs h' ⟨i,vC,rows,hi,rfl,rfl,G,J,H⟩
 refine Tq ?_;refine Tr (λan=>?_) λaf=>?_
 .have dd:i=Tw O:=aH
  subst dd;exact Gh.ret (hk _ _ rows G J H)
 have E:i<Tw O:=aH
 have iT:(eh (Jf (Tw O) 0)).take i++[PV.int .i64 1]++(eh (Jf (Tw O) 0)).drop (i+1)=eh (Grp.unit O i):=zq (by simpa using E);have iu:(Grp.unit O i).length=Tw O:=bj
 simp only[Z3,seval,-ae,E,YT,zi,zK,iT,E4 (n:=(Tw O)) aH,zx (n:=(Tw O)) aH,UH E];refine fB.pushS (σb:=σ) (bytes:=24) (G.cb _) (J.acc.c7 (zB _ _)) rfl aH aH λv' h2 k2 U T Q l2=>?_;have V:(h'.cb (eh (Grp.unit O i))).bY=h'.bY+1:=rfl;rw[V]at T Q l2;have pD:h2.cd h'.bY=Ik (eh (Grp.unit O i)):=by rw[T _ aH (J.acc.ne (sB _)),zC,Iu rfl]
 simp only[Z3,seval,-ae,WX E];refine⟨(Tw O)-(i+1),aH,.fzh h'.bY (eh (Grp.unit O i)) pD (zO _ _) λS=>?_⟩;obtain⟨W,X,Y⟩:=ft.fzr w0 k2 U (s:=h'.bY) (cs:=eh (Grp.unit O i)) (by have:=G.bY;omega) (Q _ aH) S;refine .here ⟨i+1,v',rows++[.fz Im (.sl S 0 (Tw O) (.cm (Tw O))) (Tw O) (eh (Grp.unit O i))],aH,rfl,?_,W,?_,?_⟩
 .simp only[nD,Go.Ab.sb,Y]
 .have cV:kv (.cm (Tw O)) (Tw O)=Im:=by simp[kv]
  rwa[zBo (H.bI 0) cV]at X
 .rw[zD4];exact H.snoc ⟨Im,_,by rw[iu]⟩
def zJy(m:eQ vO vP vC O P C)(J:(Tw O)<=6)(H:∀v h' rows,dq σ h'->ft σ.bY 1 h' v (Tw O) rows->ez FI rows (qj O)->K v h'):zA Tp 34 [.agg [vO,vP,vC]] σ K:=by
 have G:=m.P.one;have h2:=m.C.one;obtain⟨⟨Y,E,rfl⟩,jU,jV⟩:=m;refine Tn Tryz.func34 ?_;simp only[Z3,seval,-ae,G,h2];refine zMD J λv h' rows S T Q=>?_;refine Tq ?_;refine H v h' rows ((zB σ _).trans S) ?_ Q;obtain⟨s,cap,rfl,U,V,W,q4,X⟩:=T;exact⟨s,cap,rfl,U,V,W,by have:(σ.cb [.fz Y E (Tw O) (eh O),vP,vC]).bY=σ.bY+1:=rfl;omega,X⟩
def zC3(s:kC O P C)(E:eQ vO vP vC O P C)(hU:hK vU u)(iu:(Tw u)<=1000)(hu:∀x∈u,gS O x)(ha:FI va a)(lu:(Tw a)=Tw u)(rV:∀j,j<Tw u->-1000<=at_ a j/\at_ a j<=1000)
  (hk:∀v x,FI v x->gS O x->K v σ):zA Tp 74 [.agg [vO,vP,vC],vU,va] σ K:=by
 have bB:=s.le;have H:=E.O.one;have J:=E.P.one;have Q:=E.C.one;obtain⟨wU,X,rU,rfl,tZ⟩:=hU;obtain⟨wa,Y,rfl⟩:=ha;refine To Tryz.func74 ?_;simp only[Z3,seval,-ae,H,J,Q];generalize S:σ.cb [vO,vP,vC]=H';have kH:dq σ H':=by rw[<-S];exact zB _ _
 have r3:H'.rd σ.bY 0 3=Ik [vO,vP,vC]:=by rw[<-S];simp only[Z3,seval,-ae]
 clear S;simp only[Z3,seval,-ae,r3,H,J,Q];refine QX E aH λv0 f0=>?_;refine Tq ?_;refine zF (λm vs h=>∃(i:Nat) (vx:PV) (x:V1),i<=Tw u/\m=Tw u-i/\vs=[.fz wU X (Tw u) rU,.fz wa Y (Tw a) (eh a),.ptr σ.bY 0,vx,.int .i64 i]/\h=H'/\FI vx x/\gS O x) (Tw u) ?_ ?_
 .exact⟨0,v0,_,YQ _,rfl,rfl,rfl,f0,s.zv _⟩
 rintro m vs h ⟨i,vx,x,hi,rfl,rfl,rfl,fx,U⟩
 refine Tq ?_;refine Tr (λan=>?_) λG=>?_
 .exact Gh.fin0 kH (fx.bel _) (hk _ _ fx U)
 have ah:(i:Int)<(Tw u:Int):=aH
 have yF:(i:Int)<(Tw a:Int):=aH
 have T:i<Tw a:=aH
 have mem:=ss G;obtain⟨w5,W,h5⟩:=tZ.rowI G;have ga:(eh a)[i]? = Ik (.int .i64 a[i]):=by rw[zJ,gi T];rfl
 have b:=rV i G;have ea:at_ a i=a[i]:=gj T;rw[ea]at b;simp only[Z3,seval,-ae,G,ah,yF,T,h5,ga,r3,H,J,Q];refine Z7 s E (hu _ mem) ⟨w5,W,rfl⟩ b λv1 y f1 V _=>?_;simp only[Z3,seval,-ae,r3,H,J,Q];refine zV s E U V fx f1 λv2 f2=>?_;simp only[Z3,seval,-ae,WX G];exact⟨_,aH,i+1,v2,_,aH,rfl,rfl,f2,vr s U V⟩
def th.row(h:ez (th n) rb D){d:Nat}(m:d<Tw D):∃w a xs,rb[d]? = Ik (.fz w a (Tw xs) (eh xs))/\Tw xs<=n:=by
 rcases th.get h m with ⟨e,_⟩|⟨w,a,y,e,E,_⟩
 .exact⟨Im,.cU,[],e,YQ _⟩
 grind
def zFQ(s:kC O P C)(E:gS O x){N:Nat}(G:(N:Int)=jW O (Tw O)):∃d:Nat,ja O x (Tw O)=(d:Int)/\d<N:=by
 have:=ZK s.pr (λj m=>E.bd j m) (sB _)
 exact⟨(ja O x (Tw O)).toNat,aH,aH⟩
set_option maxHeartbeats 1600000 in
def zLr(so:So σ s0 vS bs)(hR:eQ vO vP vC O P C)(s:kC O P C)(hk:∀W wP wC P' C' σ',eQ W wP wC O P' C'->GP (λm=>m<=Tw O) P' C' (Tw O) (Tw O) (λj=>(Tw O)-1-j)->Mv σ s0 σ'->So σ' s0 vS bs->K (.agg [W,wP,wC]) σ'):zA Tp 29 [.ptr s0 0,.agg [vO,vP,vC]] σ K:=by
 have bD:=so.lt;have g0:=hR.O.one;have J:=hR.P.one;have Q:=hR.C.one;have bB:=s.le;have V:=hR;obtain⟨⟨W,aO,rfl⟩,_,_⟩:=hR;obtain⟨n,hn⟩:∃n,n=Tw O:=⟨_,rfl⟩
 refine zA.gh ?_;refine ZY mix Tryz.func29 ?_;simp only[Z3,seval,-ae,g0,J,Q];generalize hH:(σ.cb [PV.fz W aO (Tw O) (eh O),vP,vC]).cb [Tt,Tt,Tt]=H;have eG:H.bY=σ.bY+2:=by rw[<-hH];rfl
 have dP:s0<H.bY:=aH
 have bK:H.cd σ.bY=Ik [PV.fz W aO (Tw O) (eh O),vP,vC]:=by rw[<-hH];simp only[Z3,seval,-ae]
 have cM:H.cd (σ.bY+1)=Ik [Tt,Tt,Tt]:=by rw[<-hH];simp only[Z3,seval,-ae]
 have kK:KM σ s0 H:=by rw[<-hH];exact so.kmK ((zB _ _).cb _)
 have jG:So H s0 vS bs:=by rw[<-hH];exact so.c7 ((zB _ _).cb _)
 have e3:H.rd σ.bY 0 3=Ik [PV.fz W aO (Tw O) (eh O),vP,vC]:=by rw[zN bK];rfl
 have e0:H.gv σ.bY 0=Ik (.fz W aO (Tw O) (eh O)):=by rw[zH bK];rfl
 clear hH;have r3:∀{g:dj},KM H s0 g->g.rd σ.bY 0 3=Ik [PV.fz W aO (Tw O) (eh O),vP,vC]:=λ{g} km=>by rw[zN (by rw[km.cd aH aH];exact bK)];rfl
 have rO:∀{g:dj},KM H s0 g->g.gv σ.bY 0=Ik (.fz W aO (Tw O) (eh O)):=λ{g} km=>by rw[zH (by rw[km.cd aH aH];exact bK)];rfl
 simp only[Z3,seval,-ae,e0,e3,J,Q];refine zJy V bB λvI h1 rI mN pI Ny=>?_;have iR:KM H s0 h1:=jG.kmK mN;have fC:=jG.c7 mN;have MD:=pI.one;have Oz:(qj O).length=Tw O:=by simp[qj]
 have OA:∀y∈qj O,gS O y:=λy hy=>by
  obtain⟨i,hi,rfl⟩:=YD.1 hy;exact s.unit (Yd.1 hi) (YQ _)
 simp only[Z3,seval,-ae,MD];have I:∃I:Nat->List PV->dj->Prop,I=λm vs h=>∃(i:Nat) (v:PV) (rows:List PV) (M:V2),i<=Tw O/\m=Tw O-i/\vs=[.ptr s0 0,.ptr σ.bY 0,.ptr (σ.bY+1) 0,.int .i64 (Tw O),v,.int .i64 i]/\Tw M=(Tw O)/\(∀y∈M,gS O y)/\ez FI rows M/\KM H s0 h/\So h s0 vS bs/\(i=Tw O/\hK v M\/i<Tw O/\ft H.bY 1 h v (Tw O) rows):=⟨_,rfl⟩
 obtain⟨I,hI⟩:=I;have enter:∀{g:dj} {i:Nat} {v:PV} {rows:List PV} {M:V2},i<=Tw O->(Tw M)=Tw O->(∀y∈M,gS O y)->ez FI rows M->KM H s0 g->So g s0 vS bs->ft H.bY 1 g v (Tw O) rows->GL (I (Tw O-i)) [.ptr s0 0,.ptr σ.bY 0,.ptr (σ.bY+1) 0,.int .i64 (Tw O),v,.int .i64 i] g:=λ{g i v rows M} hi h1 h2 h3 h4 h5 h6=>by
  by_cases hx:i=Tw O
  .obtain⟨s,cap,rfl,q1,q2,q3,q4,q5⟩:=h6;refine .fz s rows q2 (h3.bI 0) λo=>.here ?_;rw[hI];refine⟨i,.fz Im (.sl o 0 (Tw O) cap) (Tw O) rows,rows,M,hi,rfl,?_,h1,h2,h3,h4.kill q4,h5.kill aH,.inl ⟨hx,⟨Im,_,rows,by rw[h1],h3⟩⟩⟩;simp only[nD,sb,q1.ok,and_self,if_true]
  .refine .here ?_;grind
 refine qF I (Tw O) (by exact enter (i:=0) (YQ _) Oz OA Ny iR fC pI) ?_;intro m vs g xm;rw[hI]at xm;obtain⟨i,vI,rI,M,hi,rfl,rfl,oe,oi,ai,km,ca,hv⟩:=xm;have wi:∀{i:Nat},i<Tw O->Tu .i64 ((i:Int)+1)=((i+1:Nat):Int):=λ{i} hi=>by rw[mn aH aH];omega
 rcases hv with ⟨dd,hM⟩|⟨E,pa⟩;rotate_left
 .have U:=pa.one;have Y:(i:Int)<(Tw O:Int):=aH
  simp only[Z3,seval,-ae,Y,U,r3 km,J,Q];refine QX V aH λv0 f0=>?_;have KU:=f0.one;simp only[Z3,seval,-ae,U,KU];refine zF (λm vs h=>∃(j:Nat) (vx:PV) (x:V1),i<=j/\j<=Tw O/\m=Tw O-j/\vs=[.ptr s0 0,.ptr σ.bY 0,.ptr (σ.bY+1) 0,.int .i64 (Tw O),vI,.int .i64 i,vx,.int .i64 j]/\FI vx x/\gS O x/\KM H s0 h/\So h s0 vS bs/\ft H.bY 1 h vI (Tw O) rI) (Tw O-i) ?_ ?_
  .exact⟨i,v0,_,sB _,aH,rfl,rfl,f0,s.zv _,km,ca,pa⟩
  clear km ca pa U KU f0 v0
  rintro m vs h ⟨j,vx,x,tu,hj,rfl,rfl,fx,xS,km,ca,pa⟩
  have U:=pa.one;have x1:=fx.one;have x2:=fx.cells;simp only[Z3,seval,-ae,U,x1];refine Tr (λan=>?_) λX=>?_
  .obtain⟨sI,cap,rfl,q1,q2,q3,q4,q5⟩:=pa;have hw:=ZE q2 (i:=i) (v:=vx) (by rw[q3,KE];exact E) x1;simp only[Z3,seval,-ae,E,hw,wi E,x1,x2];refine⟨_,?_,enter (M:=M.set i x) aH (by rw[Yx];exact oe) (λy hy=>?_) ?_ (km.set q4 (rI.set i vx)) (ca.set aH (rI.set i vx)) ⟨sI,cap,rfl,q1,by rw[zG,Iu rfl],by rw[Yx];exact q3,q4,q5⟩⟩
   .omega
   .grind
   .refine⟨by rw[Yx,Yx];exact ai.1,λk c r hc hr=>?_⟩;rw[Yu]at hc hr;by_cases e:i=k
    .grind
    .rw[Iv e]at hc hr;exact ai.2 k c r hc hr
  have fP:(j:Int)<(Tw O:Int):=aH
  have gx:(eh O)[j]? = Ik (.int .i64 O[j]):=by rw[zJ,gi X];rfl
  have ob:=s.pr j X;have eO:at_ O j=O[j]:=gj X;rw[eO]at ob;simp only[Z3,seval,-ae,U,x1,rO km,X,fP,gx];refine zQ (n:=O[j]) ca aH λy g hy m2 cX=>?_;have fE:=km.mv dP m2;have uM:=ft.mv' pa dP m2;have y0:=hy.1;have y1:=hy.lt aH;simp only[Z3,seval,-ae,U,x1];by_cases jh:j=i
  case' pos=>
   subst jh;have ws:Tu .i64 (O[j] - 1)=O[j] - 1:=WE;simp only[Z3,seval,-ae,rO fE,X,fP,gx,U,x1,ws];refine zQ (n:=O[j] - 1) cX aH λz g' hz m4 fK=>?_;have z0:=hz.1;have z1:=hz.lt aH;have gE:=fE.mv dP m4;have uL:=ft.mv' uM dP m4;obtain⟨kk,jN,kb⟩:∃kk:Int,Tu .i64 (1+z)=kk/\0<=kk/\kk<=7:=⟨1+z,mn aH aH,aH,aH⟩
   simp only[Z3,seval,-ae,U,x1,jN]
  case' neg=>
   have fj:¬(j:Int)=(i:Int):=aH
   have gE:=fE;have fK:=cX;have uL:=uM;have kb:0<=y/\y<=7:=⟨aH,aH⟩
   simp only[Z3,seval,-ae,fj,U,x1];clear hy m2 y0 y1 cX fE uM;generalize y=kk at *
  all_goals
   simp only[Z3,seval,-ae,r3 gE,J,Q,U,x1];refine Qq (n:=(Tw O)) aH X λvu fu=>?_;have u1:=fu.one;have uS:gS O (iS (Tw O) j):=s.unit X (YQ _);simp only[Z3,seval,-ae,r3 gE,J,Q,U,x1,u1];refine Z7 s V uS fu (k:=kk) aH λvp y2 fp pS _=>?_;have p2:=fp.one;simp only[Z3,seval,-ae,r3 gE,J,Q,U,x1,p2];refine zV s V xS pS fx fp λv2 f2=>?_;have v21:=f2.one;simp only[Z3,seval,-ae,U,v21,wi X];exact⟨_,aH,j+1,v2,_,aH,aH,rfl,rfl,f2,vr s xS pS,gE,fK,uL⟩
 subst dd;clear enter;have M1:=hM.one;have Y:¬(Tw O:Int)<(Tw O:Int):=aH
 obtain⟨N,hN⟩:∃N:Nat,(N:Int)=jW O (Tw O):=⟨(jW O (Tw O)).toNat,by have:=(ZJ s.pr (sB (Tw O))).1;omega⟩
 have SV:N<=1000000:=by
  have h1:=(ZJ s.pr (sB (Tw O))).2;have h2:(7:Int) ^ (Tw O)<=7 ^ 6:=by
   have:=O9 (show 0<7 by decide) bB
   exact_mod_cast this
  have h3:(7:Int) ^ 6=117649:=by decide
  omega
 simp only[Z3,seval,-ae,Y,M1,r3 km,J,Q];refine zb s V ?_;rw[<-hN];simp only[Z3,seval,-ae,M1,mk24 (n:=N) aH,zx (n:=N) aH];have CH:=km.bY;have aj:¬σ.bY=g.bY:=aH
 refine zF (λm vs h=>∃(t:Nat) (rb:List PV) (D:List (Option V1)),t<=N/\m=N-t/\vs=[.ptr σ.bY 0,.ptr (σ.bY+1) 0,.int .i64 (Tw O),vI,.sl g.bY 0 N (.cm N),.int .i64 t]/\h=g.cb rb/\ez (th (Tw O)) rb D/\Tw D=N) N ?_ ?_
 .exact⟨0,_,Jf N none,YQ _,rfl,rfl,rfl,th.start _ _,bj⟩
 rintro m vs h ⟨t,rb,D,ht,rfl,rfl,rfl,cn,hD⟩
 have xV:KM H s0 (g.cb rb):=km.cb _;have RI:(Tw rb)=N:=by rw[cn.1];exact hD
 have mL:(g.cb rb).cd g.bY=Ik rb:=by rw[zC,Iu rfl]
 simp only[Z3,seval,-ae,M1,aj,r3 km,J,Q];refine zb s V ?_;rw[<-hN];simp only[Z3,seval,-ae,M1];refine fi (λE=>?_) λan=>?_
 .have J1:(t:Int)<(N:Int):=aH
  simp only[Z3,seval,-ae,M1,aj,r3 km,J,Q];refine Qg s V aH λve fe=>?_;have e1:=fe.one;have e2:=fe.cells;have eS:=Za s t;simp only[Z3,seval,-ae,M1,aj,r3 km,J,Q,e1];refine zC3 s V hM aH oi fe (by rw[oe];exact eS.len) (λj hj=>by have:=eS.bd j aH;have:=s.pr j aH;omega) λvz z fz zS=>?_;have z1:=fz.one;simp only[Z3,seval,-ae,M1,aj,r3 km,J,Q,e1,z1];refine qU s V zS fz ?_;obtain⟨d,hd,yX⟩:=zFQ s zS hN;rw[hd];have rE:(d:Int)<(N:Int):=aH
  have hw:=ZE mL (i:=d) (v:=ve) aH e1;have yd:(g.cb rb).set g.bY (rb.set d ve)=g.cb (rb.set d ve):=zBC g rb _;rw[yd]at hw;have wt:Tu .i64 ((t:Int)+1)=((t+1:Nat):Int):=WQ
  simp only[Z3,seval,-ae,M1,e1,e2,yX,rE,hw,wt];exact⟨_,aH,t+1,rb.set d ve,D.set d (Ik (vj O (Tw O) t)),aH,rfl,rfl,rfl,th.put cn fe eS.len,by rw[Yx];exact hD⟩
 have Ga:t=N:=aH
 subst Ga;simp only[Z3,seval,-ae,M1,aj,rO km,J,Q];have gQ:FI (.fz W aO (Tw O) (eh O)) O:=⟨W,aO,rfl⟩;refine zAV gQ aH λL h3 v1 v2 v3 k4 p4=>?_;have nV:=k4.bY;have wN:(g.cb rb).bY=g.bY+1:=rfl;have gE:KM H s0 h3:=xV.c7 k4;have fK:So h3 s0 vS bs:=(ca.c7 (zB g rb)).c7 k4;have G:=TB.start (r:=σ.bY+1) p4 aH (by rw[k4.cd _ aH,xV.cd aH aH];exact cM) nV;have G:=G.weak (Q':=λm=>m<=Tw O) λm hm=>UA hm;have S:dq (g.cb rb) (h3.cb [v1,v2,v3]):=k4.cb [v1,v2,v3];simp only[Z3,seval,-ae,p4.hO.one,p4.hP.one,p4.hC.one];generalize h3.bY=sQ at *
 clear p4 k4 gE fK nV;obtain⟨wI,aI,DL,rfl,yn⟩:=hM;have hM:hK (.fz wI aI (Tw M) DL) M:=⟨wI,aI,DL,rfl,yn⟩;rw[oe];generalize hT:g.cb rb=T at *
 have xu:So T s0 vS bs:=by rw[<-hT];exact ca.c7 (zB g rb)
 -- Bh is read of xr table and of xr group
 have tab:∀{g':dj},dq T g'->∀{d:Nat},d<t->∃w a xs,g'.gv g.bY d=Ik (.fz w a (Tw xs) (eh xs))/\Tw xs<=Tw O:=λ{g'} k d hd=>by
  obtain⟨w,a,xs,e1,e2⟩:=th.row cn (d:=d) aH;exact⟨w,a,xs,by rw[zH (by rw[k.cd _ aH];exact mL),e1],e2⟩
 refine zF (λm' vs h=>∃(i:Nat) (L:Nat->Nat),i<=Tw O/\m'=Tw O-i/\vs=[.ptr σ.bY 0,.ptr (σ.bY+1) 0,.int .i64 (Tw O),.fz wI aI (Tw O) DL,.sl g.bY 0 t (.cm t),.ptr sQ 0,.int .i64 i]/\dq T h/\TB T.bY h (λm=>m<=Tw O) O L (Tw O) (Tw O) (λj=>(Tw O)-1-j) (σ.bY+1) sQ v1 v2 v3) (Tw O) ?_ ?_
 .exact⟨0,_,YQ _,rfl,rfl,S,G⟩
 clear G S
 rintro m' vs h ⟨i,L,hi,rfl,rfl,S,G⟩
 have jL:=S.bY;have iF:=xV.c7 S;have j4:=xu.c7 S;refine Tq ?_;refine Tr (λan=>?_) λE=>?_
 .obtain⟨e1,e2,e3⟩:=G.fin;simp only[Z3,seval,-ae,G.r3,e1,e2];exact PW.finKM e3 ((kK.trans bD iF).set aH _) (j4.set aH _) bD aH λW wP wC P' C' σ' r1 r2 m' dA=>hk W wP wC P' C' σ' r1 r2 m' dA
 have Y:(i:Int)<(Tw O:Int):=aH
 have Kg:i<Tw M:=aH
 obtain⟨w5,a6,h5⟩:=yn.rowI Kg;have I7:=oi _ (ss Kg);have gx:(eh O)[i]? = Ik (.int .i64 O[i]):=by rw[zJ,gi E];rfl
 have ob:=s.pr i E;have eO:at_ O i=O[i]:=gj E;rw[eO]at ob;obtain⟨sP,ck,rfl,xd,qq,put⟩:=G.putPx E;simp only[Z3,seval,-ae,G.r1,r3 iF,rO iF,E,Y,h5,gx,J,Q];refine Z7 s V I7 ⟨w5,a6,rfl⟩ (k:=O[i]) aH λvy y fy yS _=>?_;have y1:=fy.one;simp only[Z3,seval,-ae,G.r1,r3 iF,rO iF,E,Y,h5,gx,J,Q,y1];refine qU s V yS fy ?_;obtain⟨d,hd,yX⟩:=zFQ s yS hN;have rE:(d:Int)<(t:Int):=aH
 obtain⟨w7,a7,xs,dk,mO⟩:=tab S yX;rw[hd];simp only[Z3,seval,-ae,G.r1,yX,rE,dk,E,Y];refine zl rfl aH λbG cK=>?_;obtain⟨ds,L',w,a6⟩:=put (xs:=xs) (cp:=bG) mO cK;have k6:dq T ((h.cb (eh xs)).set sP ds):=(S.cb _).set aH _;have r1:(h.cb (eh xs)).gv sQ 1=Ik (.sl sP 0 (Tw O) ck):=(G.cb _).r1;generalize h.cb (eh xs)=g' at *
 simp only[Z3,seval,-ae,r1,E,Y,w,wi E];generalize g'.set sP ds=h6 at *
 clear put w r1 xd qq G S iF j4 jL;refine zF (λm' vs h=>∃(j:Nat) (L:Nat->Nat),i+1<=j/\j<=Tw O/\m'=Tw O-j/\vs=[.ptr σ.bY 0,.ptr (σ.bY+1) 0,.int .i64 (Tw O),.fz wI aI (Tw O) DL,.sl g.bY 0 t (.cm t),.ptr sQ 0,.int .i64 i,.int .i64 j]/\dq T h/\TB T.bY h (λm=>m<=Tw O) O L (Tw O) (Tw O) (λj=>(Tw O)-1-j) (σ.bY+1) sQ v1 (.sl sP 0 (Tw O) ck) v3) (Tw O-(i+1)) ?_ ?_
 .exact⟨i+1,L',sB _,E,rfl,rfl,k6,a6⟩
 clear a6 k6
 rintro m' vs h ⟨j,L,tu,hj,rfl,rfl,S,G⟩
 have jL:=S.bY;have iF:=xV.c7 S;refine Tq ?_;refine Tr (λan=>?_) λX=>?_
 .simp only[Z3,seval,-ae,wi E];exact⟨_,aH,i+1,L,aH,rfl,rfl,S,G⟩
 have fP:(j:Int)<(Tw O:Int):=aH
 have wK:j<Tw M:=aH
 obtain⟨w8,a8,h8⟩:=yn.rowI wK;have Ld:=oi _ (ss wK);have jh:j-i-1<Tw O-1-i:=aH
 have fj:((j-i-1:Nat):Int)<((Tw O-1-i:Nat):Int):=aH
 have wj:Tu .i64 ((j:Int)-(i:Int))=(j:Int)-(i:Int):=WE;have sF:Tu .i64 ((j:Int)-(i:Int)-1)=((j-i-1:Nat):Int):=WQ
 obtain⟨sC,eU,u,kJ,rfl,q7,C4,CB,CY,Cy,put⟩:=G.putCx E jh;simp only[Z3,seval,-ae,G.r2,q7,r3 iF,rO iF,E,Y,X,fP,h5,h8,J,Q,wj,sF];refine zGh s V Ld I7 ⟨w8,a8,rfl⟩ ⟨w5,_,rfl⟩ λvy y fy yS=>?_;have y1:=fy.one;simp only[Z3,seval,-ae,G.r2,q7,r3 iF,rO iF,E,Y,X,fP,h5,h8,J,Q,y1,wj,sF];refine qU s V yS fy ?_;obtain⟨d,hd,yX⟩:=zFQ s yS hN;have rE:(d:Int)<(t:Int):=aH
 obtain⟨w7,a7,xs,dk,mO⟩:=tab S yX;rw[hd];simp only[Z3,seval,-ae,G.r2,q7,yX,rE,dk,E,Y,wj,sF];refine zl rfl aH λbG cK=>?_;obtain⟨ds,L',rC,w,a6⟩:=put (xs:=xs) (cp:=bG) mO cK;have r2:(h.cb (eh xs)).gv sQ 2=Ik (.sl sC 0 (Tw O) eU):=(G.cb _).r2;have k6:dq T ((h.cb (eh xs)).set u ds):=(S.cb _).set aH _;generalize h.cb (eh xs)=g' at *
 simp only[Z3,seval,-ae,r2,rC,E,Y,jh,fj,w,wj,sF,wi X];exact⟨_,aH,j+1,L',aH,aH,rfl,rfl,k6,a6⟩
end
section
variable{b:Nat}{C2:V3}
def zFX(s:kC O P C)(m:eQ vO vP vC O P C)(J:hK vU u)(U:(Tw u)<=1000)(T:∀x∈u,gS O x)(Q:FI va a)(V:(Tw a)=Tw u)(W:∀j,j<Tw u->-1000<=at_ a j/\at_ a j<=1000)
  (S:∀v x,FI v x->gS O x->K v σ):zA Tp 223 [.agg [vO,vP,vC],vU,va] σ K:=by
 have E:=m.O.one;have G:=m.P.one;have H:=m.C.one;refine To Tryz.func223 ?_;simp only[Z3,seval,-ae,E,G,H];refine zC3 s m J U T Q V W λv x fx X=>?_;refine Tq ?_;exact Gh.fin0 (zB σ _) (fx.bel _) (S v x fx X)
set_option maxHeartbeats 1600000 in
def zG8(s:kC O P C)(hR:eQ vO vP vC O P C)(g:LG O2 P2 C2)(W:eQ uO uP uC O2 P2 C2)(hi:i<Tw O)(hI:hK vI I)(Ae:(Tw I)=Tw O)(uz:∀x∈I,gS O2 x)
  (hk:∀v Z,hK v Z->(∀x∈Z,gS O2 x)->(Tw Z:Int)<=jW O2 (Tw O2)->K v σ):zA Tp 217 [.agg [vO,vP,vC],.agg [uO,uP,uC],.int .i64 i,vI] σ K:=by
 have bB:=s.le;have Q:=g.s;have Cw:=Q.le;have bp:=hR;have g0:=hR.O.one;have g1:=hR.P.one;have g2:=hR.C.one;have S:=W.O.one;have U:=W.P.one;have V:=W.C.one;have I1:=hI.one;obtain⟨⟨wO,aO,rfl⟩,⟨wP,aP,rP,rfl,hP⟩,⟨wC,aC,rC,rfl,hC⟩⟩:=hR;refine zA.gh ?_;refine ZY mix Tryz.func217 ?_;simp only[Z3,seval,-ae,g0,g1,g2,S,U,V,I1];generalize hH:(σ.cb [.fz wO aO (Tw O) (eh O),.fz wP aP (Tw P) rP,.fz wC aC (Tw C) rC]).cb [uO,uP,uC]=H;have eG:H.bY=σ.bY+2:=by rw[<-hH];rfl
 have kH:dq σ H:=by rw[<-hH];exact(zB _ _).cb _
 have bK:H.cd σ.bY=Ik [.fz wO aO (Tw O) (eh O),.fz wP aP (Tw P) rP,.fz wC aC (Tw C) rC]:=by rw[<-hH];simp only[Z3,seval,-ae]
 have cM:H.cd (σ.bY+1)=Ik [uO,uP,uC]:=by rw[<-hH];simp only[Z3,seval,-ae]
 clear hH;have rq:∀{h:dj},dq H h->h.rd (σ.bY+1) 0 3=Ik [uO,uP,uC]:=λ{h} k=>by rw[zN (by rw[k.cd _ aH];exact cM)];rfl
 have r0:∀{h:dj},dq H h->h.gv σ.bY 0=Ik (.fz wO aO (Tw O) (eh O)):=λ{h} k=>by rw[zH (by rw[k.cd _ aH];exact bK)];rfl
 have r1:∀{h:dj},dq H h->h.gv σ.bY 1=Ik (.fz wP aP (Tw P) rP):=λ{h} k=>by rw[zH (by rw[k.cd _ aH];exact bK)];rfl
 have r2:∀{h:dj},dq H h->h.gv σ.bY 2=Ik (.fz wC aC (Tw C) rC):=λ{h} k=>by rw[zH (by rw[k.cd _ aH];exact bK)];rfl
 have wS:∀{j m:Nat},j<m->m<=1000000->Tu .i64 ((j:Int)+1)=((j+1:Nat):Int):=λ{j m} h1 h2=>by rw[mn aH aH];omega
 refine zAI hI ⟨aH,λy hy=>by have:=(uz y hy).len;omega⟩ λv0 h1 rows k1 p1 a1=>?_;have LP:=p1.one;simp only[Z3,seval,-ae,LP];have a0:∃a0:Nat->List PV->dj->Prop,a0=λm vs h=>∃(k:Nat) (v:PV) (rows:List PV) (M:V2),k<=i+1/\m=i+1-k/\vs=[.int .i64 i,.ptr σ.bY 0,.ptr (σ.bY+1) 0,v,.int .i64 k]/\Tw M=(Tw O)/\(∀y∈M,gS O2 y)/\ez FI rows M/\dq H h/\(k=i+1/\hK v M\/k<i+1/\ft H.bY 1 h v (Tw O) rows):=⟨_,rfl⟩
 obtain⟨a0,hJ⟩:=a0;have enter:∀{g:dj} {k:Nat} {v:PV} {rows:List PV} {M:V2},k<=i+1->(Tw M)=Tw O->(∀y∈M,gS O2 y)->ez FI rows M->dq H g->ft H.bY 1 g v (Tw O) rows->GL (a0 (i+1-k)) [.int .i64 i,.ptr σ.bY 0,.ptr (σ.bY+1) 0,v,.int .i64 k] g:=λ{g k v rows M} hk h1 h2 h3 h4 h6=>by
  by_cases hx:k=i+1
  .obtain⟨s,cap,rfl,q1,q2,q3,q4,q5⟩:=h6;refine .fz s rows q2 (h3.bI 0) λo=>.here ?_;rw[hJ];refine⟨k,.fz Im (.sl o 0 (Tw O) cap) (Tw O) rows,rows,M,hk,rfl,?_,h1,h2,h3,h4.kill q4,.inl ⟨hx,⟨Im,_,rows,by rw[h1],h3⟩⟩⟩;simp only[nD,sb,q1.ok,and_self,if_true]
  .refine .here ?_;grind
 refine qF a0 (i+1) (by exact enter (k:=0) (YQ _) Ae uz a1 k1 (by rw[<-Ae];exact p1)) ?_;intro m vs h xk;rw[hJ]at xk;obtain⟨k,vk,rows,M,bm,rfl,rfl,oe,oi,ai,kk,hv⟩:=xk;rcases hv with ⟨lh,hM⟩|⟨af,pa⟩;rotate_left
 .have p1:=pa.one;have hle:(k:Int)<=(i:Int):=aH
  have yK:k<Tw O:=aH
  have G7:(k:Int)<(Tw O:Int):=aH
  simp only[Z3,seval,-ae,hle,p1,rq kk,S,U,V];refine QX W aH λvz fz=>?_;have z1:=fz.one;have z2:=fz.cells;obtain⟨sI,cap,rfl,q1,q2,q3,q4,q5⟩:=pa;have hw:=ZE q2 (i:=k) (v:=vz) aH z1;simp only[Z3,seval,-ae,yK,G7,hw,z1,z2,wS af aH];refine⟨_,?_,enter (M:=M.set k (zv O2)) aH (by rw[Yx];exact oe) (λy hy=>?_) (ai.set k fz) (kk.set q4 (rows.set k vz)) ⟨sI,cap,rfl,q1,by rw[zG,Iu rfl],by rw[Yx];exact q3,q4,q5⟩⟩
  .omega
  .rcases O3 hy with h|h
   .exact oi y h
   .rw[h];exact Q.zv _
 subst lh;clear enter;have E:=hM.one;have hle:¬((i+1:Nat):Int)<=(i:Int):=aH
 obtain⟨w5,a5,dH⟩:=pvRow s hP hi;have fh:=s.pw i hi;have dC:i<Tw P:=by rw[s.pl];exact hi
 have rj:(i:Int)<(Tw P:Int):=aH
 have b7:∀{y:V1},gS O y->∀j,j<Tw M->-1000<=at_ y j/\at_ y j<=1000:=λ{y} hy j hj=>by
  have:=hy.bd j aH
  have:=s.pr j aH
  omega
 simp only[Z3,seval,-ae,hle,E,rq kk,r1 kk,S,U,V,dC,rj,dH];refine zFX Q W hM aH oi (FI.mk fh.len) (by rw[oe];exact fh.len) (b7 (fh.mono (YQ _))) λvw pw fw Lr=>?_;have w1:=fw.one;simp only[Z3,seval,-ae,E,w1,wS hi (aH:(Tw O)<=1000000)];obtain⟨d,hd⟩:∃d,d=Tw O-1-i:=⟨_,rfl⟩
 obtain⟨w6,a6,rs,cn,gI⟩:=cvRow s hC hi;have dI:i<Tw C:=by rw[s.cl];exact hi
 have lN:(i:Int)<(Tw C:Int):=aH
 have J2:∃a0:Nat->List PV->dj->Prop,a0=λm vs g=>∃(q:Nat) (v:PV) (rows:List PV) (N:V2),q<=d/\m=d-q/\vs=[.int .i64 i,.ptr σ.bY 0,.ptr (σ.bY+1) 0,vk,vw,v,.int .i64 ((i+(1+q):Nat):Int)]/\Tw N=q/\(∀y∈N,gS O2 y)/\ez FI rows N/\dq h g/\(q=d/\hK v N\/q<d/\ft h.bY 1 g v q rows):=⟨_,rfl⟩
 obtain⟨J2,KC⟩:=J2;have enter:∀{g:dj} {q:Nat} {v:PV} {rows:List PV} {N:V2},q<=d->(Tw N)=q->(∀y∈N,gS O2 y)->ez FI rows N->dq h g->ft h.bY 1 g v q rows->GL (J2 (d-q)) [.int .i64 i,.ptr σ.bY 0,.ptr (σ.bY+1) 0,vk,vw,v,.int .i64 ((i+(1+q):Nat):Int)] g:=λ{g q v rows N} hk h1 h2 h3 h4 h6=>by
  by_cases hx:q=d
  .obtain⟨s,cap,rfl,q1,q2,q3,q4,q5⟩:=h6;refine .fz s rows q2 (h3.bI 0) λo=>.here ?_;rw[KC];have bk:Go.Ab.sb s o rows vk=vk:=ZL (YQ _) (hM.bel 0);have bw:Go.Ab.sb s o rows vw=vw:=ZL (YQ _) (fw.bel 0);refine⟨q,.fz Im (.sl o 0 q cap) q rows,rows,N,hk,rfl,?_,h1,h2,h3,h4.kill q4,.inl ⟨hx,⟨Im,_,rows,by rw[h1],h3⟩⟩⟩;simp only[nD,sb,q1.ok,bk,bw,and_self,if_true]
  .refine .here ?_;grind
 refine qF J2 d (by
  have:=enter (q:=0) (N:=[]) (YQ _) rfl (λy hy=>(by cases hy)) (ez.nil _) (zB h []) (ft.cb (h:=h) (n:=0) (cs:=[]) h.bY 1 rfl (sB _))
  rw[show i+(1+0)=i+1 by omega]at this;exact this) ?_
 intro m vs X xk;rw[KC]at xk;obtain⟨q,vm,Jl,N,hq,rfl,rfl,OI,OJ,C8,kg,hv⟩:=xk;have j6:=kk.trans kg;rcases hv with ⟨NB,hN⟩|⟨af,pa⟩;rotate_left
 .have p1:=pa.one;have dU:i+(1+q)<Tw O:=aH
  have jP:((i+(1+q):Nat):Int)<(Tw O:Int):=aH
  obtain⟨w7,a7,jf⟩:=gI q aH;have dn:=s.cj i (i+(1+q)) aH aH;have NA:q<Tw O-1-i:=aH
  have Gt:(q:Int)<((Tw O-1-i:Nat):Int):=aH
  have e3:Tu .i64 (((i+(1+q):Nat):Int)-(i:Int))=((1+q:Nat):Int):=WQ
  have e4:Tu .i64 (((1+q:Nat):Int)-1)=(q:Int):=WQ
  have e5:Tu .i64 (((i+(1+q):Nat):Int)+1)=((i+(1+(q+1)):Nat):Int):=WQ
  simp only[Z3,seval,-ae,dU,jP,p1,E,w1,r0 j6,r2 j6,rq j6,S,U,V,dI,lN,cn,e3,e4,NA,Gt,jf];refine zFX Q W hM aH oi (FI.mk dn.len) (by rw[oe];exact dn.len) (b7 (dn.mono (YQ _))) λvz z fz zS=>?_;have z1:=fz.one;have z2:=fz.cells;simp only[Z3,seval,-ae,p1,E,w1,z1,z2];refine ft.push (σb:=h) (bytes:=24) kg pa aH aH λv2 h2 k2 a2=>?_;simp only[Z3,seval,-ae,a2.one,e5,E,w1];refine⟨_,?_,enter (N:=N++[z]) aH (by rw[cO,OI];rfl) (λy hy=>?_) (C8.snoc fz) k2 a2⟩
  .omega
  grind
 subst NB;clear enter;have G:=hN.one;have dU:¬((i+(1+q):Nat):Int)<(Tw O:Int):=aH
 obtain⟨T,hT⟩:∃T:Nat,(T:Int)=jW O2 (Tw O2):=⟨(jW O2 (Tw O2)).toNat,by have:=(ZJ Q.pr (sB (Tw O2))).1;omega⟩
 have SN:T<=1000000:=by
  have h1:=(ZJ Q.pr (sB (Tw O2))).2;have h2:(7:Int) ^ (Tw O2)<=7 ^ 6:=by
   have:=O9 (show 0<7 by decide) Cw
   exact_mod_cast this
  have h3:(7:Int) ^ 6=117649:=by decide
  omega
 simp only[Z3,seval,-ae,dU,r0 j6,rq j6,E,G,w1,S,U,V];refine zb Q W ?_;rw[<-hT];have BI:(T:Int)*((1:Nat):Int)<=140737488355328:=aH
 simp only[Z3,seval,-ae,E,G,w1,BI,zx (n:=T) aH];have SW:=hM;obtain⟨wk,ak,rk,rfl,jf⟩:=hM;have wi:=wS hi (aH:(Tw O)<=1000000);have DJ:i+1<=Tw M:=aH
 have Bn:((i+1:Nat):Int)<=(Tw M:Int):=aH
 have aj:¬σ.bY+1=X.bY:=by have:=j6.bY;omega
 simp only[Z3,seval,-ae,E,G,w1,wi,DJ,Bn,aj,rq j6,S,U,V];have gL:∀x∈M.drop (i+1),gS O2 x:=λx hx=>oi x (Jx hx);have dl:(M.drop (i+1)).length=Tw M-(i+1):=Ys;have hD:ez FI (O0 (Tw M-(i+1)) (Kf (i+1) rk)) (M.drop (i+1)):=by
  have:=(jf.drop (i+1)).take (Tw M-(i+1))
  grind
 refine Zt (L:=M.drop (i+1)) g W ⟨false,_,_,by rw[dl],hD⟩ ⟨aH,λy hy=>by have:=(gL y hy).len;omega⟩ gL λvu u fu hu=>?_;have F2:=g.F;have su:zh O2 P2 C2 u:=⟨λx hx=>(hu.one x hx).1,hu.congr λx=>⟨zI8 g (GC.sub F2 gL) hu x,λh=>h _ (GC.sub F2 gL) hu.mem⟩⟩
 have u1:=fu.one;have R6:dq H (X.cb (Jf T (.bool false))):=j6.cb _;simp only[Z3,seval,-ae,E,G,w1,u1,aj,rq j6,S,U,V];refine Q4 g W fu su λvZ Z fZ hZ Ow=>?_;have Z1:=fZ.one;have ZS:∀x∈Z,gS O2 x:=λx hx=>(GC.sub F2 su.1).inS ((hZ x).1 hx);simp only[Z3,seval,-ae,E,G,w1,Z1,aj,rq j6,S,U,V];obtain⟨wZ,aZ,rZ,rfl,B7⟩:=fZ;refine zF (λm vs h=>∃(k:Nat) (rb:List PV),k<=Tw Z/\m=Tw Z-k/\vs=[.int .i64 i,.ptr σ.bY 0,.ptr (σ.bY+1) 0,.fz wk ak (Tw M) rk,vw,vm,.sl X.bY 0 T (.cm T),.fz wZ aZ (Tw Z) rZ,.int .i64 k]/\h=X.cb rb/\Tw rb=T/\∀c∈rb,∃b,c=.bool b) (Tw Z) ?_ ?_
 .exact⟨0,_,YQ _,rfl,rfl,rfl,bj,λc hc=>⟨false,UZ hc⟩⟩
 rintro m vs h2 ⟨k,rb,jr,rfl,rfl,rfl,tA,ln⟩
 have mL:(X.cb rb).cd X.bY=Ik rb:=by rw[zC,Iu rfl]
 simp only[Z3,seval,-ae,E,G,w1];refine fi (λaf=>?_) λan=>?_
 .have ah:(k:Int)<(Tw Z:Int):=aH
  obtain⟨w8,a8,h8⟩:=B7.rowI af;have zS:=ZS _ (ss af);simp only[Z3,seval,-ae,E,G,w1,af,ah,h8,aj,rq j6,S,U,V];refine qU Q W zS ⟨w8,a8,rfl⟩ ?_;obtain⟨e,he,Oe⟩:=zFQ Q zS hT;have Hz:(e:Int)<(T:Int):=aH
  have hw:=ZE mL (i:=e) (v:=.bool Im) aH rfl;have yd:(X.cb rb).set X.bY (rb.set e (.bool Im))=X.cb (rb.set e (.bool Im)):=zBC X rb _;rw[yd]at hw;rw[he];simp only[Z3,seval,-ae,E,G,w1,Oe,Hz,hw,wS af aH];refine⟨_,aH,k+1,rb.set e (.bool Im),aH,rfl,rfl,rfl,by rw[Yx];exact tA,λc hc=>?_⟩;grind
 clear an;have Sz:=j6.bY;generalize Kv:X.cb rb=T2 at *
 have JH:dq H T2:=by rw[<-Kv];exact j6.cb _
 have n2:T2.bY=X.bY+1:=by rw[<-Kv];rfl
 simp only[Z3,seval,-ae,E,G,w1];rw[<-n2];refine zF (λm vs h=>∃(t:Nat) (vo:PV) (rows:List PV) (Y:V2),t<=T/\m=T-t/\vs=[.int .i64 i,.ptr σ.bY 0,.ptr (σ.bY+1) 0,.fz wk ak (Tw M) rk,vw,vm,.sl X.bY 0 T (.cm T),vo,.int .i64 t]/\dq T2 h/\ft T2.bY 1 h vo (Tw Y) rows/\ez FI rows Y/\(∀y∈Y,gS O2 y)/\Tw Y<=t) T ?_ ?_
 .exact⟨0,_,[],[],YQ _,rfl,rfl,zB T2 [],ft.cb (h:=T2) (n:=0) (cs:=[]) T2.bY 1 rfl (sB _),ez.nil _,λy hy=>(by cases hy),sB _⟩
 rintro m vs h3 ⟨t,vo,rows3,Y,ht,rfl,rfl,k3,p3,a3,YS,SG⟩
 have lC:=JH.trans k3;have o1:=p3.one;simp only[Z3,seval,-ae,E,G,w1,o1,rq lC,S,U,V];refine zb Q W ?_;rw[<-hT];simp only[Z3,seval,-ae,E,G,w1,o1];refine Tr (λan=>?_) λaf=>?_
 .exact fB.fin ((kH.trans JH).trans k3) (p3.acc.low aH) (a3.bI 0) λa=>hk _ Y ⟨_,_,rows3,rfl,a3⟩ YS aH
 have dE:(t:Int)<(T:Int):=aH
 have BW:t<Tw rb:=aH
 obtain⟨bt,mF⟩:=ln _ (ss BW);have gt:rb[t]? = Ik (.bool bt):=by rw[na BW,mF]
 have Fw:∀{g:dj},dq T2 g->g.gv X.bY t=Ik (.bool bt):=λ{g} k=>by rw[zH (by rw[k.cd _ aH];exact mL),gt]
 simp only[Z3,seval,-ae,E,G,w1,o1,af,dE,Fw k3];cases bt;rotate_left
 .simp only[Z3,seval,-ae,o1,wS af aH];exact⟨_,aH,t+1,vo,rows3,Y,aH,rfl,rfl,k3,p3,a3,YS,aH⟩
 simp only[Z3,seval,-ae,E,G,w1,o1,rq lC,S,U,V];refine Qg Q W aH λvx fx=>?_;have xS:=Za Q t;generalize vj O2 (Tw O2) t=x at fx xS;have x1:=fx.one;have x2:=fx.cells;have gO:(eh O)[i]? = Ik (.int .i64 O[i]):=by rw[zJ,gi hi];rfl
 have ob:=s.pr i hi;have eO:at_ O i=O[i]:=gj hi;rw[eO]at ob;have hi':(i:Int)<(Tw O:Int):=aH
 simp only[Z3,seval,-ae,E,G,w1,o1,x1,rq lC,r0 lC,S,U,V,hi,hi',gO];refine Z7 Q W xS fx (k:=O[i]) aH λvy y fy yS _=>?_;have Lb:=yS.len;have Lj:=Lr.len;obtain⟨wy,ay,rfl⟩:=fy;have S5:=fw;obtain⟨ww,aw,rfl⟩:=fw;simp only[Z3,seval,-ae,E,G,w1,o1,x1,rq lC,r0 lC,S,U,V,hi,hi',gO];refine qi rfl rfl aH ?_;simp only[Z3,seval,-ae,E,G,o1,x1,wS hi (aH:(Tw O)<=1000000)];refine zF (λm us h=>∃(J:Nat) (b:Bool),J<=q/\m=q-J/\us=[.int .i64 i,.ptr σ.bY 0,.ptr (σ.bY+1) 0,.fz wk ak (Tw M) rk,.fz ww aw (Tw pw) (eh pw),vm,.sl X.bY 0 T (.cm T),vo,.int .i64 t,vx,.bool b,.int .i64 ((i+(1+J):Nat):Int)]/\h=h3) q ?_ ?_
 .exact⟨0,_,YQ _,rfl,rfl,rfl⟩
 rintro m us h5 ⟨J,b,cH,rfl,rfl,rfl⟩
 cases b
 .simp only[Z3,seval,-ae,E,G,o1,x1,wS af aH];exact⟨_,aH,t+1,vo,rows3,Y,aH,rfl,rfl,k3,p3,a3,YS,aH⟩
 by_cases kX:J<q;rotate_left
 .have ra:¬((i+(1+J):Nat):Int)<(Tw O:Int):=aH
  simp only[Z3,seval,-ae,E,G,o1,x1,x2,r0 lC,ra,decide_false];refine ft.push (σb:=T2) (bytes:=24) k3 p3 aH aH λv2 h2 k2 a2=>?_;simp only[Z3,seval,-ae,a2.one,wS af aH];refine⟨_,aH,t+1,v2,rows3++[vx],Y++[x],aH,rfl,rfl,k2,by rw[cO];exact a2,a3.snoc fx,λy hy=>?_,by rw[cO,Yk];omega⟩;grind
 have ra:((i+(1+J):Nat):Int)<(Tw O:Int):=aH
 have wK:i+(1+J)<Tw M:=aH
 have yL:((i+(1+J):Nat):Int)<(Tw M:Int):=aH
 obtain⟨w9,a9,h9⟩:=jf.rowI wK;have mS:=oi _ (ss wK);have Ce:J<Tw N:=aH
 have yr:(J:Int)<(Tw N:Int):=aH
 obtain⟨wm,am,rm,rfl,B2⟩:=hN;obtain⟨DG,ED,gf⟩:=B2.rowI Ce;have nS:=OJ _ (ss Ce);have e3:Tu .i64 (((i+(1+J):Nat):Int)-(i:Int))=((1+J:Nat):Int):=WQ
 have e4:Tu .i64 (((1+J:Nat):Int)-1)=(J:Int):=WQ
 have e5:Tu .i64 (((i+(1+J):Nat):Int)+1)=((i+(1+(J+1)):Nat):Int):=WQ
 simp only[Z3,seval,-ae,E,o1,x1,r0 lC,rq lC,S,U,V,ra,decide_true,wK,yL,h9,Ce,yr,gf,e3,e4];refine zV Q W mS xS ⟨w9,a9,rfl⟩ fx λva fa=>?_;have la:=(vr Q mS xS).len;obtain⟨wa,aa,rfl⟩:=fa;simp only[Z3,seval,-ae,E,o1,x1,r0 lC,rq lC,S,U,V,ra,decide_true,wK,yL,h9,Ce,yr,gf,e3,e4];refine zV Q W xS nS fx ⟨DG,ED,rfl⟩ λvb fb=>?_;have lb:=(vr Q xS nS).len;obtain⟨wb,ab,rfl⟩:=fb;simp only[Z3,seval,-ae,E,o1,x1,r0 lC,rq lC,S,U,V,ra,decide_true,wK,yL,h9,Ce,yr,gf,e3,e4];refine qi rfl rfl aH ?_;simp only[Z3,seval,-ae,E,o1,x1,e5];exact⟨_,aH,J+1,_,aH,rfl,rfl⟩
end
section
variable{b:Nat}{C2 L:V3}
structure Gr1(σ:dj)(v:PV)(h:dj)(v':PV):Prop where
 bY:σ.bY<=h.bY
 top:σ.top<=h.top
 cd:∀t,t<σ.bY->(∀off l c,v≠.sl t off l c)->h.cd t=σ.cd t
 old:∀t,t<σ.bY->(∀off l c,v≠.sl t off l c)->∀off l c,v'≠.sl t off l c
def Gr1.refl(σ:dj)(v:PV):Gr1 σ v σ v:=⟨sB _,sB _,λ_ _ _=>rfl,λ_ _ h=>h⟩
def Gr1.trans(a:Gr1 σ v h v')(b:Gr1 h v' h2 v2):Gr1 σ v h2 v2:=⟨Yv a.bY b.bY,Yv a.top b.top,
 λt m E=>(b.cd t (YO m a.bY) (a.old t m E)).trans (a.cd t m E),λt m E=>b.old t (YO m a.bY) (a.old t m E)⟩
def Gr1.c7(a:Gr1 σ v h v')(k:dq h h2):Gr1 σ v h2 v':=⟨Yv a.bY k.bY,Yv a.top k.top,λt m E=>(k.cd t (YO m a.bY)).trans (a.cd t m E),a.old⟩
def Gr1.of(k:dq σ h)(a:Gr1 h v h2 v'):Gr1 σ v h2 v':=⟨Yv k.bY a.bY,Yv k.top a.top,λt m E=>(a.cd t (YO m k.bY) E).trans (k.cd t m),λt m=>a.old t (YO m k.bY)⟩
def Gr1.kill{s:Nat}(a:Gr1 σ v h v')(hs:σ.bY<=s):Gr1 σ v (h.kill s) v':=⟨a.bY,a.top,λt E m=>by rw[zBH,Iv aH];exact a.cd t E m,a.old⟩
def fB.kill0{s n:Nat}(a:fB 0 1 h v n cs)(J:∀off l c,v≠.sl s off l c):fB 0 1 (h.kill s) v n cs:=by
 rcases a with a|⟨t,cap,rfl,m,h2,E,G,H⟩
 .exact .inl a
 .exact .inr ⟨t,cap,rfl,m,by rw[zBH,Iv (λe=>J 0 n cap (by rw[e]))];exact h2,E,G,H⟩
def fB.push0{bytes n:Nat}{x:PV}{m:PV×dj->Prop}(a:fB 0 1 h v n cs)(E:(n+1)*bytes<=140737488355328)(h2:n+1<=4611686018427387904)
  (k:∀v' h',Gr1 h v h' v'->fB 0 1 h' v' (n+1) (cs++[x])->m (v',h')):iU (zW 1 bytes (h.cb [x]) v (.sl h.bY 0 1 (.cm 1))) m:=by
 have U:dq (⟨0,h.top,λ_=>none⟩:dj) h:=⟨YQ _,sB _,λs hs=>absurd hs (Jv _)⟩
 exact fB.pushS (σb:=⟨0,h.top,λ_=>none⟩) U a rfl E h2 λv' h' H J Q S T=>k v' h' ⟨Ye T,H.top,Q,λt G _=>S t G⟩ (.inr J)
def FF(n:Nat)(S:V1->Prop)(L:V3):Prop:=∀Y∈L,(Tw Y)=n/\∀x∈Y,S x
def FF.snoc{n:Nat}{S:V1->Prop}{Y:V2}(g:FF n S L)(m:(Tw Y)=n)(h2:∀x∈Y,S x):FF n S (L++[Y]):=λZ E=>by
 rcases YZ.1 E with h|h
 .exact g Z h
 .rw[YW.1 h];exact⟨m,h2⟩
def GrwOK(O:V1)(P:V2)(C:V3)(O2:V1)(P2:V2)(C2:V3)(k:Nat):Prop:=
 ∀{σ:dj} {K:PV->dj->Prop} {vO vP vC uO uP uC vI vF:PV} {I:V2} {n:Nat} {cs:List PV} {L:V3},eQ vO vP vC O P C->eQ uO uP uC O2 P2 C2->hK vI I->(Tw I)=Tw O->(∀x∈I,gS O2 x)->
  fB 0 1 σ vF n cs->ez hK cs L->FF (Tw O) (gS O2) L->n+32 ^ k<=2147483648->
  (∀v' h' n' m L',Gr1 σ vF h' v'->fB 0 1 h' v' n' m->ez hK m L'->FF (Tw O) (gS O2) L'->n'<=n+32 ^ k->K v' h')->
  zA Tp 198 [.agg [vO,vP,vC],.agg [uO,uP,uC],.int .i64 ((k:Int)-1),vI,vF] σ K
set_option maxHeartbeats 1600000 in
def zFW(s:kC O P C)(g:LG O2 P2 C2)(ho:jW O2 (Tw O2)<=27):∀{k:Nat},k<=Tw O->GrwOK O P C O2 P2 C2 k
 |0,df=>by
  rename_i σ K vO vP vC uO uP uC vI vF I n cs L;intro Q J hI Ae uz pF aF gF hb hk;have bB:=s.le;have Cw:=g.s.le;have g0:=Q.O.one;have g1:=Q.P.one;have g2:=Q.C.one;have f0:=J.O.one;have f1:=J.P.one;have f2:=J.C.one;have U:=hI.one;have X:=pF.one;refine Tn Tryz.func198 ?_;simp only[Z3,seval,-ae,g0,g1,g2,f0,f1,f2,U,X];generalize W:(σ.cb [vO,vP,vC]).cb [uO,uP,uC]=H;have kH:dq σ H:=by rw[<-W];exact(zB _ _).cb _
  clear W;have e1:((0:Nat):Int)-1<0:=by decide
  simp only[Z3,seval,-ae,e1,U,X];refine Zh hI ⟨aH,λy hy=>by have:=(uz y hy).len;omega⟩ λvY fY=>?_;have Y1:=fY.one;have Y2:=fY.cells;simp only[Z3,seval,-ae,e1,U,X,Y1,Y2];refine fB.push0 (bytes:=24) (pF.c7 kH) aH aH λv' h' G Y=>?_;simp only[Z3,seval,-ae,Y.one];exact hk v' h' (n+1) _ (L++[I]) (G.of kH) Y (aF.snoc fY) (gF.snoc Ae uz) bj
 |k+1,bm=>by
  rename_i σ K vO vP vC uO uP uC vI vF I n cs L;intro Q J hI Ae uz pF aF gF hb hk;have ih:GrwOK O P C O2 P2 C2 k:=zFW s g ho aH;have bB:=s.le;have Cw:=g.s.le;have g0:=Q.O.one;have g1:=Q.P.one;have g2:=Q.C.one;have f0:=J.O.one;have f1:=J.P.one;have f2:=J.C.one;have U:=hI.one;have X:=pF.one;have ek:((k+1:Nat):Int)-1=(k:Int):=aH
  rw[ek];refine Tn Tryz.func198 ?_;simp only[Z3,seval,-ae,g0,g1,g2,f0,f1,f2,U,X];generalize W:(σ.cb [vO,vP,vC]).cb [uO,uP,uC]=H;have kH:dq σ H:=by rw[<-W];exact(zB _ _).cb _
  have eG:H.bY=σ.bY+2:=by rw[<-W];rfl
  have bK:H.cd σ.bY=Ik [vO,vP,vC]:=by rw[<-W];simp only[Z3,seval,-ae]
  have cM:H.cd (σ.bY+1)=Ik [uO,uP,uC]:=by rw[<-W];simp only[Z3,seval,-ae]
  clear W;have OS:=pF.ne (sB _);have Ii:=pF.ne (Yb _);have e1:¬(k:Int)<0:=aH
  have r0:∀{h:dj} {v:PV},Gr1 H vF h v->h.rd σ.bY 0 3=Ik [vO,vP,vC]:=λ{h v} G=>by rw[zN (by rw[G.cd _ aH OS];exact bK)];rfl
  have r1:∀{h:dj} {v:PV},Gr1 H vF h v->h.rd (σ.bY+1) 0 3=Ik [uO,uP,uC]:=λ{h v} G=>by rw[zN (by rw[G.cd _ aH Ii];exact cM)];rfl
  have G0:=Gr1.refl H vF;simp only[Z3,seval,-ae,e1,U,X,r0 G0,r1 G0,g0,g1,g2,f0,f1,f2];refine zG8 s Q g J aH hI Ae uz λvZ Z fZ ZS hZ=>?_;obtain⟨wZ,aZ,rZ,rfl,B7⟩:=fZ;have Ox:(Tw Z)<=27:=aH
  obtain⟨B,hB⟩:∃B,B=32 ^ k:=⟨_,rfl⟩
  have OX:32 ^ (k+1)=32*B:=by rw[hB,Nat.pow_succ,Nat.mul_comm]
  rw[OX]at hb hk;simp only[Z3,seval,-ae,U,X];refine zF (λm vs h=>∃(j:Nat) (v:PV) (n':Nat) (cs:List PV) (L:V3),j<=Tw Z/\m=Tw Z-j/\vs=[.int .i64 k,vI,v,.ptr σ.bY 0,.ptr (σ.bY+1) 0,.fz wZ aZ (Tw Z) rZ,.int .i64 j]/\Gr1 H vF h v/\fB 0 1 h v n' cs/\ez hK cs L/\FF (Tw O) (gS O2) L/\n'<=n+j*B) (Tw Z) ?_ ?_
  .exact⟨0,vF,n,cs,L,YQ _,rfl,rfl,G0,pF.c7 kH,aF,gF,aH⟩
  rintro m vs h ⟨j,v,n',dc,L',hj,rfl,rfl,G,Y,a',Ew,jM⟩
  have v1:=Y.one;simp only[Z3,seval,-ae,U,v1];refine Tr (λan=>?_) λaf=>?_
  .have NW:j*B<=27*B:=M0 B aH;exact hk v h n' dc L' (G.of kH) Y a' Ew aH
  have ah:(j:Int)<(Tw Z:Int):=aH
  have wj:Tu .i64 ((j:Int)+1)=((j+1:Nat):Int):=WQ
  have NW:j*B<=27*B:=M0 B aH;have NV:(j+1)*B=j*B+B:=Nat.succ_mul j B;refine zAI hI ⟨aH,λy hy=>by have:=(uz y hy).len;omega⟩ λvN V rows k1 pN aN=>?_;have G1:=G.c7 k1;have N1:=pN.one;obtain⟨E,cap,rfl,q1,q2,q3,q4,q5⟩:=pN;obtain⟨T,S,h8⟩:=B7.rowI af;have zS:=ZS _ (ss af);have fz:FI (.fz T S Z[j].length (eh Z[j])) Z[j]:=⟨T,S,rfl⟩;have kj:k<Tw I:=aH
  have G8:(k:Int)<(Tw I:Int):=aH
  have hw:=ZE q2 (i:=k) (v:=.fz T S Z[j].length (eh Z[j])) aH fz.one;have OP:=G.bY;have n0:¬σ.bY=E:=aH
  have n1:¬σ.bY+1=E:=aH
  have dY:Tu .i64 ((k:Int)-1)=(k:Int)-1:=WE;simp only[Z3,seval,-ae,U,v1,N1,af,ah,h8,kj,G8,hw,n0,n1,r0 G1,r1 G1,g0,g1,g2,f0,f1,f2,dY];have nv:∀off l c,v≠.sl E off l c:=Y.ne q4;have pK:fB 0 1 (V.set E (rows.set k (.fz T S Z[j].length (eh Z[j])))) v n' dc:=by
   rcases Y.c7 k1 with a|⟨t,cap,rfl,V,h2,h3,h4,h5⟩
   .exact .inl a
   .exact .inr ⟨t,cap,rfl,V,by rw[zG,Iv (λe=>nv 0 n' cap (by rw[e]))];exact h2,h3,h4,h5⟩
  have G2:Gr1 H vF (V.set E (rows.set k (.fz T S Z[j].length (eh Z[j])))) v:=G.c7 (k1.set q4 _);have eA:(V.set E (rows.set k (.fz T S Z[j].length (eh Z[j])))).cd E=Ik (rows.set k (.fz T S Z[j].length (eh Z[j]))):=by rw[zG,Iu rfl]
  have RZ:(V.set E (rows.set k (.fz T S Z[j].length (eh Z[j])))).bY=V.bY:=rfl;generalize V.set E (rows.set k (.fz T S Z[j].length (eh Z[j])))=h2 at *
  have K9:=aN.set k fz;refine zA.frz (s:=E) eA (K9.bI 0) λo=>?_;have bv:Go.Ab.sb E o (rows.set k (.fz T S Z[j].length (eh Z[j]))) v=v:=by
   rcases pK with ⟨rfl,_⟩|⟨t,aq,rfl,_⟩
   .rfl
   .have:¬t=E:=λe=>nv 0 n' aq (by rw[e])
    simp only[Go.Ab.sb,this,false_and,if_false]
  have bb:∀{z:PV},DA 0 z->Go.Ab.sb E o (rows.set k (.fz T S Z[j].length (eh Z[j]))) z=z:=λh=>ZL (YQ _) h;have b1:=bb (Q.O.bel 0);have b2:=bb (Q.P.bel 0);have b3:=bb (Q.C.bel 0);have b4:=bb (J.O.bel 0);have b5:=bb (J.P.bel 0);have b6:=bb (J.C.bel 0);simp only[nD,Go.Ab.sb,bv,b1,b2,b3,b4,b5,b6,q1.ok,and_self,if_true,mr];have mM:(I.set k Z[j]).length=Tw I:=Yx;refine ih (I:=I.set k Z[j]) Q J ⟨Im,_,_,by rw[mM],K9⟩ (by rw[mM];exact Ae) (λy hy=>?_) (fB.kill0 (n:=n') pK nv) a' Ew (by rw[<-hB];omega) λv2 h3 n2 cs2 L2 G3 p2 a2 Pt mw=>?_
  .rcases O3 hy with h|h
   .exact uz y h
   .rw[h];exact zS
  simp only[Z3,seval,-ae,p2.one,U,wj];exact⟨_,aH,j+1,v2,n2,cs2,L2,aH,rfl,rfl,(G2.kill aH).trans G3,p2,a2,Pt,by rw[<-hB]at mw;omega⟩
end
def zIQ(g:LG O P C)(m:eQ vO vP vC O P C)(S:hK vU u)(X:zh O P C u)(W:∀t:Bool,(t=Im↔NorG O P C u)->K (.bool t) σ):zA Tp 177 [.agg [vO,vP,vC],vU] σ K:=by
 have s:=g.s;have bB:=s.le;have E:=m.O.one;have G:=m.P.one;have H:=m.C.one;have n9:=S;have Hp:(qj O).length=Tw O:=by simp[qj]
 obtain⟨wu,au,ru,rfl,AJ⟩:=S;refine To Tryz.func177 ?_;simp only[Z3,seval,-ae,E,G,H];generalize J:σ.cb [vO,vP,vC]=H1;have Y:dq σ H1:=by rw[<-J];exact zB _ _
 have r3:H1.rd σ.bY 0 3=Ik [vO,vP,vC]:=by rw[<-J];simp only[Z3,seval,-ae]
 clear J;simp only[Z3,seval,-ae,r3,E,G,H];refine zBW m aH λvB Q=>?_;have T:=Q.one;simp only[Z3,seval,-ae,r3,E,G,H,T];refine zG9 g m n9 X Q (zMj s) aH λv L U V=>?_;obtain⟨wl,al,rl,rfl,dR⟩:=U;simp only[Z3,seval,-ae,r3,E,G,H,T];refine Gh.fin0 Y trivial (W _ ?_);rw[decide_eq_true_iff];exact Iff.trans ⟨λh=>aH,λh=>aH⟩ V
end Go.Proofs
