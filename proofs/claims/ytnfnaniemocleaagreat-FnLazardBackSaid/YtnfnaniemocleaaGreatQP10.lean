/- . -/
import Derived.Test.YtnfnaniemocleaaGreatQP9
set_option linter.all false
set_option linter.defProp false
open Go.IntKind renaming wrap->Lp
open List renaming length->Lu
open Go.Proofs.Tryz renaming prog->Li
open Bool renaming false_eq_true->EB,true->DF
open Int renaming mul_le_mul->HI,pow_pos->Ht,pow_succ->HN,tmod_lt_of_pos->HO,toNat_natCast->Fs,toNat_zero->HS
open List renaming drop_eq_getElem_cons->HQ,drop_zero->EC,length_eq_zero_iff->F5,mem_or_eq_of_mem_set->Hs,replicate->Ep,replicate_succ'->HR,set_cons_zero->Eu
open Nat renaming mul_one->Fe,not_lt_zero->Ex,succ_le_succ->H6
open Option renaming map_some->EF,some->Dc
open True renaming intro->DJ
open Int renaming reduceNatCast'->ae
set_option maxRecDepth 100000
namespace Go.Proofs
open Go.Ab Go.Lie Go.Grp
variable{p:Int}{i j k n nC nP r s0 t:Nat}{h h' σ:cg}{c v vA vB vC vL vM vO vP vS vv yC yO yP:PV}{K:PV->cg->Prop}{O O1 O2 bs x xs:V1}{A B M P P1 P2:V2}{C:V3}
section
variable{b s:Nat}{L L':Nat->Nat}{Q:Nat->Prop}{cs:List PV}
def eE.low(a:eE L h n Q v)(H:b<=n):eE L h b Q v:=by
 obtain⟨x,q,s,cap,e,l,u,G,D,E⟩:=a;exact⟨x,q,s,cap,e,l,u,af,D,E⟩
def ft.low{m:Nat}(a:ft L h m Q k n v)(I:b<=m):ft L h b Q k n v:=by
 obtain⟨s,cap,cs,e,l,u,D,N,E,G,H⟩:=a;exact⟨s,cap,cs,e,l,u,D,af,E,G,λc J=>(H c J).low I⟩
def zIN(V:jj vL M)(hm:(Lu M)<=1000)(Y:∀r∈M,Q (Lu r))(Z:∀r∈M,(Lu r)<=1048576)(S:k≠1)(W:b<=σ.aM)
  (X:∀L' h v,cT σ h->(∀t,t<σ.aM->L' t=L t)->ft L' h b Q k (Lu M) v->K v h):zA Li 234 [vL] σ K:=by
 obtain⟨w,a,rows,rfl,N⟩:=V;refine Lg Tryz.func234 ?_;refine Lk ?_;refine zF (λm vs h=>∃(i:Nat) (L':Nat->Nat) (v:PV),i<=Lu M/\m=Lu M-i/\vs=[.fz w a (Lu M) rows,v,.int .i64 i]/\cT σ h/\(∀t,t<σ.aM->L' t=L t)/\ft L' h σ.aM Q k i v) (Lu M) ?_ ?_
 .exact⟨0,nU L σ.aM k,.sl σ.aM 0 0 (.b6 0),YV _,rfl,rfl,zC _ _,qh (na _),σ.aM,.b6 0,[],rfl,.inr rfl,by rw[zI,DK rfl],rfl,na _,YM _,Qf,λc u=>by cases u⟩
 rintro m vs h ⟨i,L',v,hi,rfl,rfl,D,H,G⟩
 have cb:=D.aM;refine Lk ?_;refine Ll (λaG=>?_) λl=>?_
 .have e:i=Lu M:=af
  subst e;exact X L' h v D H (G.low W)
 obtain⟨w1,a1,T⟩:=N.rowI l;have R:(i:Int)<(Lu M:Int):=af
 simp only[Z3,seval,-ae,l,R,T];refine qw rfl (by have:=Z _ (YZ l);omega) λcap u=>?_;have J:eE (nU L' h.aM 1) (h.bf (cS M[i])) σ.aM Q (.sl h.aM 0 M[i].length cap):=eE.fresh af (Y _ (YZ l)) u;refine Lk ?_;refine Bs.push (σ:=σ) (b:=σ.aM) (k:=k) (.inr (G.cf (L':=nU L' h.aM 1) (h':=h.bf (cS M[i])) (UW _) (λt _ E=>by rw[zI,DL af]) (qh (na _)))) S J (D.bf _) (na _) (by show σ.aM<=h.aM+1;omega) af λv2 U I k2 p2 l2 pU Ad _=>?_;have HF:h.aM+1<U.aM:=l2;simp only[Z3,seval,-ae,WX l];exact⟨_,af,i+1,I,v2,af,rfl,rfl,k2,λt E=>by rw[pU t (by show t<h.aM+1;omega),qh (na _) t af];exact H t E,p2⟩
def zF2(hR:dU vO vP vC O P C)(hO:(Lu O)<=1000)(hP:(Lu P)<=1000)(hC:(Lu C)<=1000)(vi:∀q∈C,(Lu q)<=1000)(HZ:∀r∈P,Q (Lu r))(H0:∀q∈C,∀r∈q,Q (Lu r))(hQ:∀m,Q m->m<=1048576)
  (hk:∀L h N wP wC,cT σ h->PW L σ.aM h Q O (Lu P) (Lu C) (λi=>(C.getD i []).length) N wP wC->K (.agg [N,wP,wC]) h):zA Li 196 [.agg [vO,vP,vC]] σ K:=by
 have g0:=hR.O.one;have g1:=hR.P.one;obtain⟨⟨N,Z,rfl⟩,IB,ID⟩:=hR;obtain⟨w2,l,X,rfl,ET⟩:=ID;refine Lg Tryz.func196 ?_;simp only[Z3,seval,-ae,g0,g1];refine qw rfl af λcap hc=>?_;simp only[Z3,seval,-ae,g0,g1];generalize I:(((((σ.bf [PV.fz N Z (Lu O) (cS O),vP,PV.fz w2 l (Lu C) X]).bf [Ln,Ln,Ln]).bf [Ln,Ln,Ln]).bf (cS O)))=H;have fq:H.aM=σ.aM+4:=by rw[<-I];rfl
 have kH:cT σ H:=by rw[<-I];exact(((zC _ _).bf _).bf _).bf _
 have gv:H.bt σ.aM=Dc [PV.fz N Z (Lu O) (cS O),vP,PV.fz w2 l (Lu C) X]:=by rw[<-I];simp only[Z3,seval,-ae]
 have fx:H.bt (σ.aM+1)=Dc [Ln,Ln,Ln]:=by rw[<-I];simp only[Z3,seval,-ae]
 have rK:H.bt (σ.aM+2)=Dc [Ln,Ln,Ln]:=by rw[<-I];simp only[Z3,seval,-ae]
 have tD:H.bt (σ.aM+3)=Dc (cS O):=by rw[<-I];simp only[Z3,seval,-ae]
 clear I;obtain⟨R,Gn⟩:∃R:Nat->Nat,R=λt=>if t=σ.aM+3 then 5 else 7:=⟨_,rfl⟩
 have l5:R (σ.aM+3)=5:=by rw[Gn];simp
 have V:∀t,t≠σ.aM+3->R t=7:=λt ht=>by rw[Gn];simp[ht]
 clear Gn;refine zIN (L:=R) (Q:=Q) (k:=2) (b:=σ.aM) IB hP HZ (λr T=>hQ _ (HZ r T)) LB af λY D J E u W=>?_;have dg:=E.aM;have r2:D.dR σ.aM 1=Dc vP:=by rw[zH (by rw[E.bt _ af];exact gv)];rfl
 have o2:D.bt (σ.aM+2)=Dc [Ln,Ln,Ln]:=by rw[E.bt _ af];exact rK
 have Hh:D.wr (σ.aM+2) 0 [.sl (σ.aM+3) 0 (Lu O) cap,J,Ln]=Dc (D.set (σ.aM+2) [.sl (σ.aM+3) 0 (Lu O) cap,J,Ln]):=by
  rw[zR o2,DK ⟨aK,by simp[W.one];exact⟨rfl,rfl⟩⟩];rfl
 simp only[Z3,seval,-ae,W.one,W.cells,Hh];have pw1:PW Y σ.aM D Q O (Lu P) 0 (λi=>(C.getD i []).length) (.sl (σ.aM+3) 0 (Lu O) cap) J (Ln):=
  ⟨⟨σ.aM+3,cap,rfl,hc,by rw[E.bt _ af];exact tD,af,af,by rw[u _ af];exact l5⟩,.inr W,.inl ⟨rfl,rfl⟩⟩
 have t1:BV σ (D.set (σ.aM+2) [.sl (σ.aM+3) 0 (Lu O) cap,J,Ln]) Q O Y (Lu P) 0 (λi=>(C.getD i []).length) (σ.aM+1) (σ.aM+2) (.sl (σ.aM+3) 0 (Lu O) cap) J (Ln):=
  ⟨(kH.trans E).set af _,by rw[zG,DL af,E.bt _ af];exact fx,by rw[zG,DK rfl],pw1.set7 (by rw[u _ af,V _ af];exact na _) _,by rw[u _ af,V _ af],by rw[u _ af,V _ af],af,⟨af,by show _<D.aM;omega⟩,⟨af,by show _<D.aM;omega⟩⟩
 refine zF (λm vs h=>∃(i:Nat) (L:Nat->Nat) (vC:PV),i<=Lu C/\m=Lu C-i/\vs=[.ptr σ.aM 0,.ptr (σ.aM+1) 0,.ptr (σ.aM+2) 0,.int .i64 i]/\BV σ h Q O L (Lu P) i (λi=>(C.getD i []).length) (σ.aM+1) (σ.aM+2) (.sl (σ.aM+3) 0 (Lu O) cap) J vC/\
  h.bt σ.aM=Dc [PV.fz N Z (Lu O) (cS O),vP,PV.fz w2 l (Lu C) X]/\L σ.aM=7) (Lu C) ?_ ?_
 .exact⟨0,Y,_,YV _,rfl,rfl,t1,by rw[zG,DL af,E.bt _ af];exact gv,by rw[u _ af,V _ af]⟩
 clear t1 pw1 Hh o2 r2 dg W u E gv fx rK tD kH fq l5 V
 rintro m vs h ⟨i,L,vC,hi,rfl,rfl,a,oB,lB⟩
 have xf:=a.ns.2;have rB:h.dR σ.aM 2=Dc (.fz w2 l (Lu C) X):=by rw[zH oB];rfl
 simp only[Z3,seval,-ae,rB];refine Ll (λaG=>?_) λG=>?_
 .have e:i=Lu C:=af
  subst e;obtain⟨u,S,e3,e4⟩:=a.fin;simp only[Z3,seval,-ae,a.r3,u,S];exact hk L _ _ _ vC e3 e4
 have aq:(i:Int)<(Lu C:Int):=af
 obtain⟨w4,a4,B9,T,dz⟩:=ET.rowL G;simp only[Z3,seval,-ae,G,aq,T,rB,a.r2];refine zIN (L:=L) (Q:=Q) (k:=6) (b:=σ.aM) ⟨w4,a4,B9,rfl,dz⟩ (vi _ (YZ G)) (H0 _ (YZ G)) (λr T=>hQ _ (H0 _ (YZ G) r T)) LB af λL2 h2 v2 U S m2=>?_;have l:=a.keepL (a.cf.trans U) U.aM (λt _ ht=>U.bt t ht) S;have LU:=l.ns.2;have n2:¬σ.aM+2=h2.aM:=af
 simp only[Z3,seval,-ae,l.r2,n2,m2.one,m2.cells];refine PW.pushC (m:=C[i].length) l.pw m2 (by show(C.getD i []).length=_;rw[YW,YQ G];rfl) l.cf (na _) af af λv3 h3 L3 k3 p3 l3 o3 m3=>?_;have w3:h3.wr (σ.aM+2) 2 [v3]=Dc (h3.set (σ.aM+2) [.sl (σ.aM+3) 0 (Lu O) cap,J,v3]):=by rw[zR (l.old m3),DK ⟨aK,by simp[p3.hC.one]⟩];rfl
 have a3:=l.step k3 p3 (Y8 l3) m3;have q7:=m3 σ.aM af (by rw[S _ af,lB];exact na _);simp only[Z3,seval,-ae,w3,p3.hC.cells,WX G];refine⟨_,af,i+1,L3,v3,af,rfl,rfl,a3,?_,by rw[q7.2,S _ af];exact lB⟩
 first|(rw[zG,DL af,q7.1,U.bt _ af];exact oB)|(rw[q7.1,U.bt _ af];exact oB)
end
section
variable{b s:Nat}{L L':Nat->Nat}{Q:Nat->Prop}{len:Nat->Nat}{cs:List PV}
def PW.lenE{l:Nat->Nat}(a:PW L b h Q O nP nC len vO vP vC)(D:∀i,i<nC->len i=l i):PW L b h Q O nP nC l vO vP vC:=by
 refine⟨a.hO,a.hP,a.hC.imp id λ⟨s,cap,cs,e,E,G,H,I,J,N,R⟩=>⟨s,cap,cs,e,E,G,H,I,J,N,λi c u=>?_⟩⟩;have S:=(Yj.1 u).1;rw[<-D i af];exact R i c u
def TB.putPx(a:TB b h Q O L nP nC len r s vO vP vC)(H:i<nP):∃l cap,vP=.sl l 0 nP cap/\b<=l/\l<h.aM/\∀{xs:V1} {cp:jZ},Q (Lu xs)->full 1 cp (Lu xs)->
  ∃u L',(h.bf (cS xs)).wr l i [.sl h.aM 0 (Lu xs) cp]=Dc ((h.bf (cS xs)).set l u)/\TB b ((h.bf (cS xs)).set l u) Q O L' nP nC len r s vO vP vC:=by
 obtain⟨l,cap,cs,e,T,U,V,D,E,_⟩:=a.pw.powers af;refine⟨l,cap,e,D,E,λ{xs cp} I G=>?_⟩;obtain⟨J,N,u,e',R,S,w,a'⟩:=(a.fresh (cS xs) 1).putP H (eE.fresh (L:=L) (b:=b) (by have:=a.ns;omega) I G);rw[e]at e';simp only[PV.sl.injEq]at e';obtain⟨rfl,_⟩:=e';exact⟨u,_,w,a'⟩
def TB.putCx(a:TB b h Q O L nP nC len r s vO vP vC)(H:i<nC)(T:j<len i):∃l cap t u,vC=.sl l 0 nC cap/\h.dR l i=Dc (.sl t 0 (len i) u)/\b<=l/\l<h.aM/\b<=t/\t<h.aM/\∀{xs:V1} {cp:jZ},Q (Lu xs)->full 1 cp (Lu xs)->
  ∃D L',(h.bf (cS xs)).dR l i=Dc (.sl t 0 (len i) u)/\(h.bf (cS xs)).wr t j [.sl h.aM 0 (Lu xs) cp]=Dc ((h.bf (cS xs)).set t D)/\TB b ((h.bf (cS xs)).set t D) Q O L' nP nC len r s vO vP vC:=by
 obtain⟨l,cap,t,u,e,G,I,J,cs,h4,h5,h6,N,R,_⟩:=a.pw.mT H;refine⟨l,cap,t,u,e,G,I,J,N,R,λ{xs cp} U S=>?_⟩;obtain⟨V,X,t',W,D,e',E,Y,Z,g3,g4,w,a'⟩:=(a.fresh (cS xs) 1).putC H T (eE.fresh (L:=L) (b:=b) (by have:=a.ns;omega) U S);rw[e]at e';simp only[PV.sl.injEq]at e';obtain⟨rfl,_⟩:=e';have q:(h.bf (cS xs)).dR l i=Dc (.sl t 0 (len i) u):=by rw[zFu,DL af];exact G
 rw[q]at E;simp only[YC,PV.sl.injEq]at E;obtain⟨rfl,_⟩:=E;exact⟨D,_,q,w,a'⟩
def TB.setPm(a:TB b h Q O L nP nC len r s vO vP vC)(hs:s0<b)(R:s0≠r)(H:i<nP)(I:∀m,Q m->j<m):
  ∃l cap t m u,vP=.sl l 0 nP cap/\h.dR l i=Dc (.sl t 0 m u)/\Q m/\∀h',Mv h s0 h'->h'.dR l i=Dc (.sl t 0 m u)/\∀y,∃D,h'.wr t j [.int .i64 y]=Dc (h'.set t D)/\b<=t/\TB b (h'.set t D) Q O L nP nC len r s vO vP vC:=by
 obtain⟨l,cap,t,m,u,e,G,q,h2,h3,S,h5,_⟩:=a.setP H I;refine⟨l,cap,t,m,u,e,G,q,λh' mv=>?_⟩;obtain⟨U,V,t',m',T,e',E,q',W,X,Y,Z,w⟩:=(a.mv hs R mv).setP H I;rw[e]at e';simp only[PV.sl.injEq]at e';obtain⟨rfl,_⟩:=e';have J:h'.dR l i=Dc (.sl t 0 m u):=by unfold cg.dR at G ⊢;rw[mv.bt af];exact G
 rw[J]at E;simp only[YC,PV.sl.injEq]at E;obtain⟨rfl,_⟩:=E;exact⟨J,λy=>by obtain⟨D,w1,N⟩:=w y;exact⟨D,w1,S,N⟩⟩
def TB.setCm(a:TB b h Q O L nP nC len r s vO vP vC){l:Nat}(hs:s0<b)(W:s0≠r)(S:i<nC)(U:l<len i)(T:∀m,Q m->j<m):
  ∃D cap u G t m E,vC=.sl D 0 nC cap/\h.dR D i=Dc (.sl u 0 (len i) G)/\h.dR u l=Dc (.sl t 0 m E)/\Q m/\∀h',Mv h s0 h'->h'.dR D i=Dc (.sl u 0 (len i) G)/\h'.dR u l=Dc (.sl t 0 m E)/\
   ∀y,∃H,h'.wr t j [.int .i64 y]=Dc (h'.set t H)/\b<=t/\TB b (h'.set t H) Q O L nP nC len r s vO vP vC:=by
 obtain⟨D,cap,u,G,t,m,E,e,N,R,q,f1,f2,f3,f4,X,f6,_⟩:=a.setC S U T;refine⟨D,cap,u,G,t,m,E,e,N,R,q,λh' mv=>?_⟩;obtain⟨Y,Z,u',c2,t',m',c3,e',I,J,q',k1,k2,k3,k4,k5,k6,w⟩:=(a.mv hs W mv).setC S U T;rw[e]at e';simp only[PV.sl.injEq]at e';obtain⟨rfl,_⟩:=e';have r1:h'.dR D i=Dc (.sl u 0 (len i) G):=by unfold cg.dR at N ⊢;rw[mv.bt af];exact N
 rw[r1]at I;simp only[YC,PV.sl.injEq]at I;obtain⟨rfl,_⟩:=I;have r2:h'.dR u l=Dc (.sl t 0 m E):=by unfold cg.dR at R ⊢;rw[mv.bt af];exact R
 rw[r2]at J;simp only[YC,PV.sl.injEq]at J;obtain⟨rfl,_⟩:=J;exact⟨r1,r2,λy=>by obtain⟨H,w1,V⟩:=w y;exact⟨H,w1,X,V⟩⟩
structure Shl(O:V1)(P:V2)(C:V3):Prop where
 le:(Lu O)<=6
 pr:∀j,j<Lu O->2<=at_ O j/\at_ O j<=7
 pl:(Lu P)=Lu O
 cl:(Lu C)=Lu O
 row:∀i,i<Lu O->(C.getD i []).length=Lu O-1-i
 pe:∀r∈P,(Lu r)=Lu O
 ce:∀q∈C,∀r∈q,(Lu r)=Lu O
def zSj(J:qG O P C):Shl O P C:=by
 have l:=J.shp;refine⟨l.le,l.pr,l.pl,l.cl,l.row,λr D=>?_,λq N r D=>?_⟩
 .obtain⟨i,u,rfl⟩:=YR.1 D
  have:=(l.pw i (by rw[<-l.pl];exact u)).len
  unfold eM at this;rw[YW,YQ u]at this;exact this
 .obtain⟨i,u,rfl⟩:=YR.1 N;have H:i<Lu O:=by rw[<-l.cl];exact u
  have E:C.getD i []=C[i]:=by rw[YW,YQ u];rfl
  have I:=l.row i H;rw[E]at I;obtain⟨k,G,rfl⟩:=YR.1 D
  have:=(l.cj i (i+1+k) af af).len
  unfold du at this;rw[E,show i+1+k-i-1=k by omega,YW,YQ G]at this;exact this
def zGz(so:So σ s0 vS bs)(hR:dU vO vP vC O P C)(hp:Shl O P C)
  (hk:∀wO wP wC P' C' σ',dU wO wP wC O P' C'->Cw (λm=>m=Lu O) P' C' (Lu O) (Lu O) (λi=>(Lu O)-1-i)->Mv σ s0 σ'->So σ' s0 vS bs->K (.agg [wO,wP,wC]) σ'):zA Li 131 [.ptr s0 0,.agg [vO,vP,vC]] σ K:=by
 have J:=hp;have aX:=J.le;have g0:=hR.O.one;have g1:=hR.P.one;have g2:=hR.C.one;have W:=so.lt;have A8:∀q∈C,(Lu q)<=1000/\∀r∈q,(Lu r)=Lu O:=λq hq=>by
  obtain⟨i,hi,rfl⟩:=YR.1 hq;have fJ:i<Lu O:=by rw[<-J.cl];exact hi
  have R:C.getD i []=C[i]:=by rw[YW,YQ hi];rfl
  have hl:=J.row i fJ;rw[R]at hl;exact⟨af,J.ce _ (YZ hi)⟩
 have Gg:∀r∈P,(Lu r)=Lu O:=J.pe;refine zA.gh ?_;refine qH mix Tryz.func131 ?_;simp only[Z3,seval,-ae,g0,g1,g2];generalize hH:((σ.bf [vO,vP,vC]).bf [Ln,Ln,Ln])=H;have fq:H.aM=σ.aM+2:=by rw[<-hH];rfl
 have kH:cT σ H:=by rw[<-hH];exact(zC _ _).bf _
 have fx:H.bt (σ.aM+1)=Dc [Ln,Ln,Ln]:=by rw[<-hH];simp only[Z3,seval,-ae]
 clear hH;refine zF2 (Q:=λm=>m=Lu O) hR af (by rw[J.pl];omega) (by rw[J.cl];omega) (λq hq=>(A8 q hq).1) Gg (λq hq=>(A8 q hq).2) (λm hm=>af) λL h uO G E k1 p1=>?_;have dg:=k1.aM;have p2:PW L H.aM h (λm=>m=Lu O) O (Lu O) (Lu O) (λi=>(Lu O)-1-i) uO G E:=by
  rw[J.pl,J.cl]at p1;exact p1.lenE λi hi=>J.row i hi
 have a:=TB.start p2 (r:=σ.aM+1) af (by rw[k1.bt _ af];exact fx) dg;obtain⟨D,capO,eO,PD,PC,PB,PA,Pz⟩:=p2.hO;subst eO;have dF:KM σ s0 (h.bf [.sl D 0 (Lu O) capO,G,E]):=so.kmK ((kH.trans k1).bf _);have cL:So (h.bf [.sl D 0 (Lu O) capO,G,E]) s0 vS bs:=so.cf ((kH.trans k1).bf _);simp only[Z3,seval,-ae,p2.hP.one,p2.hC.one];have T:s0≠σ.aM+1:=af
 have S:s0<H.aM:=af
 have fin:∀{g:cg} {L':Nat->Nat},KM σ s0 g->So g s0 vS bs->TB H.aM g (λm=>m=Lu O) O L' (Lu O) (Lu O) (λi=>(Lu O)-1-i) (σ.aM+1) h.aM (.sl D 0 (Lu O) capO) G E->
   g.wr (σ.aM+1) 0 [.sl D 0 (Lu O) capO,G,E]=Dc (g.set (σ.aM+1) [.sl D 0 (Lu O) capO,G,E])/\(g.set (σ.aM+1) [.sl D 0 (Lu O) capO,G,E]).rd (σ.aM+1) 0 3=Dc [.sl D 0 (Lu O) capO,G,E]/\Gh σ K (.agg [.sl D 0 (Lu O) capO,G,E]) (g.set (σ.aM+1) [.sl D 0 (Lu O) capO,G,E]):=λ{g L'} km bQ a=>by
  obtain⟨R,Y,Z⟩:=a.fin;exact⟨R,Y,Z.finKM (km.set af _) (bQ.set af _) W af λwO wP wC P C σ' I x2 x3 N=>hk wO wP wC P C σ' I x2 x3 N⟩
 generalize h.bf [PV.sl D 0 (Lu O) capO,G,E]=g at *
 have H5:(Lu O)<=6:=aX;refine zZ cL af λI g1 ig m1 bA=>?_;have a1:=a.mv S T m1;have bW:=dF.mv W m1;have JH:=ig.1;have bG:Lp .i64 ((Lu O:Int)-1)=(Lu O:Int)-1:=WE;have JG:I<=6:=by
  rcases Us 1 (Lu O:Int)with q|q
  .have:=ig.2.2 q;omega
  .have:=ig.2.1 q;omega
 have ta:Lp .i64 ((Lu O:Int)-1-I)=(Lu O:Int)-1-I:=WE;have De:Lp .i64 (I+1)=I+1:=WE;simp only[Z3,seval,-ae,bG,ta,De];refine zZ bA af λx2 g2 iX m2 dD=>?_;have a2:=a1.mv S T m2;have eU:=bW.mv W m2;have O3:=iX.1;have O0:x2<=6:=by
  rcases Us 1 ((Lu O:Int)-1-I)with q|q
  .have:=iX.2.2 q;omega
  .have:=iX.2.1 q;omega
 have JQ:Lp .i64 (I+1+x2)=I+1+x2:=WE;simp only[Z3,seval,-ae,JQ];refine de (λaG=>?_) λaD=>?_
 .obtain⟨R,Y,Z⟩:=fin eU dD a2;simp only[Z3,seval,-ae,a2.r3,R,Y];exact Z
 obtain⟨i,rfl⟩:∃i:Nat,I=i:=⟨I.toNat,af⟩
 obtain⟨j,hj⟩:∃j:Nat,(i:Int)+1+x2=j:=⟨((i:Int)+1+x2).toNat,af⟩
 rw[hj];have cw:i<Lu O:=af
 have U:j<Lu O:=af
 have pK:(i:Int)<(Lu O:Int):=af
 have gT:(j:Int)<(Lu O:Int):=af
 refine Lk ?_;refine zZ dD LB λx3 g3 P6 m3 dN=>?_;have a3:=a2.mv S T m3;have jG:=eU.mv W m3;have gG:∀{g:cg} {L':Nat->Nat},TB H.aM g (λm=>m=Lu O) O L' (Lu O) (Lu O) (λi=>(Lu O)-1-i) (σ.aM+1) h.aM (.sl D 0 (Lu O) capO) G E->g.dR D j=Dc (.int .i64 (at_ O j)):=λ{g L'} a=>by
  obtain⟨s',c',e,q,_⟩:=a.pw.hO.rd U;simp only[PV.sl.injEq]at e;obtain⟨rfl,_⟩:=e;exact q
 have oj:=(J.pr j U);refine Lk ?_;refine de (λh0=>?_) λgg=>?_
 .obtain⟨sP,capP,t,m,dL,rfl,q1,q2,q3⟩:=a3.setPm (j:=j) S T cw (λm hm=>by rw[hm];exact U);subst q2;simp only[Z3,seval,-ae,a3.r1,a3.r0,cw,pK,q1,U,gT,gG a3];refine zZ dN af λy g4 hy m4 fF=>?_;obtain⟨q4,q5⟩:=q3 g4 m4;have V:=a3.mv S T m4;obtain⟨X,w,Iw,a5⟩:=q5 y;have rR:=(jG.mv W m4).set (t:=t) af X;have rE:=fF.set (t:=t) af X;generalize g4.set t X=g5 at *
  simp only[Z3,seval,-ae,V.r1,q4,U,gT,w];obtain⟨R,Y,Z⟩:=fin rR rE a5;simp only[Z3,seval,-ae,a5.r3,R,Y];exact Z
 have JP:Lp .i64 ((Lu O:Int)-1-(i:Int))=(Lu O:Int)-1-(i:Int):=WE;simp only[Z3,seval,-ae,bG,De,JP];refine zZ dN af λN g4 HL m4 fF=>?_;have V:=a3.mv S T m4;have fW:=jG.mv W m4;have OZ:=HL.1;have OY:N<(Lu O:Int)-1-(i:Int):=HL.lt af;have JO:Lp .i64 ((i:Int)+1+N)=(i:Int)+1+N:=WE;have JN:Lp .i64 ((i:Int)+1+N-(i:Int))=N+1:=WQ
 have JM:Lp .i64 (N+1-1)=N:=WQ
 obtain⟨l,rfl⟩:∃l:Nat,N=l:=⟨N.toNat,af⟩
 have hl:l<Lu O-1-i:=af
 have oK:l<Lu O-(1+i):=af
 have fH:(l:Int)<((Lu O-1-i:Nat):Int):=af
 have bK:(l:Int)<((Lu O-(1+i):Nat):Int):=af
 obtain⟨sC,capC,u,lJ,t,m,dL,rfl,q1,wE,q2,q3⟩:=V.setCm (j:=j) S T cw hl (λm hm=>by rw[hm];exact U);subst q2;simp only[Z3,seval,-ae,De,JO,JN,JM,V.r2,V.r0,cw,pK,q1,wE,hl,oK,fH,bK,U,gT,gG V];refine zZ fF af λy g5 hy m5 rE=>?_;obtain⟨q4,KB,q5⟩:=q3 g5 m5;have a5:=V.mv S T m5;obtain⟨X,w,Iw,a6⟩:=q5 y;have rR:=(fW.mv W m5).set (t:=t) af X;have vY:=rE.set (t:=t) af X;generalize g5.set t X=g6 at *
 simp only[Z3,seval,-ae,a5.r2,q4,KB,hl,oK,fH,bK,U,gT,w];obtain⟨R,Y,Z⟩:=fin rR vY a6;simp only[Z3,seval,-ae,a6.r3,R,Y];exact Z
end
section
variable{b s:Nat}{L L':Nat->Nat}{Q Q':Nat->Prop}{len:Nat->Nat}{cs:List PV}
def zET{k0:Nat}(Z:ft L σ b Q k0 n v)(hm:n<=1000)(hr:∀m,Q m->m<=1048576)(S:k≠1)(hb:b<=σ.aM)
  (hk:∀L' h v,cT σ h->(∀t,t<σ.aM->L' t=L t)->ft L' h b Q k n v->K v h):zA Li 234 [v] σ K:=by
 obtain⟨s,cap,cs,rfl,h1,u,h3,h4,X,h6,Y⟩:=Z;refine Lg Tryz.func234 ?_;refine Lk ?_;refine zF (λm vs h=>∃(i:Nat) (L':Nat->Nat) (v:PV),i<=n/\m=n-i/\vs=[.sl s 0 n cap,v,.int .i64 i]/\cT σ h/\(∀t,t<σ.aM->L' t=L t)/\ft L' h σ.aM Q k i v) n ?_ ?_
 .exact⟨0,nU L σ.aM k,.sl σ.aM 0 0 (.b6 0),YV _,rfl,rfl,zC _ _,qh (na _),σ.aM,.b6 0,[],rfl,.inr rfl,by rw[zI,DK rfl],rfl,na _,YM _,Qf,λc D=>by cases D⟩
 rintro m vs h ⟨i,L',v,hi,rfl,rfl,l,I,H⟩
 have cb:=l.aM;refine Lk ?_;refine Ll (λaG=>?_) λE=>?_
 .have e:i=n:=af
  subst e;exact hk L' h v l I (H.low hb)
 obtain⟨x,q,t,U,e,g1,V,g3,W,g5⟩:=Y _ (YZ (af:i<Lu cs));have R:(i:Int)<(n:Int):=af
 have rd:h.dR s i=Dc (.sl t 0 (Lu x) U):=by unfold cg.dR;rw[l.bt s X,u,<-e];exact YQ af
 simp only[Z3,seval,-ae,E,R,rd];refine zDC (by rw[l.bt t W];exact V) af (hr _ q) λT D=>?_;have N:eE (nU L' h.aM 1) (h.bf (cS x)) σ.aM Q (.sl h.aM 0 (Lu x) T):=eE.fresh af q D;refine Lk ?_;refine Bs.push (σ:=σ) (b:=σ.aM) (k:=k) (.inr (H.cf (L':=nU L' h.aM 1) (h':=h.bf (cS x)) (UW _) (λt _ G=>by rw[zI,DL af]) (qh (na _)))) S N (l.bf _) (na _) (by show σ.aM<=h.aM+1;omega) af λv2 u J k2 p2 l2 pU Ad _=>?_;have HF:h.aM+1<u.aM:=l2;simp only[Z3,seval,-ae,WX E];exact⟨_,af,i+1,J,v2,af,rfl,rfl,k2,λt G=>by rw[pU t (by show t<h.aM+1;omega),qh (na _) t af];exact I t G,p2⟩
def Bs.pushG{H:PV×cg->Prop}{x:PV}(a:Bs L h b Q k n v)(U:k≠1)(hc:eE L h b Q c)(hx:vd x=Dc 1)(hf:ZV 1 h x 1=Dc [c])(hk:cT σ h)(hb:σ.aM<=b)(u4:b<=h.aM)(hn:n<=1048576)
  (kk:∀G h' L',cT σ h'->ft L' h' b Q k (n+1) G->h.aM<h'.aM->(∀t,t<h.aM->L' t=L t)->(∀t,t<h.aM->L t≠k->h'.bt t=h.bt t)->(∀t,t<b->h'.bt t=h.bt t)->H (G,h')):fw (qL 1 24 h v x) H:=by
 obtain⟨cs,acc,W,hL⟩:=a.acc;refine ei.appS (m:=1) (news:=[c]) hk (acc.low hb) hx LB hf rfl af af λG h' k1 T R n1 l1=>?_;obtain⟨D,I,rfl,X,Y,Z,g4,g5⟩:=T;have J:h.aM<=D:=by
  rcases YG D h.aM with q|q
  .exact absurd rfl (n1 D q 0 _ I)
  .exact q
 have S:∀t,t<h.aM->L t≠k->h'.bt t=h.bt t:=λt u E=>R t u λoff l c e=>E (hL t off l c e);have V:h.aM<=h'.aM:=af
 have N:∀{d:PV},eE L h b Q d->eE (nU L D k) h' b Q d:=λ{d} hd=>hd.keepK (k:=k) (Ne.symm U) V (λt _ u E=>S t u E) λt u _=>qh J t u;refine kk _ h' (nU L D k) k1 ⟨D,I,cs++[c],rfl,X,Y,by simpa using Z,af,g5,Qf,λd hd=>?_⟩ l1 (qh J) S λt u=>?_
 .rcases YY.1 hd with hd|hd
  .exact N (W d hd)
  .rw[YT.1 hd];exact N hc
 .refine R t af λoff l c e=>?_;rcases acc with ⟨rfl,_,_⟩|⟨s,cap,rfl,q1,q2,q3,q4,q5⟩
  .cases e
  .simp only[PV.sl.injEq]at e;omega
def TB.keepK(a:TB b h Q O L nP nC len r s vO vP vC)(H:6<=k)(J:k≠7)(I:h.aM<=h'.aM)(G:∀t,t<b->h'.bt t=h.bt t)(D:∀t,t<h.aM->L t≠k->h'.bt t=h.bt t)(u:∀t,t<h.aM->L' t=L t):TB b h' Q O L' nP nC len r s vO vP vC:=
 ⟨by rw[G r a.hr];exact a.res,a.hr,by rw[D s a.ns.2 (by rw[a.ls];exact Ne.symm J)];exact a.ob,a.pw.keepK H I (λt _ l E=>D t l E) λt l _=>u t l,by rw[u s a.ns.2];exact a.ls,⟨a.ns.1,by have:=a.ns.2;omega⟩⟩
def zDZ{u:Nat}{cap:jZ}(l:h.bt u=Dc [c]):ZV 1 h (.sl u 0 1 cap) 1=Dc [c]:=by
 rw[ZG,DL LB,DK (na _),zV l];rfl
def PW.pushO{I:PV×cg->Prop}{y:Int}(a:PW L b h Q O nP nC len vO vP vC)(hk:cT σ h)(hb:σ.aM<=b)(u4:b<=h.aM)(hn:(Lu O)<=1048576)
  (kk:∀H h' L',cT σ h'->PW L' b h' Q (O++[y]) nP nC len H vP vC->h.aM<h'.aM->(∀t,t<b->h'.bt t=h.bt t)->(∀t,t<h.aM->7<=L t->h'.bt t=h.bt t/\L' t=L t)->I (H,h')):fw (qL 1 8 (h.bf [.int .i64 y]) vO (.sl h.aM 0 1 (.b6 1))) I:=by
 obtain⟨s,cap,rfl,Y,Z,h3,h4,h5⟩:=a.hO;have acc:ei b 1 h (.sl s 0 (Lu O) cap) (Lu O) (cS O):=.inr ⟨s,cap,rfl,Y,Z,by rw[zJ,Fe],h3,h4⟩;refine ei.pushS hk (acc.low hb) rfl af af λH h' k1 T R n1 l1=>?_;obtain⟨D,J,rfl,V,W,g3,g4,X⟩:=T;have U:h.aM<=D:=by
  rcases YG D h.aM with q|q
  .exact absurd rfl (n1 D q 0 _ J)
  .exact q
 have S:∀t,t<h.aM->L t≠5->h'.bt t=h.bt t:=λt u E=>R t u λoff l c e=>E (by simp only[PV.sl.injEq]at e;rw[<-e.1];exact h5);have N:∀t,b<=t->t<h.aM->L t≠5->h'.bt t=h.bt t:=λt _ u E=>S t u E;have G:∀t,t<h.aM->L t≠5->nU L D 5 t=L t:=λt u _=>qh U t u;have hx:cS O++[.int .i64 y]=cS (O++[y]):=by simp[cS]
 refine kk _ h' (nU L D 5) k1 ⟨⟨D,J,aK,by simpa using V,by rw[W,hx],af,X,Qf⟩,a.hP.imp id λa=>a.keepK (k:=5) LB LB af N G,a.hC.imp id λa=>a.keepK (k:=5) LB LB LB af N G⟩ l1 (λt u=>?_) λt u h7=>⟨S t u af,G t u af⟩
 exact R t af λoff l c e=>by simp only[PV.sl.injEq]at e;omega
def PW.setO{y:Int}(a:PW L b h Q O nP nC len vO vP vC)(N:i<Lu O):∃l cap,vO=.sl l 0 (Lu O) cap/\b<=l/\l<h.aM/\L l=5/\h.wr l i [.int .i64 y]=Dc (h.set l (cS (O.set i y)))/\PW L b (h.set l (cS (O.set i y))) Q (O.set i y) nP nC len vO vP vC:=by
 obtain⟨s,cap,rfl,I,J,D,E,u⟩:=a.hO;have G:∀t,b<=t->t<h.aM->L t≠5->(h.set s (cS (O.set i y))).bt t=h.bt t:=λt _ R H=>by rw[zG,DL λe=>H (by rw[e];exact u)]
 refine⟨s,cap,rfl,D,E,u,zGP J N,⟨s,cap,by rw[YA],by rw[YA];exact I,by rw[zG,DK rfl],D,E,u⟩,a.hP.imp id λa=>a.keepK (k:=5) LB LB (na _) G λ_ _ _=>rfl,a.hC.imp id λa=>a.keepK (k:=5) LB LB LB (na _) G λ_ _ _=>rfl⟩
def PW.putMat{m:Nat}(a:PW L b h Q O nP nC len vO vP vC)(hi:i<nC)(E:ft L h b Q 6 m c):∃u cap T L' S,vC=.sl u 0 nC cap/\b<=u/\u<h.aM/\L u=4/\h.wr u i [c]=Dc (h.set u T)/\
  PW L' b (h.set u T) Q O nP nC S vO vP vC/\(∀t,7<=L t->L' t=L t)/\∀j,S j=if j=i then m else len j:=by
 obtain⟨s0,I,G8,rfl,z1,z2,z3,z4,z5,Y,z7⟩:=E;rcases a.hC with ⟨e,_⟩|⟨s,cap,cs,rfl,h1,h2,h3,U,V,H,h7⟩
 .omega
 have D:∀t,L t≠6->nU L s0 3 t=L t:=λt N=>DL λe=>N (by rw[e];exact Y);have J:∀t,L t≠4->(h.set s (cs.set i (.sl s0 0 m I))).bt t=h.bt t:=λt N=>by rw[zG,DL λe=>N (by rw[e];exact H)]
 have X:∀{d:PV},eE L h b Q d->eE (nU L s0 3) (h.set s (cs.set i (.sl s0 0 m I))) b Q d:=λ{d} ⟨x,q,s,cap,e,r1,r2,r3,G,l⟩=>
  ⟨x,q,s,cap,e,r1,by rw[J s (by rw[l];decide)];exact r2,r3,G,by rw[D s (by rw[l];decide)];exact l⟩
 have W:∀{j m:Nat} {d:PV},j≠4->j≠6->ft L h b Q j m d->ft (nU L s0 3) (h.set s (cs.set i (.sl s0 0 _ I))) b Q j m d:=λ{j m d} Fy Z ⟨s,cap,cs,e,r1,r2,r3,G,l,R,r7⟩=>
  ⟨s,cap,cs,e,r1,by rw[J s (by rw[R];exact Fy)];exact r2,r3,G,l,by rw[D s (by rw[R];exact Z)];exact R,λc E=>X (r7 c E)⟩
 refine⟨s,cap,_,nU L s0 3,λj=>if j=i then m else len j,rfl,U,V,H,zBI h2 af rfl,⟨?_,a.hP.imp id (W LB LB),.inr ⟨s,cap,_,rfl,h1,by rw[zG,DK rfl],by rw[YA];exact h3,U,V,by rw[D s (by rw[H];decide)];exact H,λj d hd=>?_⟩⟩,λt ht=>D t af,λj=>rfl⟩
 .obtain⟨s,cap,e,r1,r2,r3,G,l⟩:=a.hO;exact⟨s,cap,e,r1,by rw[J s (by rw[l];decide)];exact r2,r3,G,by rw[D s (by rw[l];decide)];exact l⟩
 .rw[Y4]at hd;by_cases e:i=j
  .subst e;rw[DK rfl,DK af]at hd;cases hd;simp only[if_true];exact⟨s0,I,G8,rfl,z1,by rw[J s0 (by rw[Y];decide)];exact z2,z3,z4,z5,Qf,λc E=>X (z7 c E)⟩
  .rw[DL e]at hd;simp only[DL (Ne.symm e)];exact W LB LB (h7 j d hd)
def eE.weak(a:eE L h b Q v)(l:∀m,Q m->Q' m):eE L h b Q' v:=by
 obtain⟨x,q,a⟩:=a;exact⟨x,l _ q,a⟩
def ft.weak(a:ft L h b Q k n v)(N:∀m,Q m->Q' m):ft L h b Q' k n v:=by
 obtain⟨s,cap,cs,e,l,u,D,E,G,H,I⟩:=a;exact⟨s,cap,cs,e,l,u,D,E,G,H,λc J=>(I c J).weak N⟩
def PW.weak(a:PW L b h Q O nP nC len vO vP vC)(l:∀m,Q m->Q' m):PW L b h Q' O nP nC len vO vP vC:=
 ⟨a.hO,a.hP.imp id λa=>a.weak l,a.hC.imp id λ⟨s,cap,cs,e,u,D,E,G,H,I,J⟩=>⟨s,cap,cs,e,u,D,E,G,H,I,λi c N=>(J i c N).weak l⟩⟩
def TB.weak(a:TB b h Q O L nP nC len r s vO vP vC)(l:∀m,Q m->Q' m):TB b h Q' O L nP nC len r s vO vP vC:=⟨a.res,a.hr,a.ob,a.pw.weak l,a.ls,a.ns⟩
def TB.wroteO{l:V1}{L':Nat->Nat}{D E:Nat}{u:Nat->Nat}(a:TB b h Q O L nP nC len r s vO vP vC)(I:b<=t)(G:L t≠7)(H:L' s=L s){cs:List PV}(p:PW L' b (h.set t cs) Q l D E u vO vP vC):TB b (h.set t cs) Q l L' D E u r s vO vP vC:=
 ⟨by rw[zG,DL (by have:=a.hr;omega)];exact a.res,a.hr,by rw[zG,DL (λe=>G (by rw[<-e];exact a.ls))];exact a.ob,p,by rw[H];exact a.ls,a.ns⟩
structure SmP(O:V1)(P:V2)(C:V3):Prop where
 o:(Lu O)<=64
 ob:∀a∈O,-1000<=a/\a<=1000
 p:(Lu P)<=64
 pr:∀r∈P,(Lu r)<=64
 c:(Lu C)<=64
 q:∀q∈C,(Lu q)<=64
 r:∀q∈C,∀r∈q,(Lu r)<=64
def Cw.sm{N:Nat}(a:Cw (λm=>m<=N) P C nP nC len)(R:N<=64)(G:(Lu O)<=64)(J:∀a∈O,-1000<=a/\a<=1000)(H:nP<=64)(E:nC<=64)(I:∀i,i<nC->len i<=64):SmP O P C:=
 ⟨G,J,by rw[a.pl];exact H,λr D=>by have:(Lu r)<=N:=a.pq r D;omega,by rw[a.cl];exact E,λq u=>by
  obtain⟨i,l,rfl⟩:=YR.1 u
  have:=a.row i (by rw[<-a.cl];exact l)
  rw[YW,YQ l]at this;have e:C[i].length=len i:=this;rw[e];exact I i (by rw[<-a.cl];exact l),λq u r D=>by have:(Lu r)<=N:=a.cq q u r D;omega⟩
end
section
variable{b s:Nat}{L L':Nat->Nat}{Q Q':Nat->Prop}{len:Nat->Nat}{cs:List PV}
def TB.step{I J:Nat}{G:Nat->Nat}{E:V1}{u D l:PV}(a:TB b h Q O L nP nC len r s vO vP vC)(T:PW L' b h' Q E I J G u D l)(U:h.aM<=h'.aM)(R:∀t,t<b->h'.bt t=h.bt t)(S:∀t,t<h.aM->7<=L t->h'.bt t=h.bt t/\L' t=L t):
  h'.bt s=Dc [vO,vP,vC]/\TB b (h'.set s [u,D,l]) Q E L' I J G r s u D l:=by
 have hs:=S s a.ns.2 (by rw[a.ls];exact na _);have ls:L' s=7:=by rw[hs.2];exact a.ls
 have H:=a.hr;have N:=a.ns;exact⟨by rw[hs.1];exact a.ob,⟨by rw[zG,DL af,R r H];exact a.res,H,by rw[zG,DK rfl],T.set7 (by rw[ls];exact na _) _,ls,⟨N.1,by show s<h'.aM;omega⟩⟩⟩
def zIB(l:jl O P C):(∀q∈C,(Lu q)<=6/\∀r∈q,(Lu r)=Lu O)/\∀r∈P,(Lu r)=Lu O:=by
 have N:=l.le;refine⟨λq J=>?_,λr D=>?_⟩
 .obtain⟨i,u,rfl⟩:=YR.1 J;have H:i<Lu O:=by rw[<-l.cl];exact u
  have E:C.getD i []=C[i]:=by rw[YW,YQ u];rfl
  have I:=l.row i H;rw[E]at I;refine⟨af,λr D=>?_⟩;obtain⟨k,G,rfl⟩:=YR.1 D
  have:=(l.cj i (i+1+k) af af).len
  unfold du at this;rw[E,show i+1+k-i-1=k by omega,YW,YQ G]at this;exact this
 .obtain⟨i,u,rfl⟩:=YR.1 D
  have:=(l.pw i (by rw[<-l.pl];exact u)).len
  unfold eM at this;rw[YW,YQ u]at this;exact this
def zNX(so:So σ s0 vS bs)(hR:dU vO vP vC O P C)(hp:qG O P C)
  (hk:∀E G D O' P' C' σ',dU E G D O' P' C'->SmP O' P' C'->Mv σ s0 σ'->So σ' s0 vS bs->K (.agg [E,G,D]) σ'):zA Li 195 [.ptr s0 0,.agg [vO,vP,vC]] σ K:=by
 have sh:=hp.shp;have aX:=sh.le;have g0:=hR.O.one;have l:=hR.P.one;have g2:=hR.C.one;have ah:=so.lt;obtain⟨A8,Gg⟩:=zIB sh;have gG:∀a∈O,-1000<=a/\a<=1000:=λa ha=>by
  have:=hp.2.2.2.1 a ha
  rcases this with h|h|h|h<;>omega
 refine zA.gh ?_;refine QC mix Tryz.func195 cf195 rfl ?_;dsimp only[if195,eI,nI,qD,eD,mI0,lI0,LI0,fI0,cI0,sI0,C1,mD0,lD0,fD0,I0,G0,aI0,yI0,vI0,wD0,R0,S0];simp only[Z3,seval,-ae,g0,l,g2];generalize hH:((σ.bf [vO,vP,vC]).bf [Ln,Ln,Ln])=H;have fq:H.aM=σ.aM+2:=by rw[<-hH];rfl
 have kH:cT σ H:=by rw[<-hH];exact(zC _ _).bf _
 have fx:H.bt (σ.aM+1)=Dc [Ln,Ln,Ln]:=by rw[<-hH];simp only[Z3,seval,-ae]
 clear hH;refine zF2 (Q:=λm=>m<=6) hR af (by rw[sh.pl];omega) (by rw[sh.cl];omega) (λq hq=>by have:=(A8 q hq).1;omega) (λr hr=>by rw[Gg r hr];omega) (λq hq r hr=>by rw[(A8 q hq).2 r hr];omega) (λm hm=>af) λL h uO uP uC k1 p1=>?_;have dg:=k1.aM;have p2:PW L H.aM h (λm=>m<=6) O (Lu O) (Lu O) (λi=>(Lu O)-1-i) uO uP uC:=by
  rw[sh.pl,sh.cl]at p1;exact p1.lenE λi hi=>sh.row i hi
 clear p1;obtain⟨fV,capO,eO,-⟩:=p2.hO;subst eO;have a:=TB.start p2 (r:=σ.aM+1) af (by rw[k1.bt _ af];exact fx) dg;have dF:KM σ s0 (h.bf [.sl fV 0 (Lu O) capO,uP,uC]):=so.kmK ((kH.trans k1).bf _);have cL:So (h.bf [.sl fV 0 (Lu O) capO,uP,uC]) s0 vS bs:=so.cf ((kH.trans k1).bf _);simp only[Z3,seval,-ae,p2.hP.one,p2.hC.one];have fZ:s0≠σ.aM+1:=af
 have cV:s0<H.aM:=af
 have dO:h.aM<(h.bf [.sl fV 0 (Lu O) capO,uP,uC]).aM:=YM _;have fin:∀{g:cg} {L':Nat->Nat} {b':Nat} {Q':Nat->Prop} {O':V1} {nP nC:Nat} {len:Nat->Nat} {E G D:PV},σ.aM+1<b'->KM σ s0 g->So g s0 vS bs->g.bt (σ.aM+1)=Dc [Ln,Ln,Ln]->g.bt h.aM=Dc [E,G,D]->
   PW L' b' g Q' O' nP nC len E G D->(∀P' C',Cw Q' P' C' nP nC len->SmP O' P' C')->g.rd h.aM 0 3=Dc [E,G,D]/\g.wr (σ.aM+1) 0 [E,G,D]=Dc (g.set (σ.aM+1) [E,G,D])/\(g.set (σ.aM+1) [E,G,D]).rd (σ.aM+1) 0 3=Dc [E,G,D]/\Gh σ K (.agg [E,G,D]) (g.set (σ.aM+1) [E,G,D]):=λ{g L' b' Q' O' nP nC len E G D} hb km bQ hr hs p sm=>
  ⟨by rw[zV hs];rfl,by rw[zR hr,DK ⟨aK,by simp[p.hO.one,p.hP.one,p.hC.one]⟩];rfl,by rw[zi,DK rfl];rfl,(p.set af _).finKM (km.set af _) (bQ.set af _) ah af λE G D P C σ' x1 x2 x3 x4=>hk E G D O' P C σ' x1 (sm P C x2) x3 x4⟩
 have fN:∀{g:cg} {L':Nat->Nat} {O':V1} {len:Nat->Nat} {E G D:PV},KM σ s0 g->So g s0 vS bs->TB H.aM g (λm=>m<=7) O' L' (Lu O) (Lu O) len (σ.aM+1) h.aM E G D->(Lu O')<=64->(∀a∈O',-1000<=a/\a<=1000)->(∀i,i<Lu O->len i<=64)->g.rd h.aM 0 3=Dc [E,G,D]/\g.wr (σ.aM+1) 0 [E,G,D]=Dc (g.set (σ.aM+1) [E,G,D])/\(g.set (σ.aM+1) [E,G,D]).rd (σ.aM+1) 0 3=Dc [E,G,D]/\Gh σ K (.agg [E,G,D]) (g.set (σ.aM+1) [E,G,D]):=λ{g L' O' len E G D} km bQ a h1 u V=>
  fin af km bQ a.res a.ob a.pw λP' C' q=>q.sm af h1 u af af V
 generalize h.bf [PV.sl fV 0 (Lu O) capO,uP,uC]=g at *
 generalize nU L h.aM 7=L1 at *
 refine zZ cL LB λx1 l ig m1 bA=>?_;have I:=a.mv cV fZ m1;have bW:=dF.mv ah m1;have JH:=ig.1;have JG:x1<6:=ig.2.2 LB;have EE:h.aM<l.aM:=by rw[m1.aM];exact dO
 clear a dF cL m1 ig;have kN:∀m,m<=6->m<=7:=λm hm=>by omega
 obtain⟨σ',m',bQ,kp,CB⟩:=kmSo bW bA ah;have iG:∀i,i<Lu O->(λi=>(Lu O)-1-i) i<=64:=λi hi=>by show (Lu O)-1-i<=64;omega
 by_cases e0:x1=0
 .subst e0;have n1:¬h.aM=l.aM:=af
  simp only[Z3,seval,-ae,I.r0,n1];refine PW.pushO (σ:=σ') (I.weak kN).pw kp af af af λv2 u L2 J tB l2 o2 q2=>?_;obtain⟨e1,a2⟩:=(I.weak kN).step tB (Y8 l2) o2 q2;have w:u.wr h.aM 0 [v2]=Dc (u.set h.aM [v2,uP,uC]):=by rw[zR e1,DK ⟨aK,by simp[tB.hO.one]⟩];rfl
  have eU:KM σ s0 (u.set h.aM [v2,uP,uC]):=KM.set ⟨σ',m',J⟩ af _;have dD:So (u.set h.aM [v2,uP,uC]) s0 vS bs:=(bQ.cf J).set af _;generalize u.set h.aM [v2,uP,uC]=g2 at *
  obtain⟨R,S,T,U⟩:=fN eU dD a2 (by simp;omega) (λa ha=>by
   rcases YY.1 ha with h|h
   .exact gG a h
   .rw[YT.1 h];decide) iG
  simp only[Z3,seval,-ae,w,tB.hO.cells,R,S,T];exact U
 by_cases e1:x1=1
 .subst e1;by_cases Y:0<Lu O;rotate_left
  .have X:¬(0:Int)<(Lu O:Int):=af
   obtain⟨R,S,T,U⟩:=fN bW bA (I.weak kN) af gG iG;simp only[Z3,seval,-ae,I.r0,X,R,S,T];exact U
  have X:(0:Int)<(Lu O:Int):=af
  have n1:¬h.aM=l.aM:=af
  simp only[Z3,seval,-ae,I.r0,X,Y,n1];refine zAO (t:=l.aM) (xs:=[4,1,11,0,-2]) (bA.cf (zC _ _)) af (by rw[zI,DK rfl];rfl) LB λy g2 hy m2 dD=>?_;have a2:=(I.bf _).mv cV fZ m2;have eU:=(bW.bf _).mv ah m2;obtain⟨bQ,aE,e,hb,Rl,L5,w,p⟩:=(a2.weak kN).pw.setO (y:=y) Y;simp only[PV.sl.injEq]at e;obtain⟨rfl,-,-,rfl⟩:=e;have a3:=(a2.weak kN).wroteO hb af rfl p;have jG:=eU.set (t:=fV) af (cS (O.set 0 y));have dN:=dD.set (t:=fV) af (cS (O.set 0 y));generalize g2.set fV (cS (O.set 0 y))=g3 at *
  obtain⟨R,S,T,U⟩:=fN jG dN a3 (by simp;omega) (λa ha=>by
   rcases Hs ha with h|rfl
   .exact gG a h
   .simp at hy;omega) iG
  have o0:g3.dR h.aM 0=Dc (.sl fV 0 (Lu O) capO):=a3.r0;simp only[Z3,seval,-ae,a2.r0,w,Y,X,R,S,T];exact U
 by_cases e2:x1=2
 .subst e2;by_cases Y:0<Lu O;rotate_left
  .have X:¬(0:Int)<(Lu O:Int):=af
   obtain⟨R,S,T,U⟩:=fN bW bA (I.weak kN) af gG iG;simp only[Z3,seval,-ae,I.r1,I.pw.hP.mo,X,R,S,T];exact U
  have X:(0:Int)<(Lu O:Int):=af
  obtain⟨sP,capP,cs,eP,h1,u,V,h4,h5,h6⟩:=I.pw.powers Y;subst eP;obtain⟨x,q,t,dL,e,q1,q2,q3,q4,q5⟩:=h6 _ (YZ (af:0<Lu cs));have rd:l.dR sP 0=Dc (.sl t 0 (Lu x) dL):=by rw[zH h1,YQ af,e]
  have n1:¬h.aM=l.aM:=af
  have n2:¬sP=l.aM:=af
  simp only[Z3,seval,-ae,I.r1,X,Y,n1,n2,rd];refine zDC (by rw[zI,DL af];exact q2) (by show t<l.aM+1;omega) af λbn c8=>?_;have n3:¬h.aM=l.aM+1:=af
  simp only[Z3,seval,-ae,I.r1,n1,n3];have hf:ZV 1 ((l.bf [PV.int .i64 0]).bf (cS x)) (.sl l.aM 0 1 (.b6 1)) 1=Dc [PV.int .i64 0]:=by
   have:((l.bf [PV.int .i64 0]).bf (cS x)).bt l.aM=Dc [PV.int .i64 0]:=by rw[zI,DL (show ¬l.aM=(l.bf [PV.int .i64 0]).aM fromλe=>by have:l.aM=l.aM+1:=e;omega),zI,DK rfl]
   rw[ZG,DL LB,DK (na _),zV this];rfl
  refine ei.app (σb:=l.bf [.int .i64 0]) (b:=0) (n:=(Lu x)) (m:=1) (cs:=cS x) (news:=[.int .i64 0]) (zC _ _) (YV _) (.inr ⟨l.aM+1,bn,rfl,c8,by rw[zI];exact DK rfl,by rw[zJ];omega,na _,YM _⟩) rfl (λ_=>hf) rfl af af λv2 ie J _ aS=>?_;obtain⟨s',aE,rfl,z1,z2,z3,z4,z5⟩:=aS af;have OX:l.aM+1<=s':=z4;have kk:=(zC l [PV.int .i64 0]).trans J;have a2:TB H.aM ie (λm=>m<=7) O (nU L1 s' 1) (Lu O) (Lu O) (λi=>(Lu O)-1-i) (σ.aM+1) h.aM (.sl fV 0 (Lu O) capO) (.sl sP 0 (Lu O) capP) uC:=(I.weak kN).keepL kk.aM (kk.bt _ I.rlt) (λt _ ht=>kk.bt t ht) (qh af);have aN:eE (nU L1 s' 1) ie H.aM (λm=>m<=7) (.sl s' 0 (Lu x+1) aE):=⟨x++[0],by simp;omega,s',aE,aK,by simpa using z1,by rw[z2];simp[cS],af,z5,Qf⟩
  obtain⟨DG,BO,ds,e',b1,b2,w,a3⟩:=a2.putP Y aN;simp only[PV.sl.injEq]at e';obtain⟨rfl,-,-,rfl⟩:=e';have eU:KM σ s0 (ie.set sP ds):=KM.set (bW.cf kk) af ds;have dD:So (ie.set sP ds) s0 vS bs:=(bA.cf kk).set af ds;have Cc:ie.dR h.aM 1=Dc (.sl sP 0 (Lu O) capP):=a2.r1;generalize ie.set sP ds=g3 at *
  obtain⟨R,S,T,U⟩:=fN eU dD a3 af gG iG;simp only[Z3,seval,-ae,Cc,w,Y,X,R,S,T];exact U
 by_cases e3:x1=3
 .subst e3;by_cases Y:0<Lu O;rotate_left
  .have X:¬(0:Int)<(Lu O:Int):=af
   obtain⟨R,S,T,U⟩:=fN bW bA (I.weak kN) af gG iG;simp only[Z3,seval,-ae,I.r1,I.pw.hP.mo,X,R,S,T];exact U
  have X:(0:Int)<(Lu O:Int):=af
  obtain⟨sP,capP,cs,eP,h1,u,V,h4,h5,h6⟩:=I.pw.powers Y;subst eP;obtain⟨x,q,t,dL,e,q1,q2,q3,q4,q5⟩:=h6 _ (YZ (af:0<Lu cs));have rd:l.dR sP 0=Dc (.sl t 0 (Lu x) dL):=by rw[zH h1,YQ af,e]
  by_cases eF:0<Lu x;rotate_left
  .have tR:¬(0:Int)<(Lu x:Int):=af
   obtain⟨R,S,T,U⟩:=fN bW bA (I.weak kN) af gG iG;simp only[Z3,seval,-ae,I.r1,X,Y,rd,tR,R,S,T];exact U
  have tR:(0:Int)<(Lu x:Int):=af
  obtain⟨w,p⟩:=(I.weak kN).pw.setRow (y:=1) q2 eF q5;have a3:=(I.weak kN).wrote q3 af p;have eU:=bW.set (t:=t) af (cS (x.set 0 1));have dD:=bA.set (t:=t) af (cS (x.set 0 1));generalize l.set t (cS (x.set 0 1))=g3 at *
  obtain⟨R,S,T,U⟩:=fN eU dD a3 af gG iG;simp only[Z3,seval,-ae,I.r1,X,Y,rd,tR,eF,w,R,S,T];exact U
 by_cases e4:x1=4
 .subst e4;by_cases Y:0<Lu O;rotate_left
  .have X:¬(0:Int)<(Lu O:Int):=af
   obtain⟨R,S,T,U⟩:=fN bW bA (I.weak kN) af gG iG;simp only[Z3,seval,-ae,I.r2,I.pw.hC.mo,X,R,S,T];exact U
  have X:(0:Int)<(Lu O:Int):=af
  have aw:=I.weak kN;obtain⟨ee,-⟩|⟨sC,capC,ms,eC,z1,z2,z3,z4,z5,z6,z7⟩:=aw.pw.hC
  .omega
  subst eC;have gL:=z7 0 _ (YQ (af:0<Lu ms));have q1:l.dR sC 0=Dc ms[0]:=by rw[zH z2,YQ af]
  obtain⟨t,dL,cs,et,y1,y2,y3,y4,y5,y6,y7⟩:=gL;rw[et]at q1;have gL:ft L1 l H.aM (λm=>m<=7) 3 (Lu O-1-0) (.sl t 0 (Lu O-1-0) dL):=⟨t,dL,cs,rfl,y1,y2,y3,y4,y5,y6,y7⟩
  have NK:H.aM<=l.aM:=af
  have n1:¬h.aM=l.aM:=af
  have n2:¬sC=l.aM:=af
  have n3:¬h.aM=l.aM+1:=af
  have n4:¬sC=l.aM+1:=af
  have aZ:=aw.fresh (cS (Ep (Lu O) 0)) 1;have kZ:=zC l (cS (Ep (Lu O) 0));have rZ:eE (nU L1 l.aM 1) (l.bf (cS (Ep (Lu O) 0))) H.aM (λm=>m<=7) (.sl l.aM 0 (Lu O) (.b6 (Lu O))):=by
   have:=eE.fresh (L:=L1) (h:=l) (b:=H.aM) (Q:=λm=>m<=7) (x:=Ep (Lu O) 0) (cap:=.b6 (Lu O)) NK (by simp;omega) (by simp[full])
   simpa using this
  have mZ:=gL.cf (L':=nU L1 l.aM 1) (h':=l.bf (cS (Ep (Lu O) 0))) (UW _) (λt _ ht=>by rw[zI,DL af]) (qh (na _));simp only[Z3,seval,-ae,I.r2,I.r0,X,Y,q1,n1,n2,n3,n4,zh,zHW,AP,z9,Qb,Qa,uK (n:=(Lu O)) af,Go.Ab.tn (n:=(Lu O)) af];have tJ:∀bV:Nat->Nat,(∀j,bV j=if j=0 then (Lu O)-1-0+1 else (Lu O)-1-j)->∀i,i<Lu O->bV i<=64:=λbV hl i hi=>by rw[hl i];split<;>omega
  refine⟨?_,?_,?_⟩
  .refine zET (L:=L1) (k:=6) gL af (λm hm=>af) LB af λL2 u v2 J e2 m2=>?_;have uF:=J.aM;have a2:=aw.keepL J.aM (J.bt _ aw.rlt) (λt _ ht=>J.bt t ht) e2;have q2:u.dR sC 0=Dc (.sl t 0 (Lu O-1-0) dL):=by unfold cg.dR;rw[J.bt sC z5];exact q1
   have n5:¬h.aM=u.aM:=af
   have n6:¬sC=u.aM:=af
   have n7:¬h.aM=u.aM+1:=af
   have n8:¬sC=u.aM+1:=af
   have aY:=(a2.fresh (cS (Ep (Lu O) 0)) 1).bf [PV.sl u.aM 0 (Lu O) (.b6 (Lu O))];have rY:eE (nU L2 u.aM 1) (u.bf (cS (Ep (Lu O) 0))) H.aM (λm=>m<=7) (.sl u.aM 0 (Lu O) (.b6 (Lu O))):=by
    have:=eE.fresh (L:=L2) (h:=u) (b:=H.aM) (Q:=λm=>m<=7) (x:=Ep (Lu O) 0) (cap:=.b6 (Lu O)) af (by simp;omega) (by simp[full])
    simpa using this
   have kY:cT l ((u.bf (cS (Ep (Lu O) 0))).bf [PV.sl u.aM 0 (Lu O) (.b6 (Lu O))]):=(J.bf _).bf _;have mY:=m2.cf (L':=nU L2 u.aM 1) (h':=(u.bf (cS (Ep (Lu O) 0))).bf [PV.sl u.aM 0 (Lu O) (.b6 (Lu O))]) (by show u.aM<=u.aM+1+1;omega) (λt _ ht=>by rw[zI,DL (by show ¬t=u.aM+1;omega),zI,DL af]) (qh (na _));have xX:=rY.cf (L':=nU L2 u.aM 1) (h':=(u.bf (cS (Ep (Lu O) 0))).bf [PV.sl u.aM 0 (Lu O) (.b6 (Lu O))]) (UW _) (λt _ ht=>by rw[zI,DL (by show ¬t=u.aM+1;have:t<u.aM+1:=ht;omega)]) (λ_ _=>rfl);have oY:((u.bf (cS (Ep (Lu O) 0))).bf [PV.sl u.aM 0 (Lu O) (.b6 (Lu O))]).bt (u.aM+1)=Dc [PV.sl u.aM 0 (Lu O) (.b6 (Lu O))]:=by rw[zI];exact DK rfl
   simp only[Z3,seval,-ae,AP,z9,Qb,Qa,a2.r2,a2.r0,q2,n5,n6,n7,n8,X,Y,zh,uK (n:=(Lu O)) af,Go.Ab.tn (n:=(Lu O)) af];have Np:((u.bf (cS (Ep (Lu O) 0))).bf [PV.sl u.aM 0 (Lu O) (.b6 (Lu O))]).aM=u.aM+2:=rfl;generalize ((u.bf (cS (Ep (Lu O) 0))).bf [PV.sl u.aM 0 (Lu O) (.b6 (Lu O))])=gY at *
   refine Bs.pushG (σ:=σ') (.inr mY) LB xX rfl (zDZ oY) (kp.trans kY) af af af λv3 V L3 k3 m3 l3 A4 oJ mU=>?_;have a3:=aY.keepK (k:=6) (na _) LB (Y8 l3) mU oJ A4;obtain⟨B8,s7,ds,L4,bV,e',b1,b2,l4,w,p4,f7,om⟩:=a3.pw.putMat Y m3;simp only[PV.sl.injEq]at e';obtain⟨rfl,-,-,rfl⟩:=e';have a4:=a3.wroteO b1 af (by rw[f7 _ (by rw[a3.ls];exact na _)]) p4;have eU:KM σ s0 (V.set sC ds):=KM.set ⟨σ',m',k3⟩ af _;have dD:So (V.set sC ds) s0 vS bs:=(bQ.cf k3).set af _;have tz:=a3.r2;generalize V.set sC ds=g3 at *
   obtain⟨R,S,T,U⟩:=fN eU dD a4 af gG (tJ bV om);simp only[Z3,seval,-ae,AP,z9,Qb,Qa,tz,w,Y,X,m3.cells,R,S,T];exact U
  .generalize AQ:l.bf (cS (Ep (Lu O) 0))=Z at *
   have Ix:Z.aM=l.aM+1:=by rw[<-AQ];rfl
   refine zET (L:=nU L1 l.aM 1) (k:=6) mZ af (λm hm=>af) LB af λL2 u v2 J e2 m2=>?_;have uF:=J.aM;have a2:=aZ.keepL J.aM (J.bt _ aZ.rlt) (λt _ ht=>J.bt t ht) e2;have q2:u.dR sC 0=Dc (.sl t 0 (Lu O-1-0) dL):=by unfold cg.dR;rw[J.bt sC af,<-AQ,zI,DL n2];exact q1
   have n5:¬h.aM=u.aM:=af
   have n6:¬sC=u.aM:=af
   have aY:=a2.bf [PV.sl l.aM 0 (Lu O) (.b6 (Lu O))];have kY:cT l (u.bf [PV.sl l.aM 0 (Lu O) (.b6 (Lu O))]):=(kZ.trans J).bf _;have mY:=m2.cf (L':=L2) (h':=u.bf [PV.sl l.aM 0 (Lu O) (.b6 (Lu O))]) (UW _) (λt _ ht=>by rw[zI,DL af]) (λ_ _=>rfl);have xX:=rZ.cf (L':=L2) (h':=u.bf [PV.sl l.aM 0 (Lu O) (.b6 (Lu O))]) (by show Z.aM<=u.aM+1;omega) (λt _ ht=>by rw[zI,DL af,J.bt t ht]) e2;have oY:(u.bf [PV.sl l.aM 0 (Lu O) (.b6 (Lu O))]).bt u.aM=Dc [PV.sl l.aM 0 (Lu O) (.b6 (Lu O))]:=by rw[zI,DK rfl]
   simp only[Z3,seval,-ae,AP,z9,Qb,Qa,a2.r2,a2.r0,q2,n5,n6,X,Y];have Np:(u.bf [PV.sl l.aM 0 (Lu O) (.b6 (Lu O))]).aM=u.aM+1:=rfl;generalize (u.bf [PV.sl l.aM 0 (Lu O) (.b6 (Lu O))])=gY at *
   refine Bs.pushG (σ:=σ') (.inr mY) LB xX rfl (zDZ oY) (kp.trans kY) af af af λv3 V L3 k3 m3 l3 A4 oJ mU=>?_;have a3:=aY.keepK (k:=6) (na _) LB (Y8 l3) mU oJ A4;obtain⟨B8,s7,ds,L4,bV,e',b1,b2,l4,w,p4,f7,om⟩:=a3.pw.putMat Y m3;simp only[PV.sl.injEq]at e';obtain⟨rfl,-,-,rfl⟩:=e';have a4:=a3.wroteO b1 af (by rw[f7 _ (by rw[a3.ls];exact na _)]) p4;have eU:KM σ s0 (V.set sC ds):=KM.set ⟨σ',m',k3⟩ af _;have dD:So (V.set sC ds) s0 vS bs:=(bQ.cf k3).set af _;have tz:=a3.r2;generalize V.set sC ds=g3 at *
   obtain⟨R,S,T,U⟩:=fN eU dD a4 af gG (tJ bV om);simp only[Z3,seval,-ae,AP,z9,Qb,Qa,tz,w,Y,X,m3.cells,R,S,T];exact U
  .generalize AQ:l.bf (cS (Ep (Lu O) 0))=Z at *
   have Ix:Z.aM=l.aM+1:=by rw[<-AQ];rfl
   have aW:=aZ.bf [PV.sl l.aM 0 (Lu O) (.b6 (Lu O))];have kW:=zC Z [PV.sl l.aM 0 (Lu O) (.b6 (Lu O))];have mW:=mZ.cf (L':=nU L1 l.aM 1) (h':=Z.bf [PV.sl l.aM 0 (Lu O) (.b6 (Lu O))]) (UW _) (λt _ ht=>by rw[zI,DL af]) (λ_ _=>rfl);have rW:=rZ.cf (L':=nU L1 l.aM 1) (h':=Z.bf [PV.sl l.aM 0 (Lu O) (.b6 (Lu O))]) (UW _) (λt _ ht=>by rw[zI,DL af]) (λ_ _=>rfl);have oW:(Z.bf [PV.sl l.aM 0 (Lu O) (.b6 (Lu O))]).bt (l.aM+1)=Dc [PV.sl l.aM 0 (Lu O) (.b6 (Lu O))]:=by rw[zI,DK Ix.symm]
   have q0:(Z.bf [PV.sl l.aM 0 (Lu O) (.b6 (Lu O))]).dR sC 0=Dc (.sl t 0 (Lu O-1-0) dL):=by unfold cg.dR;rw[zI,DL af,<-AQ,zI,DL n2];exact q1
   have sL:(Z.bf [PV.sl l.aM 0 (Lu O) (.b6 (Lu O))]).aM=l.aM+2:=by show Z.aM+1=_;omega
   generalize Z.bf [PV.sl l.aM 0 (Lu O) (.b6 (Lu O))]=W at *
   have LC:sC<W.aM:=af
   refine zET (L:=nU L1 l.aM 1) (k:=6) mW af (λm hm=>af) LB af λL2 gY v2 J e2 mY=>?_;have uF:=J.aM;have aY:=aW.keepL J.aM (J.bt _ aW.rlt) (λt _ ht=>J.bt t ht) e2;have q2:gY.dR sC 0=Dc (.sl t 0 (Lu O-1-0) dL):=by unfold cg.dR at q0 ⊢;rw[J.bt sC LC];exact q0
   have kY:cT l gY:=(kZ.trans kW).trans J;have xX:=rW.cf (L':=L2) J.aM (λt _ ht=>J.bt t ht) e2;have oY:gY.bt (l.aM+1)=Dc [PV.sl l.aM 0 (Lu O) (.b6 (Lu O))]:=by rw[J.bt _ af];exact oW
   simp only[Z3,seval,-ae,AP,z9,Qb,Qa,aY.r2,aY.r0,q2,X,Y];refine Bs.pushG (σ:=σ') (.inr mY) LB xX rfl (zDZ oY) (kp.trans kY) af af af λv3 V L3 k3 m3 l3 A4 oJ mU=>?_;have a3:=aY.keepK (k:=6) (na _) LB (Y8 l3) mU oJ A4;obtain⟨B8,s7,ds,L4,bV,e',b1,b2,l4,w,p4,f7,om⟩:=a3.pw.putMat Y m3;simp only[PV.sl.injEq]at e';obtain⟨rfl,-,-,rfl⟩:=e';have a4:=a3.wroteO b1 af (by rw[f7 _ (by rw[a3.ls];exact na _)]) p4;have eU:KM σ s0 (V.set sC ds):=KM.set ⟨σ',m',k3⟩ af _;have dD:So (V.set sC ds) s0 vS bs:=(bQ.cf k3).set af _;have tz:=a3.r2;generalize V.set sC ds=g3 at *
   obtain⟨R,S,T,U⟩:=fN eU dD a4 af gG (tJ bV om);simp only[Z3,seval,-ae,AP,z9,Qb,Qa,tz,w,Y,X,m3.cells,R,S,T];exact U
 have wi:x1=5:=af
 subst wi;clear e0 e1 e2 e3 e4;have DY:=I.res;have DZ:=I.ob;have rn:∀{n:Nat} {P':V2} {C':V3} {O':V1},n<=7->(Lu O')=n->(∀a∈O',-1000<=a/\a<=1000)->Cw (λm=>m=n) P' C' n n (λj=>n-1-j)->SmP O' P' C':=λ{n P' C' O'} hn hl hb q=>
  (Cw.sm (N:=n) ⟨q.pl,q.cl,λr hr=>UL (q.pq r hr),q.row,λa ha r hr=>UL (q.cq a ha r hr)⟩ af af hb af af λi hi=>af)
 refine Lk ?_;refine ZU (s:=l.aM) (O:=[7,7,7,7]) (by rw[zI,DK rfl];rfl) (YM _) LB λL3 V E G D k3 p3=>?_;have lj:=k3.aM;have L8:l.aM+1<=V.aM:=lj;have kg:=(zC l (cS [7,7,7,7])).trans k3;have o3:V.bt h.aM=Dc [.sl fV 0 (Lu O) capO,uP,uC]:=by rw[kg.bt _ EE];exact DZ
 have w3:V.wr h.aM 0 [E,G,D]=Dc (V.set h.aM [E,G,D]):=by rw[zR o3,DK ⟨aK,by simp[p3.hO.one,p3.hP.one,p3.hC.one]⟩];rfl
 have p4:=p3.set (s:=h.aM) (by show h.aM<l.aM+1;omega) [E,G,D];have jG:KM σ s0 (V.set h.aM [E,G,D]):=(bW.cf kg).set af _;have dN:So (V.set h.aM [E,G,D]) s0 vS bs:=(bA.cf kg).set af _;have r4:(V.set h.aM [E,G,D]).bt (σ.aM+1)=Dc [Ln,Ln,Ln]:=by rw[zG,DL af,kg.bt _ af];exact DY
 have o4:(V.set h.aM [E,G,D]).bt h.aM=Dc [E,G,D]:=by rw[zG,DK rfl]
 have Ij:(V.set h.aM [E,G,D]).aM=V.aM:=rfl;simp only[Z3,seval,-ae,p3.hO.one,p3.hP.one,p3.hC.one,w3];generalize V.set h.aM [E,G,D]=g4 at *
 refine zZ dN LB λx2 g5 iX m5 fF=>?_;have p5:PW L3 (l.bf (cS [7,7,7,7])).aM g5 (λm=>m=4) [7,7,7,7] 4 4 (λj=>4-1-j) E G D:=p4.mv (by show s0<l.aM+1;omega) m5;have fW:=jG.mv ah m5;have r5:g5.bt (σ.aM+1)=Dc [Ln,Ln,Ln]:=by rw[m5.bt (Ne.symm fZ)];exact r4
 have o5:g5.bt h.aM=Dc [E,G,D]:=by rw[m5.bt af];exact o4
 have Ro:g5.aM=g4.aM:=m5.aM;by_cases e2:x2=0;rotate_left
 .obtain⟨R,S,T,U⟩:=fin (by show σ.aM+1<l.aM+1;omega) fW fF r5 o5 p5 λP' C' q=>rn LB rfl LB q;simp only[Z3,seval,-ae,e2,R,S,T];exact U
 subst e2;refine Lk ?_;refine ZU (s:=g5.aM) (O:=[2,2,2,2,2,2,2]) (by rw[zI,DK rfl];rfl) (YM _) LB λL6 h6 yO yP yC k6 p6=>?_;have LZ:g5.aM+1<=h6.aM:=k6.aM;have Cl:=(zC g5 (cS [2,2,2,2,2,2,2])).trans k6;have o6:h6.bt h.aM=Dc [E,G,D]:=by rw[Cl.bt _ af];exact o5
 have w6:h6.wr h.aM 0 [yO,yP,yC]=Dc (h6.set h.aM [yO,yP,yC]):=by rw[zR o6,DK ⟨aK,by simp[p6.hO.one,p6.hP.one,p6.hC.one]⟩];rfl
 have p7:PW L6 (g5.bf (cS [2,2,2,2,2,2,2])).aM (h6.set h.aM [yO,yP,yC]) (λm=>m=7) [2,2,2,2,2,2,2] 7 7 (λj=>7-1-j) yO yP yC:=p6.set (s:=h.aM) (by show h.aM<g5.aM+1;omega) [yO,yP,yC];have Cj:KM σ s0 (h6.set h.aM [yO,yP,yC]):=(fW.cf Cl).set af _;have vY:So (h6.set h.aM [yO,yP,yC]) s0 vS bs:=(fF.cf Cl).set af _;have r7:(h6.set h.aM [yO,yP,yC]).bt (σ.aM+1)=Dc [Ln,Ln,Ln]:=by rw[zG,DL af,Cl.bt _ af];exact r5
 have o7:(h6.set h.aM [yO,yP,yC]).bt h.aM=Dc [yO,yP,yC]:=by rw[zG,DK rfl]
 simp only[Z3,seval,-ae,p6.hO.one,p6.hP.one,p6.hC.one,w6];generalize h6.set h.aM [yO,yP,yC]=g7 at *
 obtain⟨R,S,T,U⟩:=fin (by show σ.aM+1<g5.aM+1;omega) Cj vY r7 o7 p7 λP' C' q=>rn LB rfl LB q;simp only[Z3,seval,-ae,R,S,T];exact U
end
section
variable{b s:Nat}{cs:List PV}
def zAi{n:Int}(X:1<=n/\n<=1000)(Z:∀v xs t,FI v xs->(Lu xs)<=9->(∀x∈xs,jF x)->K (.tup [v,.bool t]) σ):zA Li 265 [.int .i64 n] σ K:=by
 refine Lh Tryz.func265 ?_;refine Lk ?_;refine zF (λm vs h=>∃(d l:Int) (v:PV) (xs:V1),2<=d/\d<=8/\m=(8-d).toNat/\vs=[.int .i64 l,v,.int .i64 d]/\1<=l/\2 ^ (Lu xs)*l<=1000/\(∀x∈xs,jF x)/\cT σ h/\eA σ.aM 1 h v (Lu xs) (cS xs)) 6 ?_ ?_
 .exact⟨2,n,.sl σ.aM 0 0 (.b6 0),[],LB,LB,rfl,rfl,X.1,by simpa using X.2,λx hx=>(by cases hx),zC _ _,σ.aM,.b6 0,rfl,.inr rfl,by rw[zI,DK rfl];rfl,rfl,na _,YM _⟩
 rintro m vs h ⟨d,l,v,xs,hd,Rv,rfl,rfl,D,u,G,E,H⟩
 have hlen:∀{xs:V1} {l:Int},1<=l->(2:Int) ^ (Lu xs)*l<=1000->(Lu xs)<=9:=λ{xs l} I R=>by
  rcases YG (Lu xs) 10 with q|q
  .omega
  .exfalso;have e:(2:Int) ^ (Lu xs) ≥ 1024:=by
    obtain⟨r,hr⟩:∃r,(Lu xs)=10+r:=⟨(Lu xs)-10,af⟩
    rw[hr,Int.pow_add];have R:(1:Int)<=2 ^ r:=Ht LB
    have:(2:Int) ^ 10=1024:=by decide
    rw[this];omega
   have:(1024:Int)*1<=2 ^ (Lu xs)*l:=HI e I LB af
   omega
 refine Lk ?_;refine Ll (λh8=>?_) λh7=>?_
 .have V:=hlen D u;obtain⟨s,cap,rfl,q1,q2,q3,q4,q5⟩:=H;have e:(TR.tup [TR.row s cap xs,.leaf (.bool (decide (l=1)))]).pv=.tup [.sl s 0 (Lu xs) cap,.bool (decide (l=1))]:=by simp only[TR.pv,TR.pvs,TR.row_pv]
  rw[<-e];refine Gh.treeF E (mg ⟨TR.row_ok q1 q2 q4 q5,DJ,DJ⟩) λa=>?_
  have:=Z ((TR.row s cap xs).fz a) xs (decide (l=1)) TR.row_FI V G
  simpa only[TR.fz,TR.fzs]using this
 refine zF (λm vs h=>∃(l:Int) (v:PV) (xs:V1),m=l.toNat/\vs=[.int .i64 l,v,.int .i64 d]/\1<=l/\2 ^ (Lu xs)*l<=1000/\(∀x∈xs,jF x)/\cT σ h/\eA σ.aM 1 h v (Lu xs) (cS xs)) l.toNat ?_ ?_
 .exact⟨l,v,xs,rfl,rfl,D,u,G,E,H⟩
 clear D u G E H
 rintro m vs h ⟨l,v,xs,rfl,rfl,D,u,G,E,H⟩
 have V:=hlen D u;have T:¬d=0:=af
 have out:∃U,U<(8-d).toNat/\∃(N n₁:Int) (v₁:PV) (J:V1),2<=N/\N<=8/\U=(8-N).toNat/\[PV.int .i64 l,v,PV.int .i64 (Lp .i64 (d+1))]=[PV.int .i64 n₁,v₁,PV.int .i64 N]/\1<=n₁/\2 ^ (Lu J)*n₁<=1000/\(∀x∈J,jF x)/\cT σ h/\eA σ.aM 1 h v₁ (Lu J) (cS J):=
  ⟨_,by rw[show(8-d).toNat=(8-(d+1)).toNat+1 by omega];exact YM _,d+1,l,v,xs,af,af,rfl,by rw[fl af af],D,u,G,E,H⟩
 refine Lk ?_;refine zBH ?_;by_cases S:jF d;rotate_left
 .simp only[Z3,seval,-ae,S,decide_false];exact out
 by_cases W:l.tmod d=0;rotate_left
 .simp only[Z3,seval,-ae,S,decide_true,T,W,decide_false];exact out
 simp only[Z3,seval,-ae,S,decide_true,T,W];refine eA.push (σb:=σ) (bytes:=8) E H af af λv2 R k2 Y=>?_;have hdiv:l=d*(l.tdiv d):=by
  have:=Int.tmod_add_mul_tdiv l d
  omega
 have iA:1<=l.tdiv d:=by
  rcases Us (l.tdiv d) 1 with q|q
  .exfalso
   have:d*(l.tdiv d)<=0:=Int.mul_nonpos_of_nonneg_of_nonpos af af
   omega
  .exact q
 have ah:l.tdiv d<l:=by
  have:2*(l.tdiv d)<=d*(l.tdiv d):=YO hd af
  omega
 have hb:l<=1000:=by
  have I:(1:Int)<=2 ^ (Lu xs):=Ht LB
  have:=YO I (show(0:Int)<=l by omega)
  omega
 have wi:Lp .i64 (l.tdiv d)=l.tdiv d:=WE;simp only[Z3,seval,-ae,T,wi];refine⟨_,by show(l.tdiv d).toNat<l.toNat;omega,l.tdiv d,v2,xs++[d],rfl,rfl,iA,?_,λx hx=>?_,k2,?_⟩
 .rw[YB,Yb,HN,UR];have I:(0:Int)<=2 ^ (Lu xs):=Int.le_of_lt (Ht LB);have R:2*(l.tdiv d)<=l:=by
   have:2*(l.tdiv d)<=d*(l.tdiv d):=YO hd af
   omega
  exact Int.le_trans (Yy R I) u
 .rcases YY.1 hx with hx|hx
  .exact G x hx
  .rw[YT.1 hx];exact S
 .rw[YB,Yb];have e:cS (xs++[d])=cS xs++[.int .i64 d]:=by simp[cS]
  rw[e];exact Y
def zJt{x:Int}{n:Nat}{cap:jZ}{u:Nat}(G:σ.bt s=Dc (cS O))(hs:s<σ.aM)(Z:(Lu O)=n)(hn:n<=1000)(N:∀a∈O,1<=a/\a<=1000)(H:0<=x/\x<=1000000)
  (V:∀ys cap,(Lu ys)=n->full 1 cap n->K (.sl σ.aM 0 n cap) (σ.bf (cS ys))):zA Li 266 [.sl s 0 n cap,.int .i64 u,.int .i64 x] σ K:=by
 refine Lh Tryz.func266 ?_;simp only[Z3,seval,-ae,zh,uK (n:=n) af,Go.Ab.tn (n:=n) af];refine zF (λm vs h=>∃(i:Nat) (x:Int) (ys:V1),m=n-i/\vs=[.sl s 0 n cap,.int .i64 x,.sl σ.aM 0 n (.b6 n),.int .i64 i]/\0<=x/\x<=1000000/\Lu ys=n/\h=σ.bf (cS ys)) (n-u) ?_ ?_
 .exact⟨u,x,Ep n 0,rfl,rfl,H.1,H.2,aK,rfl⟩
 rintro m vs h ⟨i,x,ys,rfl,rfl,E,ig,I,rfl⟩
 refine Lk ?_;refine Ll (λY=>?_) λD=>?_
 .exact Gh.np (s:=σ.aM) (zC σ _) (by rw[zI,DK rfl]) (na _) (zL _ _) (V ys _ I (.inr rfl))
 have R:(i:Int)<(n:Int):=af
 have l:i<Lu O:=af
 have ob:=N _ (YZ l);have rd:(σ.bf (cS ys)).dR s i=Dc (.int .i64 O[i]):=by
  unfold cg.dR;rw[zI,DL af,G];simp only[YP];rw[zN,gi l];rfl
 have T:¬O[i]=0:=af
 have w:(σ.bf (cS ys)).wr σ.aM i [.int .i64 (x.tmod O[i])]=Dc ((σ.bf (cS ys)).set σ.aM (cS (ys.set i (x.tmod O[i])))):=zGP (by rw[zI,DK rfl]) af;have S:(σ.bf (cS ys)).set σ.aM (cS (ys.set i (x.tmod O[i])))=σ.bf (cS (ys.set i (x.tmod O[i]))):=by
  unfold cg.set cg.bf;congr 1;funext q;by_cases e:q=σ.aM<;>simp[e]
 have J:(σ.bf (cS (ys.set i (x.tmod O[i])))).dR s i=Dc (.int .i64 O[i]):=by
  unfold cg.dR;rw[zI,DL af,G];simp only[YP];rw[zN,gi l];rfl
 have W:0<=x.tdiv O[i]:=Int.tdiv_nonneg E af;have uq:x.tdiv O[i]<=x:=Int.tdiv_le_self _ E;have X:Lp .i64 (x.tdiv O[i])=x.tdiv O[i]:=WE;rw[S]at w;generalize U:σ.bf (cS (ys.set i (x.tmod O[i])))=g at *
 simp only[Z3,seval,-ae,D,R,rd,T,w,J,X,WX D];exact⟨_,af,i+1,_,ys.set i (x.tmod O[i]),rfl,rfl,W,af,by rw[YA];exact I,U.symm⟩
def zNa{base e m:Int}(J:0<=base/\base<=1000)(N:0<=e/\e<=1000)(hm:1<=m/\m<=1000)(V:∀y,0<=y/\y<=1000->K (.int .i64 y) σ):zA Li 267 [.int .i64 base,.int .i64 e,.int .i64 m] σ K:=by
 have u:¬m=0:=af
 have D:∀z:Int,0<=z->0<=z.tmod m/\z.tmod m<=1000:=λz R=>by
  have I:=Int.tmod_nonneg m R;have Z:=HO z (show 0<m by omega);omega
 refine Lg Tryz.func267 ?_;simp only[Z3,seval,-ae,u];refine zF (λk vs h=>∃(b e y:Int),k=e.toNat/\vs=[.int .i64 b,.int .i64 e,.int .i64 m,.int .i64 y]/\0<=b/\b<=1000/\0<=e/\e<=1000/\0<=y/\y<=1000/\σ=h) e.toNat ?_ ?_
 .have:=D 1 LB
  exact⟨base,e,_,rfl,rfl,J.1,J.2,N.1,N.2,this.1,this.2,rfl⟩
 rintro k vs h ⟨b,e,y,rfl,rfl,l,b1,H,Y,E,G,rfl⟩
 refine Lk ?_;refine Ll (λR=>?_) λX=>?_
 .exact V y ⟨E,G⟩
 have U:y*b<=1000000/\0<=y*b:=⟨by have:=HI G b1 l (by decide:(0:Int)<=1000);omega,UG E l⟩
 have W:b*b<=1000000/\0<=b*b:=⟨by have:=HI b1 b1 l (by decide:(0:Int)<=1000);omega,UG l l⟩
 have w1:Lp .i64 (y*b)=y*b:=WE;have w2:Lp .i64 (b*b)=b*b:=WE;have S:0<=e.tdiv 2:=Int.tdiv_nonneg H LB;have uq:e.tdiv 2<e:=by rw[Uq H];omega
 have T:Lp .i64 (e.tdiv 2)=e.tdiv 2:=WE;have r1:=D _ U.2;have r2:=D _ W.2;refine Lk ?_;refine de (λI=>?_) λI=>?_
 .simp only[Z3,seval,-ae,w1,w2,T,u];exact⟨_,by show(e.tdiv 2).toNat<e.toNat;omega,_,e.tdiv 2,_,rfl,rfl,r2.1,r2.2,S,af,r1.1,r1.2⟩
 .simp only[Z3,seval,-ae,w1,w2,T,u];exact⟨_,by show(e.tdiv 2).toNat<e.toNat;omega,_,e.tdiv 2,_,rfl,rfl,r2.1,r2.2,S,af,E,G⟩
def MatX(h:cg)(v:PV)(M:V2):Prop:=∃s cap cs,v=.sl s 0 (Lu M) cap/\h.bt s=Dc cs/\s<h.aM/\dd (λc x=>∃t cap,c=PV.sl t 0 (Lu x) cap/\h.bt t=Dc (cS x)/\t<h.aM) cs M
def MatX.cf(a:MatX h v M)(k:cT h h'):MatX h' v M:=by
 obtain⟨s,cap,cs,e,D,E,G⟩:=a;have H:=k.aM;exact⟨s,cap,cs,e,by rw[k.bt s E];exact D,af,G.imp λc x ⟨t,cap,e,l,u⟩=>⟨t,cap,e,by rw[k.bt t u];exact l,af⟩⟩
def MatX.mo(a:MatX h v M):mo v=Dc (.int .i64 (Lu M)):=by obtain⟨s,cap,cs,rfl,_⟩:=a;rfl
def MatX.one(a:MatX h v M):v.one=DF:=by obtain⟨s,cap,cs,rfl,_⟩:=a;rfl
def zPN(hM:MatX σ v M)(hm:(Lu M)<=1000)(hr:∀r∈M,(Lu r)<=1000)(hk:∀w,jj w M->K w σ):zA Li 234 [v] σ K:=by
 obtain⟨s,cap,cs,rfl,h1,h2,R⟩:=hM;refine Lh Tryz.func234 ?_;refine Lk ?_;refine zF (λm vs h=>∃(i:Nat) (v:PV) (rows:List SR),i<=Lu M/\m=Lu M-i/\vs=[.sl s 0 (Lu M) cap,v,.int .i64 i]/\cT σ h/\eA σ.aM 1 h v i (rows.map SR.pv)/\(∀q∈rows,q.ok h σ.aM)/\rows.map SR.x=M.take i/\∀q∈rows,∀off l c,v≠.sl q.s off l c) (Lu M) ?_ ?_
 .exact⟨0,.sl σ.aM 0 0 (.b6 0),[],YV _,rfl,rfl,zC _ _,⟨σ.aM,.b6 0,rfl,.inr rfl,by rw[zI,DK rfl];rfl,rfl,na _,YM _⟩,λq u=>(by cases u),aK,λq u=>by cases u⟩
 rintro m vs h ⟨i,v,rows,hi,rfl,rfl,E,J,u,G,W⟩
 have Z:=E.aM;refine Lk ?_;refine Ll (λaG=>?_) λD=>?_
 .have e:i=Lu M:=af
  subst e;obtain⟨N,H,rfl,q1,q2,q3,q4,q5⟩:=J;rw[Yf]at G;have S:(Lu rows)=Lu M:=by rw[<-YF (f:=SR.x),G]
  have e:(TR.rows N H rows).pv=.sl N 0 (Lu M) H:=by simp only[TR.rows,TR.pv,YF,S]
  rw[<-e];refine Gh.treeF E (mg (TR.rows_ok (by rw[S];exact q1) q2 q4 q5 u)) λa=>?_;have e2:jj ((TR.rows N H rows).fz a) M:=by rw[<-G];exact TR.rows_FII
  exact hk _ e2
 have bJ:(Lu cs)=Lu M:=R.1;obtain⟨t,dL,e,g1,g2⟩:=R.2 i _ _ (YQ af) (YQ D);have X:(i:Int)<(Lu M:Int):=af
 have rd:h.dR s i=Dc (.sl t 0 M[i].length dL):=by unfold cg.dR;rw[E.bt s h2,h1,<-e];exact YQ af
 simp only[Z3,seval,-ae,D,X,rd];refine zDC (by rw[E.bt t g2];exact g1) af (by have:=hr _ (YZ D);omega) λY hc=>?_;refine Lk ?_;refine ei.pushS (σb:=σ) (h:=h.bf (cS M[i])) (e:=1) (E.bf _) (eA.acc (J.cf (zC _ _))) rfl af af λv2 I k2 V o2 T l2=>?_;have HF:h.aM+1<I.aM:=l2;have U:∀t,t<h.aM+1->(∀off l c,v≠.sl t off l c)->I.bt t=(h.bf (cS M[i])).bt t:=λt ht hv=>o2 t ht hv;obtain⟨sv,OI,ev,_,_,_,_,Pt⟩:=J;simp only[Z3,seval,-ae,WX D];refine⟨_,af,i+1,v2,rows++[⟨h.aM,Y,M[i]⟩],af,rfl,rfl,k2,by simpa [SR.pv]using V,λq aT=>?_,by rw[Yx,G,YN D];rfl,λq aT off l c e'=>?_⟩
 .rcases YY.1 aT with aT|aT
  .obtain⟨y1,y2,y3,y4⟩:=u q aT;exact⟨y1,by rw[U q.s af (W q aT),zI,DL af];exact y2,y3,af⟩
  .rw[YT.1 aT];exact⟨hc,by rw[U h.aM af (λoff l c e'=>by rw[ev]at e';simp only[PV.sl.injEq]at e';omega),zI,DK rfl],Z,by show h.aM<I.aM;omega⟩
 .rcases YY.1 aT with aT|aT
  .exact T q.s (by have:=(u q aT).2.2.2;show q.s<h.aM+1;omega) off l c e'
  .rw[YT.1 aT]at e';exact T h.aM (YM _) off l c e'
def eA.catO{σb h:cg}{n m:Nat}{v:PV}{xs:V1}{k:IntKind}{K:PV->cg->Prop}(D:cT σb h)(a:eA σb.aM 1 h v n (cS xs))(H:n+m<=1000)(G:∀l h',cT σb h'->eA σb.aM 1 h' l (n+m) (cS (xs++Ep m 0))->K l h'):zDA 1 8 [.int .i64 0] v (.int k m) h K:=by
 have A:=eA.cat (bytes:=8) (w:=DF) (av:=.b8) (m:=m) (news:=cS (Ep m 0)) (K:=λq=>K q.1 q.2) D a (by rw[zJ,YL]) af af λl h' E a'=>G l h' E (by rw[QL]at a';exact a');obtain⟨s,cap,rfl,_⟩:=a;rw[zOu];refine⟨⟨af,af,af⟩,?_⟩;rw[ZZ]at A;rw[Fs];by_cases u:m=0
 .subst u;simp only[zC6,YP,if_true]at A;rw[DL af];exact A
 .simp only[zC6,YP,DL u,zCX,Fe]at A;rw[DK ⟨na _,by rw[zJ,YL];exact na _,af⟩]at A;rw[DK af];have e:fi (iU [.int .i64 0] m)=cS (Ep m 0):=by
   rw[zD4];rw[zL8];exact zh m 0
  rw[e];simp only[YP]at A;rw[YS (by rw[zJ,YL];exact na _)]at A;exact A
def zAE{before behind:Nat}{v:PV}(H:FI v x)(U:before<=300)(N:behind<=300)(T:(Lu x)<=300)(G:∀cap ys,(Lu ys)=before+Lu x+behind->full 1 cap (Lu ys)->K (.sl σ.aM 0 (Lu ys) cap) (σ.bf (cS ys))):zA Li 258 [.int .i64 before,v,.int .i64 behind] σ K:=by
 obtain⟨w,a,rfl⟩:=H;refine Lh Tryz.func258 ?_;simp only[Z3,seval,-ae,zh,uK (n:=before) af,Go.Ab.tn (n:=before) af];refine eA.cat (σb:=σ) (bytes:=8) (m:=(Lu x)) (news:=cS x) (zC σ _) (eA.own (n:=before) (.inr rfl) (by rw[zI,DK rfl]) (by rw[zJ,YL,Fe]) (na _) (YM _)) (by rw[zJ]) af af λV R I u=>?_;rw[QL]at u;refine Lk ?_;refine eA.catO (σb:=σ) (m:=behind) I u af λW S J D=>?_;refine Lk ?_;have l:(Ep before (0:Int)++x++Ep behind 0).length=before+Lu x+behind:=by simp[UP]
 refine D.out J (zL _ _) λcap E=>?_
 have:=G cap _ l (by rw[l];exact E)
 rw[l]at this;exact this
end
section
variable{b s:Nat}{L L':Nat->Nat}{Q:Nat->Prop}{len:Nat->Nat}
structure Fm(N:Nat)(O:V1)(P:V2)(C:V3):Prop where
 n:(Lu O)<=N
 ob:∀a∈O,1<=a/\a<=1000
 q:Cw (λm=>m=Lu O) P C (Lu O) (Lu O) (λi=>(Lu O)-1-i)
def Fm.sm{N:Nat}(a:Fm N O P C)(D:N<=64):SmP O P C:=
 have q:=a.q;have n:=a.n
 Cw.sm (N:=(Lu O)) ⟨q.pl,q.cl,λr l=>UL (q.pq r l),q.row,λa u r l=>UL (q.cq a u r l)⟩ af af (λa h=>by have:=Fm.ob ‹_› a h;omega) af af λi E=>by omega
def Fm.mono{N N':Nat}(a:Fm N O P C)(h:N<=N'):Fm N' O P C:=⟨UJ a.n h,a.ob,a.q⟩
def Fm.nil(N:Nat):Fm N [] [] []:=⟨YV _,λa h=>(by cases h),rfl,rfl,λr h=>(by cases h),λi h=>absurd h (Ex _),λq h=>by cases h⟩
def jF.b1{p:Int}(h:jF p):1<=p/\p<=1000:=by have:=h.bd;omega
def PW.fin2{e:Int}(a:PW L b h Q O nP nC len vO vP vC)(hk:cT σ h)(Z:σ.aM<=b)(k:∀I J H P C,dU I J H O P C->Cw Q P C nP nC len->K (.tup [.agg [I,J,H],.int .i64 e]) σ):Gh σ K (.tup [.agg [vO,vP,vC],.int .i64 e]) h:=by
 obtain⟨u,N,rfl,R⟩:=a.hO.tree;obtain⟨D,P,⟨b1,rfl,G⟩,S⟩:=a.hP.tree;obtain⟨E,C,⟨T,rfl,U⟩,V,W,X⟩:=a.hC.tree;have Y:(TR.tup [TR.agg [u,D,E],.leaf (.int .i64 e)]).pv=.tup [.agg [u.pv,D.pv,E.pv],.int .i64 e]:=by simp only[TR.pv,TR.pvs]
 rw[<-Y];refine Gh.treeF hk (zC3 (b:=b) Z ⟨⟨mg N,mg b1,mg T,DJ⟩,DJ,DJ⟩) λl=>?_
 have:=k (u.fz l) (D.fz l) (E.fz l) P C ⟨R l,(G l).1,U l⟩ ⟨S,V,(G l).2,W,X⟩
 simpa only[TR.fz,TR.fzs]using this
def Zx{n m a c:Int}(hn:1<=n/\n<=1000)(hm:1<=m/\m<=1000)(ha:0<=a/\a<=1000)(hc:0<=c/\c<=1000)
  (hk:∀wO wP wC O P C,dU wO wP wC O P C->Fm 18 O P C->K (.agg [wO,wP,wC]) σ):zA Li 255 [.int .i64 n,.int .i64 m,.int .i64 a,.int .i64 c] σ K:=by
 refine zA.gh ?_;refine qH mix Tryz.func255 ?_;refine Lk ?_;refine zAi hn λv1 l t1 kV oK iL=>?_;refine Lk ?_;refine zAi hm λv2 x2 t2 cA fH mM=>?_;refine Lk ?_;obtain⟨w1,a1,rfl⟩:=kV;refine qw rfl af λbD fT=>?_;obtain⟨w2,a2,rfl⟩:=cA;refine Lk ?_;generalize hH:σ.bf [Ln,Ln,Ln]=H;have fq:H.aM=σ.aM+1:=by rw[<-hH];rfl
 have kH:cT σ H:=by rw[<-hH];exact zC _ _
 have fx:H.bt σ.aM=Dc [Ln,Ln,Ln]:=by rw[<-hH];simp only[Z3,seval,-ae]
 clear hH;rw[<-fq];refine eA.cat (σb:=H) (bytes:=8) (m:=(Lu x2)) (news:=cS x2) (zC H _) (eA.own (n:=(Lu l)) fT (by rw[zI,DK rfl]) (by rw[zJ,Fe]) (na _) (YM _)) (by rw[zJ]) af af λv3 G k3 a3=>?_;rw[QL,<-YB]at a3;obtain⟨O,hO⟩:∃O,O=l++x2:=⟨_,rfl⟩
 rw[<-hO]at a3;have AX:(Lu O)=Lu l+Lu x2:=by rw[hO,YB]
 have gG:∀a∈O,1<=a/\a<=1000:=λa h=>by
  rw[hO]at h;rcases YY.1 h with h|h
  .exact(iL a h).b1
  .exact(mM a h).b1
 clear hO;obtain⟨X,capO,rfl,q1,q2,q3,q4,q5⟩:=a3;have lj:=k3.aM;refine Lk ?_;refine ZU q2 q5 af λL h vO vP vC k4 p4=>?_;have mS:=k4.aM;have D:=TB.start (r:=σ.aM) p4 af (by rw[k4.bt _ af,k3.bt _ af];exact fx) mS;have E:=k4.bf [vO,vP,vC];simp only[Z3,seval,-ae,p4.hO.one,p4.hP.one,p4.hC.one];generalize h.aM=s at *
 clear p4 k4;generalize hN:(Lu O)=N at *
 refine zF (λI vs h=>∃(i:Nat) (L:Nat->Nat),i<=N/\I=N-i/\vs=[.int .i64 m,.int .i64 a,.int .i64 c,.ptr σ.aM 0,.fz w1 a1 (Lu l) (cS l),.sl X 0 N capO,.ptr s 0,.int .i64 (Lu l),.int .i64 i]/\cT G h/\TB G.aM h (λm=>m=N) O L N N (λj=>N-1-j) σ.aM s vO vP vC) N ?_ ?_
 .exact⟨0,_,YV _,rfl,rfl,E,D⟩
 clear D E
 rintro I vs h ⟨i,L,hi,rfl,rfl,E,D⟩
 have gD:=E.aM;have wi:Lp .i64 ((i:Int)+1)=((i+1:Nat):Int):=WQ
 simp only[Z3,seval,-ae,wi];refine de (λT=>?_) λaG=>?_
 .have aq:((i+1:Nat):Int)<(N:Int):=af
  refine de (λhe=>?_) λhe=>?_
  .exact⟨_,af,i+1,L,af,rfl,rfl,E,D⟩
  have V:i<N:=af
  have dk:(i:Int)<(N:Int):=af
  obtain⟨J,capP,rfl,xu,pG,put⟩:=D.putPx V;have rL:¬J=h.aM:=af
  simp only[Z3,seval,-ae,D.r1,wi];refine zBj af T λY Z=>?_;obtain⟨U,L',w,S⟩:=put (xs:=cD N (i+1)) (cp:=Y) (zU ..) (by rw[zU];exact Z);rw[zU]at w;have W:cT G ((h.bf (cS (cD N (i+1)))).set J U):=(E.bf _).set af _;have r1:(h.bf (cS (cD N (i+1)))).dR s 1=Dc (.sl J 0 N capP):=(D.bf _).r1;generalize h.bf (cS (cD N (i+1)))=g at *
  simp only[Z3,seval,-ae,r1,V,dk,w,wi];refine⟨_,af,i+1,L',af,rfl,rfl,W,S⟩
 clear wi aG hi;have JA:∀{g:cg} {K':PV->cg->Prop} {f:Nat} {y:Int},cT G g->0<=y/\y<=1000000->(∀ys cap,(Lu ys)=N->full 1 cap N->K' (.sl g.aM 0 N cap) (g.bf (cS ys)))->zA Li 266 [.sl X 0 N capO,.int .i64 f,.int .i64 y] g K':=λ{g K' f y} kg hy bF=>
  zJt (O:=O) (n:=N) (by rw[kg.bt X q5];exact q2) (by have:=kg.aM;omega) hN af gG hy bF
 have fin:∀{g:cg} {L:Nat->Nat},cT G g->TB G.aM g (λm=>m=N) O L N N (λj=>N-1-j) σ.aM s vO vP vC->
   g.wr σ.aM 0 [vO,vP,vC]=Dc (g.set σ.aM [vO,vP,vC])/\(g.set σ.aM [vO,vP,vC]).rd σ.aM 0 3=Dc [vO,vP,vC]/\Gh σ K (.agg [vO,vP,vC]) (g.set σ.aM [vO,vP,vC]):=λ{g L} kg a=>by
  obtain⟨e1,e2,e3⟩:=a.fin;refine⟨e1,e2,e3.fin (((kH.trans k3).trans kg).set (na _) _) af λwO wP wC P C r1 r2=>hk wO wP wC O P C r1 ⟨af,gG,?_⟩⟩;rw[hN];exact r2
 have gL:¬m=0:=af
 have eF:0<=a.tmod m:=Int.tmod_nonneg m ha.1;have ig:a.tmod m<=1000:=by have:=HO a (show 0<m by omega);omega
 refine Lk ?_;refine Ll (λhz=>?_) λaL=>?_
 .have cU:(Lu l)=0:=af
  simp only[Z3,seval,-ae,gL];refine zF (λI vs h'=>∃(x:Int),I=0/\vs=[.int .i64 m,.ptr σ.aM 0,.fz w1 a1 (Lu l) (cS l),.sl X 0 N capO,.ptr s 0,.int .i64 (Lu l),.int .i64 x,.int .i64 (0:Nat)]/\h'=h) 0 ?_ ?_
  .exact⟨_,rfl,rfl,rfl⟩
  rintro I vs h ⟨x,rfl,rfl,rfl⟩
  obtain⟨e1,e2,e3⟩:=fin E D;simp only[Z3,seval,-ae,cU,D.r3,e1,e2];exact e3
 have nj:(Lu l)-1<N:=af
 have ni:((Lu l-1:Nat):Int)<(N:Int):=af
 have wl:Lp .i64 ((Lu l:Int)-1)=((Lu l-1:Nat):Int):=WQ
 obtain⟨J,capP,rfl,xu,pG,put⟩:=D.putPx nj;have rL:¬J=h.aM:=af
 simp only[Z3,seval,-ae,D.r1,wl,nj,ni];refine JA (f:=(Lu l)) E af λys Y R Z=>?_;obtain⟨U,L',w,S⟩:=put (xs:=ys) (cp:=Y) R (by rw[R];exact Z);rw[R]at w;have W:cT G ((h.bf (cS ys)).set J U):=(E.bf _).set af _;have r1:(h.bf (cS ys)).dR s 1=Dc (.sl J 0 N capP):=(D.bf _).r1;generalize h.bf (cS ys)=g at *
 simp only[Z3,seval,-ae,r1,nj,ni,w,wl,gL];generalize g.set J U=g2 at *
 refine zF (λI vs h=>∃(i:Nat) (x:Int) (L:Nat->Nat),i<=Lu l/\I=Lu l-i/\vs=[.int .i64 m,.ptr σ.aM 0,.fz w1 a1 (Lu l) (cS l),.sl X 0 N capO,.ptr s 0,.int .i64 (Lu l),.int .i64 x,.int .i64 i]/\0<=x/\x<=1000/\cT G h/\TB G.aM h (λm=>m=N) O L N N (λj=>N-1-j) σ.aM s vO (.sl J 0 N capP) vC) (Lu l) ?_ ?_
 .exact⟨0,_,L',YV _,rfl,rfl,eF,ig,W,S⟩
 clear W S w put rL pG E D gD
 rintro I vs h ⟨i,x,L,hi,rfl,rfl,x0,JF,E,D⟩
 have gD:=E.aM;refine Lk ?_;refine Ll (λaG=>?_) λT=>?_
 .obtain⟨e1,e2,e3⟩:=fin E D;simp only[Z3,seval,-ae,D.r3,e1,e2];exact e3
 refine zF (λI vs h=>∃(j:Nat) (L:Nat->Nat),(Lu l)<=j/\j<=N/\I=N-j/\vs=[.int .i64 m,.ptr σ.aM 0,.fz w1 a1 (Lu l) (cS l),.sl X 0 N capO,.ptr s 0,.int .i64 (Lu l),.int .i64 x,.int .i64 i,.int .i64 j]/\cT G h/\TB G.aM h (λm=>m=N) O L N N (λj=>N-1-j) σ.aM s vO (.sl J 0 N capP) vC) (N-Lu l) ?_ ?_
 .exact⟨(Lu l),L,na _,af,rfl,rfl,E,D⟩
 clear E D gD
 rintro I vs h ⟨j,L,Ie,hj,rfl,rfl,E,D⟩
 have gD:=E.aM;have V:i<N:=af
 have dk:(i:Int)<(N:Int):=af
 have lY:(i:Int)<(Lu l:Int):=af
 refine Lk ?_;refine Ll (λaG=>?_) λaD=>?_
 .have xi:=(iL _ (YZ T)).b1;have gx:(cS l)[i]? = Dc (.int .i64 l[i]):=by rw[zN,gi T];rfl
  simp only[Z3,seval,-ae,T,lY,gx];refine zNa ⟨x0,JF⟩ ⟨af,xi.2⟩ hm λy hy=>?_;simp only[Z3,seval,-ae,WX T];exact⟨_,af,i+1,y,L,af,rfl,rfl,hy.1,hy.2,E,D⟩
 have kD:j-i-1<N-1-i:=af
 have iQ:((j-i-1:Nat):Int)<((N-1-i:Nat):Int):=af
 have wj:Lp .i64 ((j:Int)-(i:Int))=(j:Int)-(i:Int):=WE;have ri:Lp .i64 ((j:Int)-(i:Int)-1)=((j-i-1:Nat):Int):=WQ
 obtain⟨sC,capC,u,lJ,rfl,q7,CS,CD,CO,Am,put⟩:=D.putCx V kD;have Eb:¬sC=h.aM:=af
 have wJ:¬u=h.aM:=af
 simp only[Z3,seval,-ae,D.r2,q7,V,dk,wj,ri];refine JA (f:=j) E af λys Y R Z=>?_;obtain⟨U,L',rC,w,S⟩:=put (xs:=ys) (cp:=Y) R (by rw[R];exact Z);rw[R]at w;have r2:(h.bf (cS ys)).dR s 2=Dc (.sl sC 0 N capC):=(D.bf _).r2;have W:cT G ((h.bf (cS ys)).set u U):=(E.bf _).set af _;generalize h.bf (cS ys)=g at *
 simp only[Z3,seval,-ae,r2,rC,V,dk,kD,iQ,w,wj,ri,gX (af:j<N) (af:N<=4611686018427387904)];exact⟨_,af,j+1,L',af,af,rfl,rfl,W,S⟩
def zPy{n:Int}(hn:1<=n/\n<=1000)(X:∀e J R I O P C,dU J R I O P C->Fm 6 O P C->K (.tup [.agg [J,R,I],.int .i64 e]) σ):zA Li 254 [.int .i64 n] σ K:=by
 have nil:∀e,K (.tup [.agg [Ln,Ln,Ln],.int .i64 e]) σ:=λe=>
  X e _ _ _ [] [] [] ⟨⟨DF,.b8,rfl⟩,⟨DF,.b8,[],rfl,dd.nil _⟩,⟨DF,.b8,[],rfl,dd.nil _⟩⟩ (Fm.nil 6)
 have T:∀{h:cg} {e:Int},cT σ h->Gh σ K (.tup [.agg [Ln,Ln,Ln],.int .i64 e]) h:=λ{h e} kh=>by
  have et:(TR.tup [TR.agg [.nil,.nil,.nil],.leaf (.int .i64 e)]).pv=.tup [.agg [Ln,Ln,Ln],.int .i64 e]:=by simp only[TR.pv,TR.pvs]
  rw[<-et];refine Gh.treeF kh ⟨⟨DJ,DJ,DJ,DJ⟩,DJ,DJ⟩ λaa=>?_;simpa only[TR.fz,TR.fzs]using nil e
 refine Lh Tryz.func254 ?_;refine Lk ?_;refine zCI ?_;refine Lk ?_;refine Ll (λfe=>?_) λcw=>?_
 .exact T (zC _ _)
 refine zAi hn λv1 O t1 kV oK iL=>?_;obtain⟨w1,V,rfl⟩:=kV;cases t1
 .refine Lk ?_;exact T (zC _ _)
 refine Lk ?_;refine de (λh6=>?_) λh6=>?_
 .exact T (zC _ _)
 have Gk:(Lu O)<=6:=af
 generalize E:σ.bf [Ln,Ln,Ln]=H;have fq:H.aM=σ.aM+1:=by rw[<-E];rfl
 have kH:cT σ H:=by rw[<-E];exact zC _ _
 have fx:H.bt σ.aM=Dc [Ln,Ln,Ln]:=by rw[<-E];simp only[Z3,seval,-ae]
 clear E;refine zDv ⟨w1,V,rfl⟩ af λL h vO vP vC G D=>?_;have mS:=G.aM;have l:=TB.start (r:=σ.aM) D af (by rw[G.bt _ af];exact fx) mS;have u:=G.bf [vO,vP,vC];simp only[Z3,seval,-ae,D.hO.one,D.hP.one,D.hC.one];generalize h.aM=s at *
 clear D G;generalize hN:(Lu O)=N at *
 refine zF (λY vs h=>∃(i:Nat) (L:Nat->Nat),i<=N/\Y=N-i/\vs=[.ptr σ.aM 0,.fz w1 V N (cS O),.ptr s 0,.int .i64 i]/\cT H h/\TB H.aM h (λm=>m=N) O L N N (λj=>N-1-j) σ.aM s vO vP vC) N ?_ ?_
 .exact⟨0,_,YV _,rfl,rfl,u,l⟩
 clear l u
 rintro Y vs h ⟨i,L,hi,rfl,rfl,u,l⟩
 have gD:=u.aM;have U:Lp .i64 ((i:Int)+1)=((i+1:Nat):Int):=WQ
 simp only[Z3,seval,-ae,U];refine de (λah=>?_) λaG=>?_
 .have aq:((i+1:Nat):Int)<(N:Int):=af
  have W:i<N:=af
  have dk:(i:Int)<(N:Int):=af
  obtain⟨S,capP,rfl,xu,pG,put⟩:=l.putPx W;have rL:¬S=h.aM:=af
  simp only[Z3,seval,-ae,l.r1,U];refine zBj af ah λbn c8=>?_;obtain⟨ds,L',w,Z⟩:=put (xs:=cD N (i+1)) (cp:=bn) (zU ..) (by rw[zU];exact c8);rw[zU]at w;have k6:cT H ((h.bf (cS (cD N (i+1)))).set S ds):=(u.bf _).set af _;have r1:(h.bf (cS (cD N (i+1)))).dR s 1=Dc (.sl S 0 N capP):=(l.bf _).r1;generalize h.bf (cS (cD N (i+1)))=g at *
  simp only[Z3,seval,-ae,r1,W,dk,w,U];refine⟨_,af,i+1,L',af,rfl,rfl,k6,Z⟩
 obtain⟨e1,e2,e3⟩:=l.fin;simp only[Z3,seval,-ae,l.r3,e1,e2];refine e3.fin2 ((kH.trans u).set (na _) _) af λJ R I P C r1 r2=>X 0 J R I O P C r1 ⟨af,λa h=>(iL a h).b1,?_⟩;rw[hN];exact r2
def zI8{g:cg}{t:Nat}{xs l:List PV}(u:¬t=g.aM):(g.bf xs).set t l=(g.set t l).bf xs:=by simp only[Z3,seval,-ae,u]
def zIw{g:cg}{t i:Nat}{xs u v:List PV}(l:(g.bf xs).wr t i v=Dc ((g.bf xs).set t u))(D:¬t=g.aM):∃g',g.wr t i v=Dc g'/\g'.bf xs=(g.bf xs).set t u:=by
 rw[zI8 D]at l ⊢;simp only[Z3,seval,-ae,D]at l;exact YK.1 l
def zCH{p:Int}(N:So σ s0 vS bs)(hp:2<=p/\p<=7)(hk:∀Z wP Y O P C σ',dU Z wP Y O P C->Fm 18 O P C->Mv σ s0 σ'->So σ' s0 vS bs->K (.agg [Z,wP,Y]) σ'):zA Li 132 [.ptr s0 0,.int .i64 p] σ K:=by
 have U:=N.lt;refine Lh Tryz.func132 ?_;refine Lk ?_;generalize W:σ.bf [Ln,Ln,Ln]=H;have fq:H.aM=σ.aM+1:=by rw[<-W];rfl
 have kH:cT σ H:=by rw[<-W];exact zC _ _
 have fx:H.bt σ.aM=Dc [Ln,Ln,Ln]:=by rw[<-W];simp only[Z3,seval,-ae]
 clear W;rw[<-fq];obtain⟨O,hO⟩:∃O,O=[p,p,p]:=⟨_,rfl⟩
 have fD:(Lu O)=3:=by rw[hO];rfl
 have ob:∀a∈O,1<=a/\a<=1000:=λa h=>by
  rw[hO]at h;simp only[YH,Ym,or_false,or_self]at h;omega
 have tr:∀{g:cg} {K':PV->cg->Prop},g.bt H.aM=Dc (cS O)->H.aM<g.aM->(∀L h vO vP vC,cT g h->PW L g.aM h (λm=>m=3) O 3 3 (λj=>3-1-j) vO vP vC->K' (.agg [vO,vP,vC]) h)->zA Li 197 [.sl H.aM 0 3 (.b6 3)] g K':=λ{g K'} h1 h2 h3=>by
  have:=ZU (cap:=.b6 3) h1 h2 af (K:=K') (by rw[fD];exact h3)
  rw[fD]at this;exact this
 refine tr (by rw[zI,DK rfl,hO];rfl) (YM _) λL h vO vP vC X J=>?_;clear tr;have mS:H.aM+1<=h.aM:=X.aM;have R:cT H h:=(zC H _).trans X;have a5:=TB.start (r:=σ.aM) J (by show σ.aM<H.aM+1;omega) (by rw[R.bt _ af];exact fx) X.aM;have fW:KM σ s0 (h.bf [vO,vP,vC]):=N.kmK ((kH.trans R).bf _);have fF:So (h.bf [vO,vP,vC]) s0 vS bs:=N.cf ((kH.trans R).bf _);generalize hb:(H.bf [PV.int .i64 p,PV.int .i64 p,PV.int .i64 p]).aM=b at *
 have Rx:b=H.aM+1:=hb.symm;simp only[Z3,seval,-ae,J.hO.one,J.hP.one,J.hC.one];clear hb J R;have Ly:h.aM<(h.bf [vO,vP,vC]).aM:=YM _;generalize h.bf [vO,vP,vC]=g at *
 generalize h.aM=s at *
 clear X;have fin:∀{g:cg} {L':Nat->Nat},KM σ s0 g->So g s0 vS bs->TB b g (λm=>m=3) O L' 3 3 (λi=>3-1-i) σ.aM s vO vP vC->
   g.wr σ.aM 0 [vO,vP,vC]=Dc (g.set σ.aM [vO,vP,vC])/\(g.set σ.aM [vO,vP,vC]).rd σ.aM 0 3=Dc [vO,vP,vC]/\Gh σ K (.agg [vO,vP,vC]) (g.set σ.aM [vO,vP,vC]):=λ{g L'} km bQ a=>by
  obtain⟨D,E,I⟩:=a.fin;refine⟨D,E,I.finKM (km.set af _) (bQ.set af _) U af λZ wP Y P C σ' x1 x2 x3 x4=>hk Z wP Y O P C σ' x1 ⟨af,ob,?_⟩ x3 x4⟩;rw[fD];exact x2
 obtain⟨sC,capC,u,lJ,rfl,q7,CS,CD,CO,Am,put⟩:=a5.putCx (i:=0) (j:=0) LB LB;obtain⟨V,L',rC,w,a6⟩:=put (xs:=[0,1,1]) (cp:=.b6 3) rfl (.inr rfl);have wJ:¬u=g.aM:=af
 have rR:KM σ s0 ((g.bf (cS [0,1,1])).set u V):=(fW.cf (zC _ _)).set af _;have rE:So ((g.bf (cS [0,1,1])).set u V) s0 vS bs:=(fF.cf (zC _ _)).set af _;have D:∀y:Int,cS [0,y,1]=[PV.int .i64 0,PV.int .i64 y,PV.int .i64 1]:=λ_=>rfl;have E:∀y:Int,cS [0,0,y]=[PV.int .i64 0,PV.int .i64 0,PV.int .i64 y]:=λ_=>rfl;have CY:(0:Int)<((3:Nat):Int):=by decide
 have Bf:(1:Int)<((3:Nat):Int):=by decide
 have I4:(0:Int)<((2:Nat):Int):=by decide
 have GI:(0:Int)<((3-1-0:Nat):Int):=by decide
 obtain⟨g',w1,w2⟩:=zIw w wJ;rw[D]at w2 rR rE a6;generalize (g.bf [PV.int .i64 0,PV.int .i64 1,PV.int .i64 1]).set u V=g6 at *
 have w1:g.wr u 0 [PV.sl g.aM 0 3 (.b6 3)]=Dc g':=w1;simp only[Z3,seval,-ae,a5.r2,q7,wJ,w1,w2,CY,I4,GI];have cV:s0<b:=af
 have fZ:s0≠σ.aM:=af
 refine zZ (n:=2) rE LB λx1 g7 ig m7 vY=>?_;have S:=a6.mv cV fZ m7;have Cj:=rR.mv U m7;by_cases h0:x1=0;rotate_left
 .obtain⟨D,E,I⟩:=fin Cj vY S;simp only[Z3,seval,-ae,h0,S.r3,D,E];exact I
 have step:∀{g:cg} {L:Nat->Nat} (i:Nat) (y:Int),i<3->KM σ s0 g->So g s0 vS bs->TB b g (λm=>m=3) O L 3 3 (λj=>3-1-j) σ.aM s vO vP (.sl sC 0 3 capC)->
   ∃l capP g' G L',vP=.sl l 0 3 capP/\¬l=g.aM/\g.dR s 1=Dc (.sl l 0 3 capP)/\(g.bf [PV.int .i64 0,PV.int .i64 0,PV.int .i64 y]).dR s 1=Dc (.sl l 0 3 capP)/\g.wr l i [.sl g.aM 0 3 (.b6 3)]=Dc g'/\g'.bf [PV.int .i64 0,PV.int .i64 0,PV.int .i64 y]=G/\
    KM σ s0 G/\So G s0 vS bs/\TB b G (λm=>m=3) O L' 3 3 (λj=>3-1-j) σ.aM s vO vP (.sl sC 0 3 capC):=λ{g L} i y hi km N a=>by
  obtain⟨l,capP,e,xu,pG,put⟩:=a.putPx (i:=i) hi;obtain⟨V,L',w,T⟩:=put (xs:=[0,0,y]) (cp:=.b6 3) rfl (.inr rfl);obtain⟨g',w1,w2⟩:=zIw w af;have r:=(a.bf [PV.int .i64 0,PV.int .i64 0,PV.int .i64 y]).r1;have r':=a.r1;rw[e]at r r';exact⟨l,capP,g',_,L',e,af,r',r,w1,w2,(km.cf (zC _ _)).set af _,(N.cf (zC _ _)).set af _,T⟩
 simp only[Z3,seval,-ae,h0,S.r1];refine zZ (n:=p) vY af λy1 g8 oF m8 DB=>?_;have a8:=S.mv cV fZ m8;obtain⟨l,capP,g9,G,L9,rfl,n8,r8,Kv,w8,e8,KZ,oV,T⟩:=step 0 y1 LB (Cj.mv U m8) DB a8;simp only[Z3,seval,-ae,r8,Kv,n8,w8,e8,CY,T.r1];refine zZ (n:=p) oV af λy2 RW wR ym DE=>?_;have lL:=T.mv cV fZ ym;obtain⟨DG,BO,RU,G2,Sm,e',Ec,Kx,DP,Dv,OH,Eh,DD,Da⟩:=step 1 y2 LB (KZ.mv U ym) DE lL;simp only[PV.sl.injEq]at e';obtain⟨rfl,-,-,rfl⟩:=e';obtain⟨D,E,I⟩:=fin Eh DD Da;simp only[Z3,seval,-ae,Kx,DP,Ec,Dv,OH,Bf,Da.r3,D,E];exact I
end
section
open Go.Mx
variable{v:V1}
def zSh{α:Type}{a b:List α}{i:Nat}(D:(Lu a)=Lu b)(u:i<Lu a):(a.take i++b.drop i).set i a[i]=a.take (i+1)++b.drop (i+1):=by
 have l:(a.take i).length=i:=by rw[Yh];omega
 rw[List.set_append_right _ _ af,l,Yk,HQ (af:i<Lu b),Eu,YN u,Yv];rfl
def zSi{α:Type}{a b:List α}{i:Nat}(D:(Lu a)=Lu b)(u:i<Lu b):(a.take i++b.drop i)[i]? = Dc b[i]:=by
 have l:(a.take i).length=i:=by rw[Yh];omega
 rw[Yz af,l,Y0,Yk,UF,YQ u]
def zNy{x:Int}{r out:V1}(h:(Lu r)=Lu out){j:Nat}(l:j<Lu out):(tm p x r out)[j]'(by rw[zAa h];exact l)=(out[j] + x*r[j]) % p:=by
 simp[tm]
def sm6{a b:Int}(u:0<=a/\a<=6)(l:0<=b/\b<=6):0<=a*b/\a*b<=36:=by
 have D:=UG u.1 l.1;have E:=HI u.2 l.2 l.1 LB;omega
def zR6{i:Nat}(l:i<Lu A):(mm p n A B).take (i+1)=(mm p n A B).take i++[vt p n A[i] B]:=by
 rw[YN (by rw[zCa];exact l)];simp[mm]
def zLd(hp:2<=p/\p<=7)(D:Ma p n A)(H:Ve p (Lu A) v)(hn:n<=8)(db:(Lu A)<=8)(yF:jj vA A)(kU:FI vv v)(hk:∀z,FI z (vt p n v A)->K z σ):
  zA Li 271 [.int .i64 p,vv,vA,.int .i64 n] σ K:=by
 have iq:=H.len;obtain⟨U,av,rfl⟩:=kU;obtain⟨T,J,S,rfl,yW⟩:=yF;have hl:=(vt_ve (af:0<p) D H.len).len;refine zA.gh ?_;refine qH mix Tryz.func271 ?_;simp only[Z3,seval,-ae,YL,zh,uK (n:=n) af,tn (n:=n) af];refine zF (λm vs h'=>∃i:Nat,i<=Lu v/\m=Lu v-i/\vs=[.int .i64 p,.fz U av (Lu v) (cS v),.fz T J (Lu A) S,.sl σ.aM 0 n (.b6 n),.int .i64 i]/\h'=σ.bf (cS (AL p n v A i))) (Lu v) ?_ ?_
 .exact⟨0,af,af,rfl,rfl⟩
 rintro m vs h' ⟨i,hi,rfl,rfl,rfl⟩
 by_cases l:i<Lu v;rotate_left
 .have aU:i=Lu v:=af
  subst aU;simp only[Z3,seval,-ae,Uh];exact Gh.finF (s:=σ.aM) (zC σ _) (by refine Lk ?_;rfl) (na _) (zL _ _) (show gk (.b6 n) n=DF by simp[gk]) λo=>hk _ ⟨DF,.sl o 0 n (.b6 n),by rw[hl]⟩
 have u:i<Lu A:=af
 obtain⟨w4,a4,hr⟩:=yW.rowI u;have G:=D.row u;rw[zOC u]at G;have bp:=G.len;have gK:=Qh (v:=v) D (i:=i) af;have W:=zLs (v:=v) (af:0<p) D (i:=i) af;have Z:=H.bd i;rw[dp l]at Z;have eG:AL p n v A (i+1)=tm p v[i] A[i] (AL p n v A i):=by rw[AL,dp l,zOC u]
 generalize fL:AL p n v A i=acc at *
 have V:(tm p v[i] A[i] acc).length=Lu acc:=zAa af;simp only[Z3,seval,-ae,l,u];refine zF (λm vs h'=>∃j:Nat,j<=n/\m=n-j/\vs=[.int .i64 p,.fz U av (Lu v) (cS v),.fz T J (Lu A) S,.sl σ.aM 0 n (.b6 n),.int .i64 i,.int .i64 j]/\h'=σ.bf (cS ((tm p v[i] A[i] acc).take j++acc.drop j))) n ?_ ?_
 .exact⟨0,af,af,rfl,by rw[UT,EC,Yl]⟩
 rintro m vs h' ⟨j,hj,rfl,rfl,rfl⟩
 by_cases R:j<n;rotate_left
 .have fI:j=n:=af
  subst fI;simp only[Z3,seval,-ae,Uh,WX l];refine⟨_,af,i+1,af,rfl,rfl,?_⟩;rw[Ug af,Ye,YS af,eG]
 have I:j<A[i].length:=af
 have E:j<Lu acc:=af
 have c1:=G.bd j;have c2:=W.bd j;rw[dp I]at c1;rw[dp E]at c2;have c3:=sm6 (a:=v[i]) (b:=A[i][j]) af af;have e1:=zSi V E;have hlen:j+1<=((tm p v[i] A[i] acc).take j++acc.drop j).length:=by simp;omega
 have oN:Lp .i64 (v[i] * A[i][j])=v[i] * A[i][j]:=WE;have lI:Lp .i64 (acc[j] + v[i] * A[i][j])=acc[j] + v[i] * A[i][j]:=WE;have N:¬p=0:=af
 have et:(acc[j] + v[i] * A[i][j]).tmod p=(acc[j] + v[i] * A[i][j]) % p:=Yd af;have Ru:=Y3 (acc[j] + v[i] * A[i][j]) N;have ML:=Y6 (acc[j] + v[i] * A[i][j]) (af:0<p);have Y:Lp .i64 ((acc[j] + v[i] * A[i][j]) % p)=(acc[j] + v[i] * A[i][j]) % p:=WE;simp only[Z3,seval,-ae,R,u,hr,I,l,zN,zJ,gi l,gi I,e1,hlen,oN,lI,N,et,Y,WX R];refine⟨_,af,j+1,af,rfl,rfl,?_⟩;rw[zX (by simp;omega)];have X:j<(tm p v[i] A[i] acc).length:=af
 rw[<-zSh V X,zNy af E]
def zIo(Z:2<=p/\p<=7)(V:Ma p (Lu B) A)(W:Ma p n B)(Y:n<=8)(jH:(Lu B)<=8)(db:(Lu A)<=8)(yF:jj vA A)(D:jj vB B)(X:∀v,jj v (mm p n A B)->K v σ):
  zA Li 268 [.int .i64 p,vA,vB,.int .i64 n] σ K:=by
 have U:=D.one;have I:=D;obtain⟨wA,R,rA,rfl,yW⟩:=yF;refine Lh Tryz.func268 ?_;refine Lk ?_;refine zF (λm vs h'=>∃(i:Nat) (vC:PV) (rows:List PV),i<=Lu A/\m=Lu A-i/\vs=[.int .i64 p,.fz wA R (Lu A) rA,vB,.int .i64 n,vC,.int .i64 i]/\cT σ h'/\eA σ.aM 1 h' vC i rows/\dd FI rows ((mm p n A B).take i)) (Lu A) ?_ ?_
 .exact⟨0,_,[],af,af,rfl,zC σ _,eA.bf _ 1 rfl (na _),by rw[UT];exact dd.nil _⟩
 rintro m vs h' ⟨i,vC,rows,hi,rfl,rfl,E,G,u⟩
 refine Lk ?_;refine Ll (λaG=>?_) λl=>?_
 .have aU:i=Lu A:=af
  subst aU;rw[YS (by rw[zCa];exact na _)]at u;exact G.fin E (u.bI 0) λo cap=>X _ ⟨DF,_,rows,by rw[zCa],u⟩
 obtain⟨w4,N,hr⟩:=yW.rowI l;have S:=V _ (YZ l);simp only[Z3,seval,-ae,l,hr];refine zLd Z W S Y jH I ⟨w4,N,rfl⟩ λz H=>?_;have T:=H;obtain⟨wz,az,rfl⟩:=H;refine Lk ?_;refine eA.push (bytes:=24) E G af af λv' U k2 J=>?_;simp only[Z3,seval,-ae,WX l];refine⟨_,af,i+1,v',_,af,rfl,rfl,k2,J,?_⟩;rw[zR6 l];exact u.snoc T
end
section
open Go.Mx
variable{b s:Nat}{L L':Nat->Nat}{len:Nat->Nat}{cs:List PV}
def zJu{p m:Int}(hp:2<=p/\p<=7)(hm:1<=m/\m<=1000)(U:MatX σ vM M)(IK:Ma p (Lu M) M)(hl:1<=Lu M/\Lu M<=8)
  (hk:∀wO wP wC O P C,dU wO wP wC O P C->Fm 18 O P C->K (.agg [wO,wP,wC]) σ):zA Li 256 [.int .i64 p,vM,.int .i64 m] σ K:=by
 refine zA.gh ?_;refine qH mix Tryz.func256 ?_;simp only[Z3,seval,-ae,U.one];refine zAi hm λv1 l t1 kV oK iL=>?_;simp only[Z3,seval,-ae,U.one];obtain⟨w1,V,rfl⟩:=kV;refine qw rfl af λbD fT=>?_;generalize hH:σ.bf [Ln,Ln,Ln]=H;have fq:H.aM=σ.aM+1:=by rw[<-hH];rfl
 have kH:cT σ H:=by rw[<-hH];exact zC _ _
 have fx:H.bt σ.aM=Dc [Ln,Ln,Ln]:=by rw[<-hH];simp only[Z3,seval,-ae]
 clear hH;simp only[Z3,seval,-ae,U.one];have NI:=U.cf kH;obtain⟨n,hn⟩:∃n,n=Lu M:=⟨_,rfl⟩
 have hlen:=U.mo;have I:=U.one;have wn:∀{i:Nat},i<n->Lp .i64 ((i:Int)+1)=((i+1:Nat):Int):=λ{i} hi=>by rw[fl af af];omega
 rw[<-hn]at hlen hl;refine zF (λG vs h=>∃(i:Nat) (v:PV),i<=n/\G=n-i/\vs=[.int .i64 p,vM,.ptr σ.aM 0,.fz w1 V (Lu l) (cS l),v,.int .i64 i]/\cT H h/\eA H.aM 1 h v (Lu l+i) (cS (l++Ep i p))) n ?_ ?_
 .refine⟨0,.sl H.aM 0 (Lu l) bD,YV _,rfl,rfl,zC H _,?_⟩
  have:=eA.own (b:=H.aM) (h:=H.bf (cS l)) (s:=H.aM) (n:=(Lu l)) (e:=1) (cs:=cS l) fT (by rw[zI,DK rfl]) (by rw[zJ,Fe]) (na _) (YM _)
  simpa using this
 rintro G vs h ⟨i,v,hi,rfl,rfl,W,Y⟩
 simp only[Z3,seval,-ae,hlen,I];refine de (λS=>?_) λZ=>?_
 .have aq:(i:Int)<(n:Int):=af
  refine eA.push (σb:=H) (bytes:=8) W Y af af λv2 h2 k2 a2=>?_;simp only[Z3,seval,-ae,wn S,I];refine⟨_,af,i+1,v2,af,rfl,rfl,k2,?_⟩;have e:cS (l++Ep (i+1) p)=cS (l++Ep i p)++[.int .i64 p]:=by rw[HR,<-Yv];simp[cS]
  rw[e];exact a2
 have cw:i=n:=af
 subst cw;generalize xf:i=n at *
 obtain⟨O,hO⟩:∃O,O=l++Ep n p:=⟨_,rfl⟩
 rw[<-hO]at Y;have AX:(Lu O)=Lu l+n:=by rw[hO,YB,YL]
 have gG:∀a∈O,1<=a/\a<=1000:=λa h=>by
  rw[hO]at h;rcases YY.1 h with h|h
  .exact(iL a h).b1
  .rw[(List.mem_replicate.1 h).2];omega
 clear hO;rw[<-AX]at Y;obtain⟨so,capO,rfl,q1,q2,q3,q4,q5⟩:=Y;have lj:=W.aM;generalize h=h3 at *
 have NJ:=NI.cf W;refine Lk ?_;refine ZU q2 q5 af λL h vO vP vC k4 X=>?_;have mS:=k4.aM;have D:=TB.start (r:=σ.aM) X af (by rw[k4.bt _ af,W.bt _ af];exact fx) mS;have E:=k4.bf [vO,vP,vC];simp only[Z3,seval,-ae,X.hO.one,X.hP.one,X.hC.one];generalize h.aM=s at *
 clear X k4;generalize hN:(Lu O)=N at *
 refine zF (λG vs h=>∃(i:Nat) (L:Nat->Nat),i<=Lu l/\G=Lu l-i/\vs=[.int .i64 p,vM,.ptr σ.aM 0,.fz w1 V (Lu l) (cS l),.sl so 0 N capO,.ptr s 0,.int .i64 (Lu l),.int .i64 i]/\cT h3 h/\TB h3.aM h (λm=>m=N) O L N N (λj=>N-1-j) σ.aM s vO vP vC) (Lu l) ?_ ?_
 .exact⟨0,_,YV _,rfl,rfl,E,D⟩
 clear D E
 rintro G vs h ⟨i,L,hi,rfl,rfl,E,D⟩
 have gD:=E.aM;have wi:Lp .i64 ((i:Int)+1)=((i+1:Nat):Int):=WQ
 simp only[Z3,seval,-ae,wi,I];refine de (λS=>?_) λZ=>?_
 .have T:i<N:=af
  have dk:(i:Int)<(N:Int):=af
  obtain⟨sP,capP,rfl,xu,pG,put⟩:=D.putPx T;have rL:¬sP=h.aM:=af
  simp only[Z3,seval,-ae,D.r1,wi];refine zBj af af λbn c8=>?_;obtain⟨ds,L',w,a6⟩:=put (xs:=cD N (i+1)) (cp:=bn) (zU ..) (by rw[zU];exact c8);rw[zU]at w;have k6:cT h3 ((h.bf (cS (cD N (i+1)))).set sP ds):=(E.bf _).set af _;have r1:(h.bf (cS (cD N (i+1)))).dR s 1=Dc (.sl sP 0 N capP):=(D.bf _).r1;generalize h.bf (cS (cD N (i+1)))=g at *
  simp only[Z3,seval,-ae,r1,T,dk,w,wi,I];refine⟨_,af,i+1,L',af,rfl,rfl,k6,a6⟩
 clear wi Z hi;have fin:∀{g:cg} {L:Nat->Nat},cT h3 g->TB h3.aM g (λm=>m=N) O L N N (λj=>N-1-j) σ.aM s vO vP vC->
   g.wr σ.aM 0 [vO,vP,vC]=Dc (g.set σ.aM [vO,vP,vC])/\(g.set σ.aM [vO,vP,vC]).rd σ.aM 0 3=Dc [vO,vP,vC]/\Gh σ K (.agg [vO,vP,vC]) (g.set σ.aM [vO,vP,vC]):=λ{g L} kg a=>by
  obtain⟨e1,e2,e3⟩:=a.fin;refine⟨e1,e2,e3.fin (((kH.trans W).trans kg).set (na _) _) af λwO wP wC P C r1 r2=>hk wO wP wC O P C r1 ⟨af,gG,?_⟩⟩;rw[hN];exact r2
 refine zPN (NJ.cf E) af (λr hr=>by have:=(IK r hr).len;omega) λR J=>?_;simp only[Z3,seval,-ae,I];refine zF (λG vs h=>∃(i:Nat) (R:PV) (A:V2) (L:Nat->Nat),i<=Lu l/\G=Lu l-i/\vs=[.int .i64 p,vM,.ptr σ.aM 0,.fz w1 V (Lu l) (cS l),.ptr s 0,.int .i64 (Lu l),R,.int .i64 i]/\jj R A/\Ma p n A/\Lu A=n/\cT h3 h/\TB h3.aM h (λm=>m=N) O L N N (λj=>N-1-j) σ.aM s vO vP vC) (Lu l) ?_ ?_
 .exact⟨0,R,M,L,YV _,rfl,rfl,J,by rw[hn];exact IK,hn.symm,E,D⟩
 clear E D gD J
 rintro G vs h ⟨i,R,A,L,hi,rfl,rfl,J,hA,GA,E,D⟩
 have gD:=E.aM;simp only[Z3,seval,-ae,I,J.one];refine Ll (λZ=>?_) λS=>?_
 .obtain⟨e1,e2,e3⟩:=fin E D;simp only[Z3,seval,-ae,D.r3,e1,e2];exact e3
 refine zF (λG vs h=>∃(j:Nat) (L:Nat->Nat),j<=n/\G=n-j/\vs=[.int .i64 p,vM,.ptr σ.aM 0,.fz w1 V (Lu l) (cS l),.ptr s 0,.int .i64 (Lu l),R,.int .i64 i,.int .i64 j]/\cT h3 h/\TB h3.aM h (λm=>m=N) O L N N (λj=>N-1-j) σ.aM s vO vP vC) n ?_ ?_
 .exact⟨0,L,YV _,rfl,rfl,E,D⟩
 clear E D gD
 rintro G vs h ⟨j,L,hj,rfl,rfl,E,D⟩
 have gD:=E.aM;have T:i<N:=af
 have dk:(i:Int)<(N:Int):=af
 have lY:(i:Int)<(Lu l:Int):=af
 simp only[Z3,seval,-ae,hlen,I,J.one];refine Ll (λZ=>?_) λaD=>?_
 .have xi:=(iL _ (YZ S)).b1;have gx:(cS l)[i]? = Dc (.int .i64 l[i]):=by rw[zN,gi S];rfl
  have JI:Lp .i64 ((i:Int)+1)=((i+1:Nat):Int):=WQ
  refine zF (λG vs h'=>∃(k:Nat) (wB:PV) (B:V2),1<=k/\k<=1000/\G=1000-k/\vs=[.int .i64 p,vM,.ptr σ.aM 0,.fz w1 V (Lu l) (cS l),.ptr s 0,.int .i64 (Lu l),wB,.int .i64 i,R,.int .i64 k]/\jj wB B/\Ma p n B/\Lu B=n/\h'=h) 999 ?_ ?_
  .exact⟨1,R,A,na _,LB,LB,rfl,J,hA,GA,rfl⟩
  rintro G vs h' ⟨k,wB,B,bU,df,rfl,rfl,hB,Gz,oM,rfl⟩
  simp only[Z3,seval,-ae,S,lY,gx,I,J.one,hB.one];refine Ll (λeQ=>?_) λuH=>?_
  .simp only[Z3,seval,-ae,JI,hB.one,I];exact⟨_,af,i+1,wB,B,L,af,rfl,rfl,hB,Gz,oM,E,D⟩
  have wk:Lp .i64 ((k:Int)+1)=((k+1:Nat):Int):=WQ
  simp only[Z3,seval,-ae,hlen];refine zIo hp (A:=B) (B:=A) (n:=n) (by rw[GA];exact Gz) hA af af af hB J λz hz=>?_;have dH:=hz.one;simp only[Z3,seval,-ae,dH,wk,I,J.one];exact⟨_,af,k+1,z,mm p n B A,af,af,rfl,rfl,hz,mm_ma af (by rw[GA];exact Gz) hA,by rw[zCa];exact oM⟩
 have kD:(Lu l)+j-i-1<N-1-i:=af
 have iQ:((Lu l+j-i-1:Nat):Int)<((N-1-i:Nat):Int):=af
 have Fx:j<Lu A:=af
 have Fw:(j:Int)<(Lu A:Int):=af
 have Hg:Lp .i64 ((Lu l:Int)+(j:Int))=(Lu l:Int)+(j:Int):=WE;have wj:Lp .i64 ((Lu l:Int)+(j:Int)-(i:Int))=(Lu l:Int)+(j:Int)-(i:Int):=WE;have ri:Lp .i64 ((Lu l:Int)+(j:Int)-(i:Int)-1)=((Lu l+j-i-1:Nat):Int):=WQ
 obtain⟨sC,capC,u,lJ,rfl,q7,CS,CD,CO,Am,put⟩:=D.putCx T kD;have Eb:¬sC=h.aM:=af
 have wJ:¬u=h.aM:=af
 obtain⟨wA,aA,rA,rfl,yW⟩:=J;obtain⟨w4,a4,hr⟩:=yW.rowI Fx;have aN:=(hA _ (YZ Fx)).len;simp only[Z3,seval,-ae,D.r2,q7,T,dk,Hg,wj,ri,Fx,Fw,hr];refine zAE (before:=(Lu l)) (behind:=0) ⟨w4,a4,rfl⟩ af af af λbn ys jk c8=>?_;have mz:(Lu ys)=N:=af
 obtain⟨ds,L',rC,w,a6⟩:=put (xs:=ys) (cp:=bn) mz c8;have r2:(h.bf (cS ys)).dR s 2=Dc (.sl sC 0 N capC):=(D.bf _).r2;have k6:cT h3 ((h.bf (cS ys)).set u ds):=(E.bf _).set af _;generalize h.bf (cS ys)=g at *
 simp only[Z3,seval,-ae,r2,rC,T,dk,kD,iQ,w,Hg,wj,ri,wn aD,I];exact⟨_,af,j+1,L',af,rfl,rfl,k6,a6⟩
end
section
variable{b s:Nat}{L L':Nat->Nat}{Q:Nat->Prop}{len:Nat->Nat}{C1 C2:V3}{cs:List PV}
def rX.mark{b':Nat}(a:rX L h b k x v)(I:b'<=b)(H:∀t,b<=t->L' t=L t):rX L' h b' k x v:=by
 obtain⟨s,cap,rfl,l,u,D,E,G⟩:=a;exact⟨s,cap,rfl,l,u,af,E,by rw[H s D];exact G⟩
def eE.mark{b':Nat}(a:eE L h b Q v)(u:b'<=b)(l:∀t,b<=t->L' t=L t):eE L' h b' Q v:=by
 obtain⟨x,q,a⟩:=a;exact⟨x,q,a.mark u l⟩
def ft.mark{b' n:Nat}(a:ft L h b Q k n v)(N:b'<=b)(l:∀t,b<=t->L' t=L t):ft L' h b' Q k n v:=by
 obtain⟨s,cap,cs,rfl,u,D,E,G,H,I,J⟩:=a;exact⟨s,cap,cs,rfl,u,D,E,af,H,by rw[l s G];exact I,λc R=>(J c R).mark N l⟩
def yp.mark{b' n:Nat}(a:yp L h b Q n len v)(N:b'<=b)(l:∀t,b<=t->L' t=L t):yp L' h b' Q n len v:=by
 obtain⟨s,cap,cs,rfl,u,D,E,G,H,I,J⟩:=a;exact⟨s,cap,cs,rfl,u,D,E,af,H,by rw[l s G];exact I,λi c R=>(J i c R).mark N l⟩
def PW.mark{b':Nat}(a:PW L b h Q O nP nC len vO vP vC)(u:b'<=b)(l:∀t,b<=t->L' t=L t):PW L' b' h Q O nP nC len vO vP vC:=
 ⟨a.hO.mark u l,a.hP.imp id λa=>a.mark u l,a.hC.imp id λa=>a.mark u l⟩
def TB.startAt{b':Nat}(a:PW L b h Q O nP nC len vO vP vC)(hs:s<b)(u:b'<=s)(E:b<=h.aM)(D:r<b')(l:h.bt r=Dc [Ln,Ln,Ln]):TB b' (h.set s [vO,vP,vC]) Q O (nU L s 7) nP nC len r s vO vP vC:=
 ⟨by rw[zG,DL af];exact l,D,by rw[zG,DK rfl],(a.set hs _).mark af λt G=>by unfold nU;rw[DL af],Qf,⟨u,by show s<h.aM;omega⟩⟩
def zNW(jK:dU vO vP vC O1 P1 C1)(Z:Fm 18 O1 P1 C1)(jJ:dU yO yP yC O2 P2 C2)(h2:Fm 18 O2 P2 C2)
  (hk:∀wO wP wC O P C,dU wO wP wC O P C->Fm 36 O P C->K (.agg [wO,wP,wC]) σ):zA Li 233 [.agg [vO,vP,vC],.agg [yO,yP,yC]] σ K:=by
 refine zA.gh ?_;have o1:=jK.O.one;have o2:=jJ.O.one;have p1:=jK.P.one;have p2:=jJ.P.one;have c1:=jK.C.one;have c2:=jJ.C.one;obtain⟨⟨w1,a1,rfl⟩,AU,NP⟩:=jK;obtain⟨⟨w2,a2,rfl⟩,Gj,NO⟩:=jJ;have n1:=Z.n;have n2:=h2.n;refine qH mix Tryz.func233 ?_;simp only[Z3,seval,-ae,o1,o2,p1,p2,c1,c2];generalize pW:((σ.bf [PV.fz w1 a1 (Lu O1) (cS O1),vP,vC]).bf [PV.fz w2 a2 (Lu O2) (cS O2),yP,yC]).bf [Ln,Ln,Ln]=H3;have Gs:H3.aM=σ.aM+3:=by rw[<-pW];rfl
 have K8:cT σ H3:=by rw[<-pW];exact((zC _ _).bf _).bf _
 have yf:H3.bt σ.aM=Dc [PV.fz w1 a1 (Lu O1) (cS O1),vP,vC]:=by rw[<-pW];simp only[Z3,seval,-ae]
 have D5:H3.bt (σ.aM+1)=Dc [PV.fz w2 a2 (Lu O2) (cS O2),yP,yC]:=by rw[<-pW];simp only[Z3,seval,-ae]
 have Ci:H3.bt (σ.aM+2)=Dc [Ln,Ln,Ln]:=by rw[<-pW];simp only[Z3,seval,-ae]
 clear pW;generalize hH:H3.bf [Ln,Ln,Ln]=H;have fq:H.aM=σ.aM+4:=by rw[<-hH];show H3.aM+1=_;omega
 have kH:cT H3 H:=by rw[<-hH];exact zC _ _
 have KK:H.bt (σ.aM+3)=Dc [Ln,Ln,Ln]:=by rw[<-hH,zI,DK Gs.symm]
 clear hH;refine qw rfl af λbD fT=>?_;have Hm:(H.bf (cS O1)).dR (σ.aM+1) 0=Dc (.fz w2 a2 (Lu O2) (cS O2)):=by rw[zH (by rw[zI,DL af,kH.bt _ af];exact D5)];rfl
 have HG:cT H (H.bf (cS O1)):=zC _ _;have Ch:eA H.aM 1 (H.bf (cS O1)) (.sl H.aM 0 (Lu O1) bD) (Lu O1) (cS O1):=eA.own fT (by rw[zI,DK rfl]) (by rw[zJ,Fe]) (na _) (YM _);have Ih:H.aM<=(H.bf (cS O1)).aM:=UW _;generalize H.bf (cS O1)=g at *
 simp only[Z3,seval,-ae,Hm];refine eA.cat (σb:=H) (bytes:=8) (m:=(Lu O2)) (news:=cS O2) HG Ch (by rw[zJ]) af af λv3 h3 k3 a3=>?_;rw[QL,<-YB]at a3;obtain⟨O,hO⟩:∃O,O=O1++O2:=⟨_,rfl⟩
 rw[<-hO]at a3;have AX:(Lu O)=Lu O1+Lu O2:=by rw[hO,YB]
 have gG:∀a∈O,1<=a/\a<=1000:=λa h=>by
  rw[hO]at h;rcases YY.1 h with h|h
  .exact Z.ob a h
  .exact h2.ob a h
 clear hO;obtain⟨so,capO,rfl,q1,q2,q3,q4,q5⟩:=a3;have lj:=k3.aM;refine Lk ?_;refine ZU q2 q5 af λL h W uP V k4 U=>?_;have mS:=k4.aM;have Ck:=k3.trans k4;have Hp:h.bt (σ.aM+3)=Dc [Ln,Ln,Ln]:=by rw[Ck.bt _ af];exact KK
 have D:=TB.startAt (b':=σ.aM+3) (r:=σ.aM+2) (s:=σ.aM+3) U af (na _) mS af (by rw[Ck.bt _ af,kH.bt _ af];exact Ci);have l:cT H3 (h.set (σ.aM+3) [W,uP,V]):=(kH.trans Ck).set af _;have w5:h.wr (σ.aM+3) 0 [W,uP,V]=Dc (h.set (σ.aM+3) [W,uP,V]):=by rw[zR Hp,DK ⟨aK,by simp[U.hO.one,U.hP.one,U.hC.one]⟩];rfl
 simp only[Z3,seval,-ae,U.hO.one,U.hP.one,U.hC.one,w5];generalize h.set (σ.aM+3) [W,uP,V]=g5 at *
 clear w5 Hp U Ck k4 mS Ch HG Hm Ih k3 q1 q2 q3 q4 q5 lj;generalize hN:(Lu O)=N at *
 obtain⟨JZ,OU,Ks,rfl,EO⟩:=AU;obtain⟨J1,OW,Ku,rfl,ES⟩:=NP;obtain⟨JY,OS,Kr,rfl,EN⟩:=Gj;obtain⟨J0,OV,Kt,rfl,EP⟩:=NO;have Hz:=Z.q.pl;have Hy:=h2.q.pl;have HB:=Z.q.cl;have HA:=h2.q.cl;have X1:∀{g:cg},cT H3 g->g.dR σ.aM 1=Dc (.fz JZ OU (Lu P1) Ks):=λ{g} kg=>by rw[zH (by rw[kg.bt _ af];exact yf)];rfl
 have X2:∀{g:cg},cT H3 g->g.dR σ.aM 2=Dc (.fz J1 OW (Lu C1) Ku):=λ{g} kg=>by rw[zH (by rw[kg.bt _ af];exact yf)];rfl
 have Y1:∀{g:cg},cT H3 g->g.dR (σ.aM+1) 1=Dc (.fz JY OS (Lu P2) Kr):=λ{g} kg=>by rw[zH (by rw[kg.bt _ af];exact D5)];rfl
 have Y2:∀{g:cg},cT H3 g->g.dR (σ.aM+1) 2=Dc (.fz J0 OV (Lu C2) Kt):=λ{g} kg=>by rw[zH (by rw[kg.bt _ af];exact D5)];rfl
 have DN:∀i (hi:i<Lu C1),C1[i].length=Lu O1-1-i:=λi hi=>by
  have:=Z.q.row i af
  rw[YW,YQ hi]at this;exact this
 have DM:∀i (hi:i<Lu C2),C2[i].length=Lu O2-1-i:=λi hi=>by
  have:=h2.q.row i af
  rw[YW,YQ hi]at this;exact this
 refine zF (λI vs h=>∃(i:Nat) (L:Nat->Nat),i<=Lu O1/\I=Lu O1-i/\vs=[.ptr σ.aM 0,.ptr (σ.aM+1) 0,.ptr (σ.aM+2) 0,.int .i64 (Lu O1),.int .i64 (Lu O2),.ptr (σ.aM+3) 0,.int .i64 i]/\cT H3 h/\TB (σ.aM+3) h (λm=>m=N) O L N N (λj=>N-1-j) (σ.aM+2) (σ.aM+3) W uP V) (Lu O1) ?_ ?_
 .exact⟨0,_,YV _,rfl,rfl,l,D⟩
 clear D l
 rintro I vs h ⟨i,L,hi,rfl,rfl,l,D⟩
 have gD:=l.aM;refine Lk ?_;refine Ll (λaG=>?_) λah=>?_
 .refine zF (λI vs h=>∃(i:Nat) (L:Nat->Nat),i<=Lu O2/\I=Lu O2-i/\vs=[.ptr (σ.aM+1) 0,.ptr (σ.aM+2) 0,.int .i64 (Lu O1),.int .i64 (Lu O2),.ptr (σ.aM+3) 0,.int .i64 i]/\cT H3 h/\TB (σ.aM+3) h (λm=>m=N) O L N N (λj=>N-1-j) (σ.aM+2) (σ.aM+3) W uP V) (Lu O2) ?_ ?_
  .exact⟨0,_,YV _,rfl,rfl,l,D⟩
  clear D l
  rintro I vs h ⟨i,L,hi,rfl,rfl,l,D⟩
  have gD:=l.aM;refine Lk ?_;refine Ll (λaG=>?_) λah=>?_
  .obtain⟨e1,e2,e3⟩:=D.fin;simp only[Z3,seval,-ae,D.r3,e1,e2];refine e3.fin ((K8.trans l).set af _) af λwO wP wC P C r1 r2=>hk wO wP wC O P C r1 ⟨af,gG,?_⟩;rw[hN];exact r2
  have G:(Lu O1)+i<N:=af
  have Y:((Lu O1+i:Nat):Int)<(N:Int):=af
  have X:i<Lu P2:=af
  have uU:(i:Int)<(Lu P2:Int):=af
  have E:i<Lu C2:=af
  have nv:(i:Int)<(Lu C2:Int):=af
  have wi:Lp .i64 ((i:Int)+1)=((i+1:Nat):Int):=WQ
  have xK:Lp .i64 ((Lu O1:Int)+(i:Int))=((Lu O1+i:Nat):Int):=WQ
  obtain⟨J,capP,rfl,xu,pG,put⟩:=D.putPx G;have rL:¬J=h.aM:=af
  obtain⟨w4,a4,hr⟩:=EN.rowI X;have bp:P2[i].length=Lu O2:=h2.q.pq _ (YZ X);simp only[Z3,seval,-ae,D.r1,Y1 l,xK,X,uU,hr];refine zAE (before:=(Lu O1)) (behind:=0) ⟨w4,a4,rfl⟩ af af af λbn ys jk c8=>?_;have mz:(Lu ys)=N:=af
  obtain⟨ds,L',w,R⟩:=put (xs:=ys) (cp:=bn) mz c8;have r1:(h.bf (cS ys)).dR (σ.aM+3) 1=Dc (.sl J 0 N capP):=(D.bf _).r1;have T:cT H3 ((h.bf (cS ys)).set J ds):=(l.bf _).set af _;generalize h.bf (cS ys)=g at *
  simp only[Z3,seval,-ae,r1,G,Y,w,xK,wi];generalize g.set J ds=g6 at *
  clear w r1 gD pG rL put l D;obtain⟨w7,a7,DH,yX,ua⟩:=EP.rowL E;have fy:=DM i E;refine zF (λI vs h=>∃(j:Nat) (L:Nat->Nat),j<=C2[i].length/\I=C2[i].length-j/\vs=[.ptr (σ.aM+1) 0,.ptr (σ.aM+2) 0,.int .i64 (Lu O1),.int .i64 (Lu O2),.ptr (σ.aM+3) 0,.int .i64 i,.int .i64 j]/\cT H3 h/\TB (σ.aM+3) h (λm=>m=N) O L N N (λj=>N-1-j) (σ.aM+2) (σ.aM+3) W (.sl J 0 N capP) V) C2[i].length ?_ ?_
  .exact⟨0,L',YV _,rfl,rfl,T,R⟩
  clear T R
  rintro I vs h ⟨j,L,hj,rfl,rfl,l,D⟩
  have gD:=l.aM;simp only[Z3,seval,-ae,Y2 l,E,nv,yX];refine Ll (λeQ=>?_) λS=>?_
  .simp only[Z3,seval,-ae,wi];exact⟨_,af,i+1,L,af,rfl,rfl,l,D⟩
  have kD:j<N-1-(Lu O1+i):=af
  have iQ:(j:Int)<((N-1-(Lu O1+i):Nat):Int):=af
  have uN:(j:Int)<(C2[i].length:Int):=af
  obtain⟨sC,capC,u,lJ,rfl,q7,CS,CD,CO,Am,put⟩:=D.putCx G kD;have Eb:¬sC=h.aM:=af
  have wJ:¬u=h.aM:=af
  obtain⟨w8,a8,EW⟩:=ua.rowI S;have EU:C2[i][j].length=Lu O2:=h2.q.cq _ (YZ E) _ (YZ S);simp only[Z3,seval,-ae,D.r2,q7,G,Y,xK,Y2 l,E,nv,yX,S,uN,EW];refine zAE (before:=(Lu O1)) (behind:=0) ⟨w8,a8,rfl⟩ af af af λiV zs dy nN=>?_;have tP:(Lu zs)=N:=af
  obtain⟨qn,Hd,rC,w,R⟩:=put (xs:=zs) (cp:=iV) tP nN;have r2:(h.bf (cS zs)).dR (σ.aM+3) 2=Dc (.sl sC 0 N capC):=(D.bf _).r2;have T:cT H3 ((h.bf (cS zs)).set u qn):=(l.bf _).set af _;generalize h.bf (cS zs)=g at *
  simp only[Z3,seval,-ae,r2,rC,G,Y,kD,iQ,w,xK,WX S];exact⟨_,af,j+1,Hd,af,rfl,rfl,T,R⟩
 have G:i<N:=af
 have Y:((i:Nat):Int)<(N:Int):=af
 have X:i<Lu P1:=af
 have uU:(i:Int)<(Lu P1:Int):=af
 have E:i<Lu C1:=af
 have nv:(i:Int)<(Lu C1:Int):=af
 have wi:Lp .i64 ((i:Int)+1)=((i+1:Nat):Int):=WQ
 have xK:Lp .i64 ((Lu O1:Int)+(i:Int))=((Lu O1+i:Nat):Int):=WQ
 obtain⟨J,capP,rfl,xu,pG,put⟩:=D.putPx G;have rL:¬J=h.aM:=af
 obtain⟨w4,a4,hr⟩:=EO.rowI X;have bp:P1[i].length=Lu O1:=Z.q.pq _ (YZ X);simp only[Z3,seval,-ae,D.r1,X1 l,X,uU,hr];refine zAE (before:=0) (behind:=(Lu O2)) ⟨w4,a4,rfl⟩ af af af λbn ys jk c8=>?_;have mz:(Lu ys)=N:=af
 obtain⟨ds,L',w,R⟩:=put (xs:=ys) (cp:=bn) mz c8;have r1:(h.bf (cS ys)).dR (σ.aM+3) 1=Dc (.sl J 0 N capP):=(D.bf _).r1;have T:cT H3 ((h.bf (cS ys)).set J ds):=(l.bf _).set af _;generalize h.bf (cS ys)=g at *
 simp only[Z3,seval,-ae,r1,G,Y,w,wi];generalize g.set J ds=g6 at *
 clear w r1 gD pG rL put l D;obtain⟨w7,a7,DH,yX,ua⟩:=ES.rowL E;have fy:=DN i E;refine zF (λI vs h=>∃(j:Nat) (L:Nat->Nat),j<=C1[i].length/\I=C1[i].length-j/\vs=[.ptr σ.aM 0,.ptr (σ.aM+1) 0,.ptr (σ.aM+2) 0,.int .i64 (Lu O1),.int .i64 (Lu O2),.ptr (σ.aM+3) 0,.int .i64 i,.int .i64 j]/\cT H3 h/\TB (σ.aM+3) h (λm=>m=N) O L N N (λj=>N-1-j) (σ.aM+2) (σ.aM+3) W (.sl J 0 N capP) V) C1[i].length ?_ ?_
 .exact⟨0,L',YV _,rfl,rfl,T,R⟩
 clear T R
 rintro I vs h ⟨j,L,hj,rfl,rfl,l,D⟩
 have gD:=l.aM;simp only[Z3,seval,-ae,X2 l,E,nv,yX];refine Ll (λeQ=>?_) λS=>?_
 .simp only[Z3,seval,-ae,wi];exact⟨_,af,i+1,L,af,rfl,rfl,l,D⟩
 have kD:j<N-1-(i):=af
 have iQ:(j:Int)<((N-1-(i):Nat):Int):=af
 have uN:(j:Int)<(C1[i].length:Int):=af
 obtain⟨sC,capC,u,lJ,rfl,q7,CS,CD,CO,Am,put⟩:=D.putCx G kD;have Eb:¬sC=h.aM:=af
 have wJ:¬u=h.aM:=af
 obtain⟨w8,a8,EW⟩:=ua.rowI S;have EU:C1[i][j].length=Lu O1:=Z.q.cq _ (YZ E) _ (YZ S);simp only[Z3,seval,-ae,D.r2,q7,G,Y,X2 l,E,nv,yX,S,uN,EW];refine zAE (before:=0) (behind:=(Lu O2)) ⟨w8,a8,rfl⟩ af af af λiV zs dy nN=>?_;have tP:(Lu zs)=N:=af
 obtain⟨qn,Hd,rC,w,R⟩:=put (xs:=zs) (cp:=iV) tP nN;have r2:(h.bf (cS zs)).dR (σ.aM+3) 2=Dc (.sl sC 0 N capC):=(D.bf _).r2;have T:cT H3 ((h.bf (cS zs)).set u qn):=(l.bf _).set af _;generalize h.bf (cS zs)=g at *
 simp only[Z3,seval,-ae,r2,rC,G,Y,kD,iQ,w,WX S];exact⟨_,af,j+1,Hd,af,rfl,rfl,T,R⟩
end
section
variable{b:Nat}{s:List UInt8}
def zGO{z:Int}(u:0<=z)(D:z<256):IntKind.u8.wrap z=z:=by
 unfold IntKind.wrap;have e:z % (2 ^ IntKind.u8.bits:Int)=z:=by
  have:(2 ^ IntKind.u8.bits:Int)=256:=by decide
  rw[this];omega
 have l:IntKind.u8.signed=false:=rfl;simp only[e,l,Bool.false_and,EB,if_false]
def zNZ(hs:(Lu s)<=1000)(I:∀y,-1<=y/\y<=1000000->K (.int .i64 y) σ):zA Li 276 [.str s] σ K:=by
 have bad:=I (-1) LB;refine Lg Tryz.func276 ?_;by_cases X:(Lu s)=0
 .have l:((Lu s:Nat):Int)=0:=af
  simp only[Z3,seval,-ae,l];exact bad
 have l:¬((Lu s:Nat):Int)=0:=af
 by_cases h6:6<Lu s
 .have d2:(6:Int)<((Lu s:Nat):Int):=af
  simp only[Z3,seval,-ae,l,d2];exact bad
 have d2:¬(6:Int)<((Lu s:Nat):Int):=af
 have J:0<Lu s:=af
 by_cases Y:1<Lu s/\s[0].toNat=48
 .have u:(1:Int)<((Lu s:Nat):Int):=af
  have E:((s[0].toNat:Nat):Int)=48:=af
  simp only[Z3,seval,-ae,l,d2,u,HS,YQ J,E];exact bad
 by_cases Z:1<Lu s
 case' pos=>
  have u:(1:Int)<((Lu s:Nat):Int):=af
  have E:¬((s[0].toNat:Nat):Int)=48:=af
  simp only[Z3,seval,-ae,l,d2,u,HS,YQ J,E]
 case' neg=>
  have u:¬(1:Int)<((Lu s:Nat):Int):=af
  simp only[Z3,seval,-ae,l,d2,u]
 all_goals
  refine zF (λm vs h=>∃(i:Nat) (y:Int),i<=Lu s/\m=Lu s-i/\vs=[.str s,.int .i64 y,.int .i64 i]/\0<=y/\y<10 ^ i/\h=σ) (Lu s) ?_ ?_
  .exact⟨0,0,YV _,rfl,rfl,LB,LB,rfl⟩
  rintro m vs h ⟨i,y,hi,rfl,rfl,y0,y1,rfl⟩
  have N:∀k:Nat,k<=6->(10:Int) ^ k<=1000000:=λk U=>by
   have:k=0\/k=1\/k=2\/k=3\/k=4\/k=5\/k=6:=af
   rcases this with rfl|rfl|rfl|rfl|rfl|rfl|rfl<;>decide
  have xe:=N i af;refine Lk ?_;refine Ll (λT=>?_) λH=>?_
  .exact I y af
  have gs:s[i]? = Dc s[i]:=YQ H;by_cases V:s[i].toNat<48
  .have D:((s[i].toNat:Nat):Int)<48:=af
   simp only[Z3,seval,-ae,Fs,gs,D];exact bad
  have D:¬((s[i].toNat:Nat):Int)<48:=af
  by_cases W:57<s[i].toNat
  .have G:(57:Int)<((s[i].toNat:Nat):Int):=af
   simp only[Z3,seval,-ae,Fs,gs,D,G];exact bad
  have G:¬(57:Int)<((s[i].toNat:Nat):Int):=af
  have w1:IntKind.u8.wrap ((s[i].toNat:Int)-48)=(s[i].toNat:Int)-48:=by
   exact zGO af af
  have w2:Lp .i64 ((s[i].toNat:Int)-48)=(s[i].toNat:Int)-48:=WE;have R:Lp .i64 (10*y)=10*y:=WE;have S:Lp .i64 (10*y+((s[i].toNat:Int)-48))=10*y+((s[i].toNat:Int)-48):=WE;simp only[Z3,seval,-ae,Fs,gs,D,G,w1,w2,R,S,WX H];exact⟨_,af,i+1,_,af,rfl,rfl,af,by rw[HN];omega⟩
def Strs(n:Nat)(cells:List PV):Prop:=∀c∈cells,∃q:List UInt8,c=.str q/\Lu q<=n
def Strs.bels{n:Nat}{cells:List PV}(a:Strs n cells)(b:Nat):hZ b cells:=zBD.2 λc l=>by obtain⟨q,rfl,_⟩:=a c l;trivial
def Strs.snoc{n:Nat}{cells:List PV}(a:Strs n cells){q:List UInt8}(l:(Lu q)<=n):Strs n (cells++[.str q]):=λc hc=>by
 rcases YY.1 hc with hc|hc
 .exact a c hc
 .exact⟨q,YT.1 hc,l⟩
def zCv{c:Int}(hs:(Lu s)<=1000)(Z:∀a n cells,1<=n->n<=Lu s+1->(Lu cells)=n->Strs (Lu s) cells->K (.fz DF a n cells) σ):zA Li 272 [.str s,.int .u8 c] σ K:=by
 refine Lh Tryz.func272 ?_;refine Lk ?_;refine zF (λm vs h=>∃(i l:Nat) (v:PV) (cells:List PV),i<=Lu s/\l<=i/\m=Lu s-i/\vs=[.str s,.int .u8 c,v,.int .i64 l,.int .i64 i]/\Lu cells<=i/\Strs (Lu s) cells/\cT σ h/\eA σ.aM 1 h v (Lu cells) cells) (Lu s) ?_ ?_
 .exact⟨0,0,_,[],YV _,na _,rfl,rfl,YV _,λc X=>(by cases X),zC _ _,eA.bf _ 1 rfl (na _)⟩
 rintro m vs h ⟨i,l,v,cells,Y,V,rfl,rfl,bJ,E,J,G⟩
 have D:=G.one;simp only[Z3,seval,-ae,D];refine de (λT=>?_) λaG=>?_
 .have gs:s[i]? = Dc s[i]:=YQ T;have S:Lp .i64 ((i:Int)+1)=((i+1:Nat):Int):=WQ
  simp only[Z3,seval,-ae,gs,D];by_cases N:((s[i].toNat:Nat):Int)=c
  .have b1:((i:Int)<=(Lu s:Int))=True:=by simp;omega
   have U:((l:Int)<=(i:Int))=True:=by simp;omega
   simp only[Z3,seval,-ae,N,b1,U,D,Y,V];refine eA.push (σb:=σ) (bytes:=16) J G af af λR W I u=>?_;have H:=u.one;simp only[Z3,seval,-ae,S,H];have hl:(cells++[PV.str (List.drop l (List.take i s))]).length=Lu cells+1:=aK
   exact⟨_,af,i+1,i+1,R,cells++[.str (List.drop l (List.take i s))],af,na _,rfl,rfl,af,E.snoc (by rw[UQ,Yh];omega),I,by rw[hl];exact u⟩
  .simp only[Z3,seval,-ae,N,S,D];exact⟨_,af,i+1,l,v,cells,af,af,rfl,rfl,af,E,J,G⟩
 have b1:l<=Lu s:=af
 simp only[Z3,seval,-ae,D,b1,Yf];refine eA.push (σb:=σ) (bytes:=16) J G af af λR W I u=>?_;have H:=u.one;simp only[Z3,seval,-ae,H];refine u.fin I ((E.snoc ?_).bels 0) λo cap=>Z _ _ _ af af aK (E.snoc ?_)
 all_goals simp
end
section
variable{b:Nat}{s:List UInt8}
def zGX{g:cg}{z:Int}:zCD (g.bf [.int .u8 z]) (.sl g.aM 0 1 (.b6 1))=Dc [UInt8.ofNat z.toNat]:=by
 simp only[Z3,seval,-ae,zCD];rw[ZG];refine Lk ?_;rfl
def zJv{n:Int}(k:Nat)(l:0<=n/\n<=1000000/\n<10 ^ (k+1))(T:k<=100)(D:∀q:List UInt8,(Lu q)<=k+1->K (.str q) σ):zA Li 279 [.int .i64 n] σ K:=by
 induction k generalizing n σ K with
 |zero=>
  have u:n<10:=by have:=l.2.2;simpa using this
  have w1:Lp .i64 (48+n)=48+n:=WE;have w2:IntKind.u8.wrap (48+n)=48+n:=zGO af af;refine zA.gh ?_;refine QC mix Tryz.func279 cf279 rfl ?_;dsimp only[if279,qI,eI,qD,eD,mI0,cI0,mD0,I0,R0,S0];simp only[Z3,seval,-ae,u,w1,w2,zA7,zGX];exact Gh.fin0 (zC _ _) trivial (D _ (na _))
 |succ k ih=>
  by_cases u:n<10
  .have w1:Lp .i64 (48+n)=48+n:=WE;have w2:IntKind.u8.wrap (48+n)=48+n:=zGO af af;refine zA.gh ?_;refine QC mix Tryz.func279 cf279 rfl ?_;dsimp only[if279,qI,eI,qD,eD,mI0,cI0,mD0,I0,R0,S0];simp only[Z3,seval,-ae,u,w1,w2,zA7,zGX];exact Gh.fin0 (zC _ _) trivial (D _ (H6 (YV _)))
  have S:0<=n.tdiv 10:=Int.tdiv_nonneg l.1 LB;have E:n.tdiv 10<=1000000/\n.tdiv 10<10 ^ (k+1):=by
   have e:n.tdiv 10=n / 10:=Uq l.1
   have:=l.2.2
   rw[HN]at this;rw[e];omega
  have r0:0<=n.tmod 10/\n.tmod 10<10:=⟨Int.tmod_nonneg _ l.1,HO _ LB⟩
  have G:Lp .i64 (n.tdiv 10)=n.tdiv 10:=WE;have H:Lp .i64 (n.tmod 10)=n.tmod 10:=WE;have w1:Lp .i64 (48+n.tmod 10)=48+n.tmod 10:=WE;have w2:IntKind.u8.wrap (48+n.tmod 10)=48+n.tmod 10:=zGO af af;have I:∀{g:cg} {K':PV->cg->Prop},(∀q:List UInt8,(Lu q)<=k+1->K' (.str q) g)->zA Li 279 [.int .i64 (n.tdiv 10)] g K':=λJ=>ih ⟨S,E.1,E.2⟩ af J;refine zA.gh ?_;refine QC mix Tryz.func279 cf279 rfl ?_;dsimp only[if279,qI,eI,qD,eD,mI0,cI0,mD0,I0,R0,S0];simp only[Z3,seval,-ae,u,G,w1,w2,H,zA7,zGX,zHW,AP,z9,Qb,Qa];refine⟨?_,?_,?_⟩
  all_goals
   refine I λq R=>?_;have N:(Lu q)+1<=9223372036854775807:=af
   simp only[Z3,seval,-ae,u,G,w1,w2,H,zA7,zGX,zHW,AP,z9,Qb,Qa,N];exact Gh.fin0 (zC _ _) trivial (D _ (by rw[YB];exact H6 R))
def Byts(cells:List PV):Prop:=∀c∈cells,∃z:Int,c=.int .u8 z
def Byts.bytes:∀{cells:List PV},Byts cells->∃q:List UInt8,zC7 cells=Dc q/\Lu q=(Lu cells)
 |[],_=>⟨[],rfl,rfl⟩
 |c::cells,a=>by
  obtain⟨z,rfl⟩:=a c (UH ..);obtain⟨q,l,u⟩:=Byts.bytes (cells:=cells) λc D=>a c (Yt _ D);exact⟨UInt8.ofNat z.toNat::q,by simp only[zC7,l,EF],by simp[u]⟩
def Byts.snoc{cells:List PV}(a:Byts cells){z:Int}:Byts (cells++[.int .u8 z]):=λc hc=>by
 rcases YY.1 hc with hc|hc
 .exact a c hc
 .exact⟨z,YT.1 hc⟩
def eA.bytes{cells:List PV}(a:eA b 1 h v (Lu cells) cells)(G:Byts cells):∃q:List UInt8,zCD h v=Dc q/\Lu q=(Lu cells):=by
 obtain⟨s,cap,rfl,H,E,I,J,N⟩:=a;obtain⟨q,u,D⟩:=G.bytes;refine⟨q,?_,D⟩;unfold zCD;rw[zE1];simp only[YP];rw[ZG];by_cases l:(Lu cells)=0
 .have:cells=[]:=F5.1 l
  subst this;rw[DK l];exact u
 .rw[DL l,DK (na _),Fe,zV E,DK af,EC,Yf];exact u
def zIL{w:Bool}{H:AV}(hn:(Lu x)<=1000)(J:∀q:List UInt8,(Lu q)<=Lu x+1->K (.str q) σ):zA Li 281 [.fz w H (Lu x) (cS x)] σ K:=by
 refine Lh Tryz.func281 ?_;by_cases h0:(Lu x)=0
 .have D:((Lu x:Nat):Int)=0:=af
  simp only[Z3,seval,-ae,D];exact Gh.fin0 (cT.refl _) trivial (J _ aK)
 have D:¬((Lu x:Nat):Int)=0:=af
 simp only[Z3,seval,-ae,D];refine zF (λm vs h=>∃(i:Nat) (v:PV) (cells:List PV),i<=Lu x/\m=Lu x-i/\vs=[.fz w H (Lu x) (cS x),v,.int .i64 i]/\Lu cells=i/\Byts cells/\cT σ h/\eA σ.aM 1 h v (Lu cells) cells) (Lu x) ?_ ?_
 .exact⟨0,_,[],YV _,rfl,rfl,rfl,λc V=>(by cases V),zC _ _,eA.bf _ 1 rfl (na _)⟩
 rintro m vs h ⟨i,v,cells,hi,rfl,rfl,S,R,N,E⟩
 have u:=E.one;simp only[Z3,seval,-ae,u];refine de (λl=>?_) λZ=>?_
 .have aq:(i:Int)<(Lu x:Int):=af
  have I:(cS x)[i]? = Dc (.int .i64 x[i]):=by rw[zN,gi l];rfl
  simp only[Z3,seval,-ae,u,l,aq,I];refine de (λW=>?_) λW=>?_
  all_goals
   simp only[Z3,seval,-ae,u,l,aq,I];refine eA.push (σb:=σ) (bytes:=1) N E af af λY h2 X G=>?_;have U:=G.one;simp only[Z3,seval,-ae,U,WX l];exact⟨_,af,i+1,Y,_,af,rfl,rfl,by rw[YB,S];rfl,R.snoc,X,by rw[YB];exact G⟩
 obtain⟨q,T,e2⟩:=eA.bytes E R;simp only[Z3,seval,-ae,u,zA7,T];exact Gh.fin0 N trivial (J _ af)
def zPM{cap:jZ}(V:σ.bt s0=Dc (cS x))(hs:s0<σ.aM)(hn:(Lu x)<=1000)(J:∀q:List UInt8,(Lu q)<=Lu x+1->K (.str q) σ):zA Li 281 [.sl s0 0 (Lu x) cap] σ K:=by
 refine Lh Tryz.func281 ?_;by_cases h0:(Lu x)=0
 .have D:((Lu x:Nat):Int)=0:=af
  simp only[Z3,seval,-ae,D];exact Gh.fin0 (cT.refl _) trivial (J _ aK)
 have D:¬((Lu x:Nat):Int)=0:=af
 simp only[Z3,seval,-ae,D];refine zF (λm vs h=>∃(i:Nat) (v:PV) (cells:List PV),i<=Lu x/\m=Lu x-i/\vs=[.sl s0 0 (Lu x) cap,v,.int .i64 i]/\Lu cells=i/\Byts cells/\cT σ h/\eA σ.aM 1 h v (Lu cells) cells) (Lu x) ?_ ?_
 .exact⟨0,_,[],YV _,rfl,rfl,rfl,λc U=>(by cases U),zC _ _,eA.bf _ 1 rfl (na _)⟩
 rintro m vs h ⟨i,v,cells,hi,rfl,rfl,R,N,E,G⟩
 have u:=G.one;simp only[Z3,seval,-ae,u];refine de (λl=>?_) λZ=>?_
 .have aq:(i:Int)<(Lu x:Int):=af
  have I:h.dR s0 i=Dc (.int .i64 x[i]):=by rw[zH (by rw[E.bt _ hs];exact V),zN,gi l];rfl
  simp only[Z3,seval,-ae,u,l,aq,I];refine de (λW=>?_) λW=>?_
  all_goals
   simp only[Z3,seval,-ae,u,l,aq,I];refine eA.push (σb:=σ) (bytes:=1) E G af af λY h2 X H=>?_;have T:=H.one;simp only[Z3,seval,-ae,T,WX l];exact⟨_,af,i+1,Y,_,af,rfl,rfl,by rw[YB,R];rfl,N.snoc,X,by rw[YB];exact H⟩
 obtain⟨q,S,e2⟩:=eA.bytes G N;simp only[Z3,seval,-ae,u,zA7,S];exact Gh.fin0 E trivial (J _ af)
def zCu{i:Int}(D:-1000<=i/\i<=1000)(l:∀q:List UInt8,(Lu q)<=2->K (.str q) σ):zA Li 280 [.int .i64 i] σ K:=by
 refine Lh Tryz.func280 ?_;refine Lk ?_;refine zPM (x:=[Lp .i64 (i+1)]) (by rw[zI,DK rfl];rfl) (YM _) aK λq u=>?_;refine Lk ?_;exact Gh.fin0 (zC _ _) trivial (l q u)
end
end Go.Proofs
