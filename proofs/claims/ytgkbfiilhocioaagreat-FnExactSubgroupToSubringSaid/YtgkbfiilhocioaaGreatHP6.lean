/- . -/
import Derived.Test.YtgkbfiilhocioaaGreatHP5
open Nat renaming le_refl→vM
open Int renaming reduceNatCast'->ae
set_option maxRecDepth 100000
namespace Go.Grp
end Go.Grp
set_option linter.unusedSimpArgs false
set_option linter.unusedVariables false
namespace Go.Proofs
open Go.Ab Go.Lie Go.Grp
variable{U:PHeap}{K:PV->PHeap->Prop}{O:L3}{P:L4}{C:L5}{vO vP vC vf:PV}{x y f:L3}{rP rC:List PV}{d j:Nat}
def zr(x:L3)(j:Nat):Nat->L3
 |0=>x
 |k+1=>(zr x j k).set (j+(1+k)) 0
theorem zCJ:∀k,(zr x j k).length=x.length
 |0=>rfl
 |k+1=>by rw[zr,List.length_set];exact zCJ k
theorem zr_at:∀{k:Nat},j+(1+k)<=x.length->∀t,at_ (zr x j k) t=if j<t/\t<j+(1+k)then 0 else at_ x t
 |0,_,t=>by rw[if_neg (by omega)];rfl
 |k+1,h,t=>by
  rw[zr,at_set (by rw[zCJ];omega)];split
  .rename_i e;rw[if_pos (by omega)]
  .rename_i e;rw[zr_at (by omega)];by_cases g:j<t/\t<j+(1+k)
   .rw[if_pos g,if_pos (by omega)]
   .rw[if_neg g,if_neg (by omega)]
theorem zRT(hj:j<x.length):zr x j (x.length-1-j)=hdz x j:=by
 refine Qi (by rw[zCJ,zD0]) λt ht=>?_;rw[zCJ]at ht;rw[zr_at (by omega),zCV];by_cases g:t<=j
 .rw[if_neg (by omega),if_pos g]
 .rw[if_pos (by omega),if_neg g]
theorem zJM{se n:Nat}{cap:Cap}(hc:full 1 cap n)(hj:j+1<=n):∃off gf,QE 1 (.sl se 0 n cap) (some (.int .i64 ((j+1:Nat):Int))) none none=some (.sl se off (n-(j+1)) gf)/\(off=j+1\/(off=0/\n-(j+1)=0)):=by
 have e:(0:Int)<=((j+1:Nat):Int)/\((j+1:Nat):Int)<=(n:Int):=⟨by omega,by omega⟩
 rcases hc with rfl|rfl
 .refine⟨j+1,.grown 1,?_,.inl rfl⟩;rw[zDM];simp only[zBf,zBe,zCq,Option.bind_some,if_pos e,Int.toNat_natCast];simp
 .rw[zDL];simp only[zBf,zBe,zCq,Option.bind_some,if_pos e,Int.toNat_natCast];by_cases h:n=j+1
  .refine⟨0,.known (n-(j+1)),?_,.inr ⟨rfl,by omega⟩⟩;rw[if_pos h];simp
  .refine⟨j+1,.known (n-(j+1)),?_,.inl rfl⟩;rw[if_neg h];simp
theorem QP(s:Shp O P C)(F:Full O P C d):∀(r:Nat) {j:Nat},O.length-d<=j->j<O.length->O.length-j<=r->TGok O P C d j
 |0,j,h1,h2,h3=>by omega
 |r+1,j,h1,h2,h3=>by
  intro U K sp se cap x vO vP vC hs hR he lQ ai bQ hx hk;have rN:∀j',j+1<=j'->j'<O.length->TGok O P C d j':=λj' g1 g2=>QP s F r (by omega) g2 (by omega);have aW:=s.le;have aH:=hR;have mK:=hs;have aV:=hx.len;have vh:j<x.length:=by omega
  have bx:=hx.bd j h2;have bO:=s.pr j h2;have M:=F.gp.toMon;rw[<-zN8 s F hx h1 h2]at hk;obtain⟨⟨w0,a0,rfl⟩,⟨w1,a1,rP,rfl,hP⟩,⟨w3,a3,rC,rfl,hC⟩⟩:=hR;obtain⟨w5,a5,rs,cu,dp⟩:=cvRow s hC h2;obtain⟨w6,a6,cQ⟩:=pvRow s hP h2;have qe:j<C.length:=by rw[s.cl];exact h2
  have sZ:j<P.length:=by rw[s.pl];exact h2
  have eY:=s.pw j h2;have e0:U.rd1 sp 0=some (.fz w0 a0 O.length (pis O)):=by rw[zG hs.obj];rfl
  have e1:U.rd1 sp 1=some (.fz w1 a1 P.length rP):=by rw[zG hs.obj];rfl
  have e2:U.rd1 sp 2=some (.fz w3 a3 C.length rC):=by rw[zG hs.obj];rfl
  have DD:∀t,U.rd1 se t=(pis x)[t]?:=λt=>zG he t;obtain⟨off,gf,gF,uP⟩:=zJM (se:=se) bQ (Nat.succ_le_of_lt h2);have xk:IntKind.i64.wrap ((j:Int)+1)=((j+1:Nat):Int):=wrapS h2 (by omega);refine zB mix Tryz.func286 ?_
  conv=>arg 2;cbv
  refine zC rfl ?_;simp only[Z3,seval,-ae,xk,gF];have gb:(x.drop (j+1)).length=O.length-(j+1):=by simp[aV]
  refine zPw lQ (ys:=x.drop (j+1)) ?_ gb (by omega) λav=>?_
  .rw[ZN he,zJ];rcases uP with rfl|⟨rfl,h0⟩
   .rw[if_pos (by omega),<-zOj,List.take_of_length_le (by rw[List.length_drop,zJ];omega)]
   .rw[h0,if_pos (by omega),List.take_zero,List.drop_eq_nil_of_le (by omega)];rfl
  simp only[Z3,seval,-ae,zJ];refine zF (λm vs h'=>∃k:Nat,k<=O.length-(j+1)/\m=O.length-(j+1)-k/\vs=[.ptr sp 0,.sl se 0 O.length cap,.int .i64 j,.fz true av (O.length-(j+1)) (pis (x.drop (j+1))),.int .i64 ((O.length-(j+1):Nat):Int),.int .i64 k]/\h'=U.set se (pis (zr x j k))) (O.length-(j+1)) ?_ ?_
  .exact⟨0,by omega,by omega,rfl,(zEc he).symm⟩
  .rintro m vs h' ⟨k,e7,rfl,rfl,rfl⟩
   simp only[Z3,seval,-ae];refine iteI (λag=>?_) λaF=>?_
   .have e3:IntKind.i64.wrap (((j+1:Nat):Int)+(k:Int))=((j+(1+k):Nat):Int):=by rw[wrap64 (by omega) (by omega)];omega
    have fv:j+(1+k)<O.length:=by omega
    have m6:j+(1+k)<(zr x j k).length:=by rw[zCJ];omega
    have dA:(pis (zr x j k)).take (j+(1+k))++[.int .i64 0]++(pis (zr x j k)).drop (j+(1+(k+1)))=pis (zr x j (k+1)):=by rw[show j+(1+(k+1))=j+(1+k)+1 by omega];exact qM m6
    have jP:j+(1+(k+1))<=O.length:=by omega
    simp only[Z3,seval,-ae,xk,e3,fv,zJ,zCJ,aV,jP,dA,wrapS ag (by omega:O.length-(j+1)<=4611686018427387904)];exact⟨_,by omega,k+1,by omega,rfl,rfl,rfl⟩
   have fI:k=x.length-1-j:=by omega
   subst fI;rw[zRT vh];have eQ:(hdz x j).length=O.length:=by rw[zD0];exact aV
   have m6:j<(hdz x j).length:=by omega
   have vN:at_ (hdz x j) j=at_ x j:=by rw[zCV,if_pos (vM _)]
   have xj:IntKind.i64.wrap (at_ x j+1)=at_ x j+1:=wrap64 (by omega) (by omega);have cK:j<((hdz x j).set j (at_ x j+1)).length:=by rw[List.length_set];exact m6
   have rL:at_ ((hdz x j).set j (at_ x j+1)) j=at_ x j+1:=by rw[at_set m6,if_pos rfl]
   have p1:=pisAt m6;have p2:=pisAt cK;rw[vN]at p1;rw[rL]at p2;have mJ:j+1<=O.length:=h2;simp only[Z3,seval,-ae,h2,eQ,zJ,p1,xj,mJ,qM m6,zAc];simp only[Z3,seval,-ae,h2,eQ,zJ,p1,p2,xj,mJ,qM m6,zAc,ai,e0,pisAt h2];refine iteI (λheq=>?_) λjL=>?_
   .have Bd:((hdz x j).set j (at_ x j+1)).set j 0=(hdz x j).set j 0:=by rw[List.set_set]
    simp only[Z3,seval,-ae,h2,eQ,List.length_set,zJ,mJ,qM cK,Bd,ai,e1,sZ,cQ];have nL:TT O (O.length-d) ((hdz x j).set j 0):=(zIJ hx λt ht=>s.pos ht).set h2 h1 ⟨by omega,by omega⟩;refine Qy s F (t:=j+1) (by omega) rN (mK.set ai (pis ((hdz x j).set j 0))) aH (x:=(hdz x j).set j 0) (by simp only[Z3,seval,-ae]) lQ ai bQ nL eY (FI.mk eY.len) ?_;simp only[Z3,seval,-ae,zAc];have hY:TT O (O.length-d) (mu O P C d ((hdz x j).set j 0) (pvec P j)):=M.cl nL (eY.mono (by omega));have jW:fo (mu O P C d) (cvec C j) (nx x) (j+(1+0)) (O.length-(j+1)-0) (mu O P C d ((hdz x j).set j 0) (pvec P j))=tstep O P C (mu O P C d) x j:=by
     rw[tstep,if_pos heq,show O.length-1-j=O.length-(j+1)-0 by omega]
    generalize mu O P C d ((hdz x j).set j 0) (pvec P j)=Y at hY jW ⊢;refine zF (λm vs h'=>∃(k:Nat) (y:L3),k<=O.length-(j+1)/\m=O.length-(j+1)-k/\vs=[.ptr sp 0,.sl se 0 O.length cap,.int .i64 j,.fz true av (O.length-(j+1)) (pis (x.drop (j+1))),.int .i64 ((O.length-(j+1):Nat):Int),.int .i64 k]/\h'=U.set se (pis y)/\TT O (O.length-d) y/\fo (mu O P C d) (cvec C j) (nx x) (j+(1+k)) (O.length-(j+1)-k) y=tstep O P C (mu O P C d) x j) (O.length-(j+1)) ?_ ?_
    .exact⟨0,Y,by omega,by omega,rfl,rfl,hY,jW⟩
    rintro m vs h' ⟨k,y,e7,rfl,rfl,rfl,hy,bj⟩
    simp only[Z3,seval,-ae];refine iteI (λag=>?_) λaF=>?_;rotate_left
    .have fI:O.length-(j+1)-k=0:=by omega
     rw[fI]at bj;rw[<-bj]at hk;exact hk
    have fv:j+(1+k)<O.length:=by omega
    have nS:k<(x.drop (j+1)).length:=by omega
    have jY:at_ (x.drop (j+1)) k=at_ x (j+(1+k)):=by
     simp only[at_,List.getD_eq_getElem?_getD,List.getElem?_drop,show j+1+k=j+(1+k) by omega]
    have pk:=pisAt nS;rw[jY]at pk;have bk:=hx.bd (j+(1+k)) fv;have yB:=s.pr _ fv;have eZ:((nx x (j+(1+k)):Nat):Int)=at_ x (j+(1+k)):=Int.toNat_of_nonneg bk.1;obtain⟨w7,a7,cb⟩:=dp k (by omega);have bW:=s.cj j (j+(1+k)) (by omega) fv;have nR:k<O.length-1-j:=by omega
    rw[show O.length-(j+1)-k=(O.length-(j+1)-k-1)+1 by omega]at bj;simp only[Z3,seval,-ae,pk,nS,ag];refine zF (λm vs h'=>∃(q:Nat) (y:L3),q<=nx x (j+(1+k))/\m=nx x (j+(1+k))-q/\vs=[.ptr sp 0,.sl se 0 O.length cap,.int .i64 j,.int .i64 k,.fz true av (O.length-(j+1)) (pis (x.drop (j+1))),.int .i64 ((O.length-(j+1):Nat):Int),.int .i64 k,.int .i64 (at_ x (j+(1+k))),.int .i64 q]/\h'=U.set se (pis y)/\TT O (O.length-d) y/\fo (mu O P C d) (cvec C j) (nx x) (j+(1+k)+1) (O.length-(j+1)-k-1) (rep (mu O P C d) (cvec C j (j+(1+k))) (nx x (j+(1+k))-q) y)=tstep O P C (mu O P C d) x j) (nx x (j+(1+k))) ?_ ?_
    .exact⟨0,y,by omega,by omega,rfl,rfl,hy,bj⟩
    rintro m vs h' ⟨q,y,uH,rfl,rfl,rfl,hy,bj⟩
    simp only[Z3,seval,-ae];refine iteI (λan=>?_) λiq=>?_
    .have be:q<nx x (j+(1+k)):=by omega
     simp only[Z3,seval,-ae,ai,e2,qe,cu,nR,cb];refine Qy s F (t:=j+1) (by omega) rN (mK.set ai (pis y)) aH (x:=y) (by simp only[Z3,seval,-ae]) lQ ai bQ hy bW (FI.mk bW.len) ?_;simp only[Z3,seval,-ae,zAc,wrapS be (by omega:nx x (j+(1+k))<=4611686018427387904)];refine⟨_,by omega,q+1,_,by omega,rfl,rfl,rfl,M.cl hy (bW.mono (by omega)),?_⟩;rw[show nx x (j+(1+k))-q=(nx x (j+(1+k))-(q+1))+1 by omega]at bj;exact bj
    .have kD:q=nx x (j+(1+k)):=by omega
     subst kD;rw[Nat.sub_self]at bj;simp only[Z3,seval,-ae,wrapS ag (by omega:O.length-(j+1)<=4611686018427387904)];refine⟨_,by omega,k+1,y,by omega,rfl,rfl,rfl,hy,?_⟩;rw[show O.length-(j+1)-(k+1)=O.length-(j+1)-k-1 by omega];exact bj
   .have hY:TT O (O.length-d) ((hdz x j).set j (at_ x j+1)):=(zIJ hx λt ht=>s.pos ht).set h2 h1 ⟨by omega,by omega⟩;have jW:fo (mu O P C d) (cvec C j) (nx x) (j+(1+0)) (O.length-(j+1)-0) ((hdz x j).set j (at_ x j+1))=tstep O P C (mu O P C d) x j:=by
     rw[tstep,if_neg jL,show O.length-1-j=O.length-(j+1)-0 by omega]
    clear p2 rL cK;generalize (hdz x j).set j (at_ x j+1)=Y at hY jW ⊢;refine zF (λm vs h'=>∃(k:Nat) (y:L3),k<=O.length-(j+1)/\m=O.length-(j+1)-k/\vs=[.ptr sp 0,.sl se 0 O.length cap,.int .i64 j,.fz true av (O.length-(j+1)) (pis (x.drop (j+1))),.int .i64 ((O.length-(j+1):Nat):Int),.int .i64 k]/\h'=U.set se (pis y)/\TT O (O.length-d) y/\fo (mu O P C d) (cvec C j) (nx x) (j+(1+k)) (O.length-(j+1)-k) y=tstep O P C (mu O P C d) x j) (O.length-(j+1)) ?_ ?_
    .exact⟨0,Y,by omega,by omega,rfl,rfl,hY,jW⟩
    rintro m vs h' ⟨k,y,e7,rfl,rfl,rfl,hy,bj⟩
    simp only[Z3,seval,-ae];refine iteI (λag=>?_) λaF=>?_;rotate_left
    .have fI:O.length-(j+1)-k=0:=by omega
     rw[fI]at bj;rw[<-bj]at hk;exact hk
    have fv:j+(1+k)<O.length:=by omega
    have nS:k<(x.drop (j+1)).length:=by omega
    have jY:at_ (x.drop (j+1)) k=at_ x (j+(1+k)):=by
     simp only[at_,List.getD_eq_getElem?_getD,List.getElem?_drop,show j+1+k=j+(1+k) by omega]
    have pk:=pisAt nS;rw[jY]at pk;have bk:=hx.bd (j+(1+k)) fv;have yB:=s.pr _ fv;have eZ:((nx x (j+(1+k)):Nat):Int)=at_ x (j+(1+k)):=Int.toNat_of_nonneg bk.1;obtain⟨w7,a7,cb⟩:=dp k (by omega);have bW:=s.cj j (j+(1+k)) (by omega) fv;have nR:k<O.length-1-j:=by omega
    rw[show O.length-(j+1)-k=(O.length-(j+1)-k-1)+1 by omega]at bj;simp only[Z3,seval,-ae,pk,nS,ag];refine zF (λm vs h'=>∃(q:Nat) (y:L3),q<=nx x (j+(1+k))/\m=nx x (j+(1+k))-q/\vs=[.ptr sp 0,.sl se 0 O.length cap,.int .i64 j,.int .i64 k,.fz true av (O.length-(j+1)) (pis (x.drop (j+1))),.int .i64 ((O.length-(j+1):Nat):Int),.int .i64 k,.int .i64 (at_ x (j+(1+k))),.int .i64 q]/\h'=U.set se (pis y)/\TT O (O.length-d) y/\fo (mu O P C d) (cvec C j) (nx x) (j+(1+k)+1) (O.length-(j+1)-k-1) (rep (mu O P C d) (cvec C j (j+(1+k))) (nx x (j+(1+k))-q) y)=tstep O P C (mu O P C d) x j) (nx x (j+(1+k))) ?_ ?_
    .exact⟨0,y,by omega,by omega,rfl,rfl,hy,bj⟩
    rintro m vs h' ⟨q,y,uH,rfl,rfl,rfl,hy,bj⟩
    simp only[Z3,seval,-ae];refine iteI (λan=>?_) λiq=>?_
    .have be:q<nx x (j+(1+k)):=by omega
     simp only[Z3,seval,-ae,ai,e2,qe,cu,nR,cb];refine Qy s F (t:=j+1) (by omega) rN (mK.set ai (pis y)) aH (x:=y) (by simp only[Z3,seval,-ae]) lQ ai bQ hy bW (FI.mk bW.len) ?_;simp only[Z3,seval,-ae,zAc,wrapS be (by omega:nx x (j+(1+k))<=4611686018427387904)];refine⟨_,by omega,q+1,_,by omega,rfl,rfl,rfl,M.cl hy (bW.mono (by omega)),?_⟩;rw[show nx x (j+(1+k))-q=(nx x (j+(1+k))-(q+1))+1 by omega]at bj;exact bj
    .have kD:q=nx x (j+(1+k)):=by omega
     subst kD;rw[Nat.sub_self]at bj;simp only[Z3,seval,-ae,wrapS ag (by omega:O.length-(j+1)<=4611686018427387904)];refine⟨_,by omega,k+1,y,by omega,rfl,rfl,rfl,hy,?_⟩;rw[show O.length-(j+1)-(k+1)=O.length-(j+1)-k-1 by omega];exact bj
theorem Qx(s:Shp O P C)(F:Full O P C d){sp se:Nat}{cap:Cap}(hs:PtrG U sp vO vP vC)(hR:IsPr vO vP vC O P C)
  (he:U.obj se=some (pis x)) (lQ:se<U.next) (ai:sp≠se) (bQ:full 1 cap O.length) (hx:TT O (O.length-d) x) (hf:TT O (O.length-d) f) (oX:FI vf f) (hk:K (.tup []) (U.set se (pis (mu O P C d x f)))):zA Tryz.prog 215 [.ptr sp 0,.sl se 0 O.length cap,vf] U K:=
 Qy s F (vM _) (λj h1 h2=>QP s F O.length h1 h2 (by omega)) hs hR he lQ ai bQ hx hf oX hk
end Go.Proofs
namespace Go.Proofs
open Go.Ab Go.Lie Go.Grp
variable{U:PHeap}{K:PV->PHeap->Prop}{O:L3}{P:L4}{C:L5}{vO vP vC vf va vb:PV}{x f a b:L3}{d sp:Nat}
theorem zFD{v:PV}{sp:Nat}(hf:f=[])(oX:FI vf f)(hk:K (.tup []) U):zA Tryz.prog 215 [.ptr sp 0,v,vf] U K:=by
 obtain⟨wf,af,rfl⟩:=oX;subst hf;refine zB mix Tryz.func215 ?_
 conv=>arg 2;cbv
 refine zC rfl ?_;simp only[Z3,seval,-ae];refine zF (λm vs h'=>m=0/\vs=[.ptr sp 0,v,.fz wf af ([]:L3).length (pis []),.int .i64 (([]:L3).length:Nat),.int .i64 (0:Nat)]/\U=h') 0 ⟨rfl,rfl,rfl⟩ ?_
 rintro m vs h' ⟨rfl,rfl,rfl⟩
 simp only[Z3,seval,-ae];exact hk
theorem zEP(s:Shp O P C)(F:Full O P C d)(hs:PtrG U sp vO vP vC)(hR:IsPr vO vP vC O P C)(ha:TT O (O.length-d) a)(hb:TT O (O.length-d) b)(fe:FI va a)(dy:FI vb b)(hk:ResI U K (mu O P C d a b)):
  zA Tryz.prog 127 [.ptr sp 0,va,vb] U K:=by
 have aW:=s.le;have cM:=ha.len;have fZ:=(F.gp.cl ha hb).len;have ai:sp≠U.next:=Nat.ne_of_lt hs.lt;obtain⟨wa,aa,rfl⟩:=fe;refine zA.gh ?_;refine zB mix Tryz.func127 ?_
 conv=>arg 2;cbv
 refine zC rfl ?_;simp only[Z3,seval,-ae];refine QO rfl (by omega) ⟨λh0=>?_,λcap hc=>?_⟩
 .have kI:b=[]:=List.eq_nil_of_length_eq_zero (by rw[hb.len,<-cM,h0];rfl);simp only[Z3,seval,-ae];refine zFD kI dy ?_;simp only[Z3,seval,-ae];exact Gh.fin0 (Keep.refl U) trivial (hk.1 (List.eq_nil_of_length_eq_zero (by show(mu O P C d a b).length=0;rw[fZ,<-cM,h0];rfl)))
 .rw[cM]at hc;rw[cM];simp only[Z3,seval,-ae];refine Qx s F (hs.new _) hR (x:=a) (by simp only[Z3,seval,-ae]) (by simp only[Z3,seval,-ae]) ai hc ha hb dy ?_;simp only[Z3,seval,-ae];rw[show O.length=(mu O P C d a b).length from fZ.symm]at hc ⊢;exact Gh.finS (zD U _) (by simp only[Z3,seval,-ae]) (vM _) (zO _ _) (hk.2 cap hc)
theorem zCG(s:Shp O P C)(F:Full O P C d)(hs:PtrG U sp vO vP vC)(hR:IsPr vO vP vC O P C)(ha:TT O (O.length-d) a)(hb:TT O (O.length-d) b)(fe:FI va a)(dy:FI vb b)(hk:∀v,FI v (mu O P C d a b)->K v U):
  zA Tryz.prog 127 [.ptr sp 0,va,vb] U K:=zA.fzI (λK'=>zEP s F hs hR ha hb fe dy) λa=>hk _ ⟨_,_,rfl⟩
theorem zHk(s:Shp O P C)(F:Full O P C d)(hs:PtrG U sp vO vP vC)(hR:IsPr vO vP vC O P C)(ha:TT O (O.length-d) a)(fe:FI va a){k:Int}(df:0<=k/\k<=1000000)(hk:ResI U K (pw (mu O P C d) (zv O) a k.toNat)):
  zA Tryz.prog 158 [.ptr sp 0,va,.int .i64 k] U K:=by
 have aW:=s.le;have cM:=ha.len;have M:=F.gp.toMon;have ai:sp≠U.next:=Nat.ne_of_lt hs.lt;have oY:=fe;obtain⟨wa,aa,rfl⟩:=fe;rw[cM]at oY ⊢;refine zA.gh ?_;refine zB mix Tryz.func158 ?_
 conv=>arg 2;cbv
 refine zC rfl ?_;simp only[Z3,seval,-ae,List.length_replicate,ZV,mk8 (n:=O.length) (by omega),mkL (n:=O.length) (by omega)];refine zF (λm vs h'=>∃q:Nat,q<=k.toNat/\m=k.toNat-q/\vs=[.ptr sp 0,.fz wa aa O.length (pis a),.sl U.next 0 O.length (.known O.length),.int .i64 k,.int .i64 q]/\h'=U.new (pis (pw (mu O P C d) (zv O) a q))) k.toNat ?_ ?_
 .exact⟨0,by omega,by omega,rfl,rfl⟩
 rintro m vs h' ⟨q,hq,rfl,rfl,rfl⟩
 simp only[Z3,seval,-ae];refine iteI (λag=>?_) λaF=>?_
 .have be:q<k.toNat:=by omega
  have hp:=M.pw ha q;refine Qx s F (hs.new _) hR (x:=pw (mu O P C d) (zv O) a q) (by simp only[Z3,seval,-ae]) (by simp only[Z3,seval,-ae]) ai (.inr rfl) hp ha oY ?_;simp only[Z3,seval,-ae,wrapS be (by omega:k.toNat<=4611686018427387904)];exact⟨_,by omega,q+1,by omega,rfl,rfl,rfl⟩
 .have kD:q=k.toNat:=by omega
  subst kD;have fZ:=(M.pw ha k.toNat).len;have hc:full 1 (.known O.length) (pw (mu O P C d) (zv O) a k.toNat).length:=.inr (by rw[fZ]);refine Gh.finS (zD U _) (by simp only[Z3,seval,-ae];rfl) (vM _) (zO _ _) ?_
  have:=hk.2 _ hc
  rwa[fZ]at this
theorem zEh(s:Shp O P C)(F:Full O P C d)(hs:PtrG U sp vO vP vC)(hR:IsPr vO vP vC O P C)(ha:TT O (O.length-d) a)(fe:FI va a){k:Int}(df:0<=k/\k<=1000000)(hk:∀v,FI v (pw (mu O P C d) (zv O) a k.toNat)->K v U):
  zA Tryz.prog 158 [.ptr sp 0,va,.int .i64 k] U K:=zA.fzI (λK'=>zHk s F hs hR ha fe df) λa=>hk _ ⟨_,_,rfl⟩
theorem mu_step(s:Shp O P C){i:Nat}(hd:O.length-d<=i)(hle:d<=O.length)(hi:i<O.length)(hx:TT O i x):TT O i (mu O P C d x (Grp.unit O i))/\at_ (mu O P C d x (Grp.unit O i)) i=if at_ x i+1=at_ O i then 0 else at_ x i+1:=by
 have hu:TT O i (Grp.unit O i):=s.unit hi (vM _);obtain⟨e,he⟩:∃e,O.length-i=e+1:=⟨O.length-i-1,by omega⟩
 have aJ:O.length-(e+1)=i:=by omega
 have e1:mu O P C d x (Grp.unit O i)=mu O P C (e+1) x (Grp.unit O i):=by
  have:=zNG s (d:=e+1) (k:=d-(e+1)) (u:=x) (v:=Grp.unit O i) (by omega) (by rw[aJ];exact hx) (by rw[aJ];exact hu)
  rwa[show e+1+(d-(e+1))=d by omega]at this
 have h1:=mu_tt s (d:=e+1) (a:=x) (b:=Grp.unit O i) (by omega) (by rw[aJ];exact hx) (by rw[aJ];exact hu);rw[aJ]at h1;rw[e1];refine⟨h1,?_⟩;have bx:=hx.bd i hi;have bO:=s.pr i hi;have fR:at_ (Grp.unit O i) i=1:=by rw[at_set (by simp;exact hi),if_pos rfl]
 have aD:=s.pos hi;have hm:∀a b,TT O (i+1) a->TT O (i+1) b->TT O (i+1) (mu O P C e a b):=λa b ha hb=>by
  have:=mu_tt s (d:=e) (a:=a) (b:=b) (by omega) (by rwa[show O.length-e=i+1 by omega]) (by rwa[show O.length-e=i+1 by omega])
  rwa[show O.length-e=i+1 by omega]at this
 have ir:=hm _ _ (zBO (λx _=>zBk s hm x) (nx (Grp.unit O i) i) (hx.set0 hi aD)) (hu.set0 hi aD);simp only[mu,aJ];rw[fR];split
 .have lL:=hm _ _ (s.pw i hi) ir;rw[at_set (by rw[lL.len];exact hi),if_pos rfl];split<;>omega
 .rw[at_set (by rw[ir.len];exact hi),if_pos rfl,if_neg (by omega)]
end Go.Proofs
namespace Go.Proofs
open Go.Ab Go.Lie Go.Grp
variable{U:PHeap}{K:PV->PHeap->Prop}{O:L3}{P:L4}{C:L5}{vO vP vC vx va vb:PV}{x y a b:L3}{rP rC:List PV}{d j sp:Nat}
theorem zNb(s:Shp O P C)(F:Full O P C d)(hs:PtrG U sp vO vP vC)(hR:IsPr vO vP vC O P C)(ha:TT O (O.length-d) a)(fe:FI va a)(hk:∀z,TT O (O.length-d) z->mu O P C d a z=zv O->ResI U K z):
  zA Tryz.prog 246 [.ptr sp 0,va] U K:=by
 have aW:=s.le;have hle:=F.le;have cM:=ha.len;have M:=F.gp.toMon;have ai:sp≠U.next:=Nat.ne_of_lt hs.lt;have lg:sp≠U.next+1:=by have:=hs.lt;omega
 obtain⟨wa,aa,rfl⟩:=fe;refine zA.gh ?_;refine zB mix Tryz.func246 ?_
 conv=>arg 2;cbv
 refine zC rfl ?_;simp only[Z3,seval,-ae];refine QO rfl (by omega) ⟨λh0=>?_,λcap hc=>?_⟩
 .have B5:O=[]:=List.eq_nil_of_length_eq_zero (by rw[<-cM,h0];rfl);subst B5;subst h0;simp only[Z3,seval,-ae,mk8 (n:=0) (by omega),mkL (n:=0) (by omega)];refine zF (λm vs h'=>m=0/\vs=[.ptr sp 0,.fz true .nils 0 [],.sl U.next 0 0 (.known 0),.int .i64 (0:Nat),.int .i64 (0:Nat)]/\h'=U.new []) 0 ⟨rfl,rfl,rfl⟩ ?_
  rintro m vs h' ⟨rfl,rfl,rfl⟩
  simp only[Z3,seval,-ae];have Bv:d=0:=by simpa using hle
  exact Gh.finS (cs:=pis []) (zD U _) (by simp only[Z3,seval,-ae];rfl) (vM _) (zO _ _) ((hk [] (s.zv _) (by subst Bv;rfl)).2 _ (.inr rfl))
 rw[cM]at hc;rw[cM];simp only[Z3,seval,-ae,List.length_replicate,ZV,mk8 (n:=O.length) (by omega),mkL (n:=O.length) (by omega)];refine zF (λm vs h'=>∃(i:Nat) (r z:L3),i<=O.length/\m=O.length-i/\vs=[.ptr sp 0,.sl U.next 0 O.length cap,.sl (U.next+1) 0 O.length (.known O.length),.int .i64 O.length,.int .i64 i]/\h'=(U.new (pis r)).new (pis z)/\TT O (O.length-d) r/\TT O i r/\TT O (O.length-d) z/\mu O P C d a z=r) O.length ?_ ?_
 .exact⟨0,a,zv O,by omega,by omega,rfl,rfl,ha,ha.mono (Nat.zero_le _),s.zv _,M.r1 ha⟩
 rintro m vs h' ⟨i,r,z,hi,rfl,rfl,rfl,hr,mO,hz,hinv⟩
 simp only[Z3,seval,-ae];refine iteI (λag=>?_) λaF=>?_;rotate_left
 .have aJ:i=O.length:=by omega
  subst aJ;have lU:r=zv O:=mO.ext (s.zv _) λj h1 h2=>by omega
  rw[lU]at hinv;have eQ:=hz.len
  have:=(hk z hz hinv).2 (.known O.length) (.inr (by rw[eQ]))
  rw[eQ]at this;exact Gh.finS (s:=U.next+1) ((zD U _).new _) (by simp only[Z3,seval,-ae]) (by omega) (zO _ _) this
 simp only[Z3,seval,-ae];have bO:=s.pr i ag;refine zF (λm vs h'=>∃(r z:L3),m=((at_ O i-at_ r i) % at_ O i).toNat/\vs=[.ptr sp 0,.sl U.next 0 O.length cap,.sl (U.next+1) 0 O.length (.known O.length),.int .i64 i,.int .i64 O.length,.int .i64 i]/\h'=(U.new (pis r)).new (pis z)/\TT O (O.length-d) r/\TT O i r/\TT O (O.length-d) z/\mu O P C d a z=r) _ ⟨r,z,rfl,rfl,rfl,hr,mO,hz,hinv⟩ ?_
 rintro m vs h' ⟨r,z,rfl,rfl,rfl,hr,mO,hz,hinv⟩
 have aR:i<r.length:=by rw[hr.len];exact ag
 have br:=hr.bd i ag;simp only[Z3,seval,-ae,ag,pisAt aR];refine iteI (λheq=>?_) λjL=>?_
 .simp only[Z3,seval,-ae,wrapS ag (by omega:O.length<=4611686018427387904)];refine⟨_,by omega,i+1,r,z,by omega,rfl,rfl,rfl,hr,?_,hz,hinv⟩;refine⟨mO.len,mO.bd,λt ht=>?_⟩;by_cases e:t=i
  .subst e;exact heq
  .exact mO.zero t (by omega)
 .have s7:O.length-d<=i:=by
   rcases Nat.lt_or_ge i (O.length-d)with h|h
   .exact absurd (hr.zero i h) jL
   .exact h
  have hu:TT O (O.length-d) (Grp.unit O i):=s.unit ag s7;obtain⟨m1,m2⟩:=mu_step s s7 hle ag mO;refine QP s F O.length s7 ag (by omega) _ _ sp U.next cap r vO vP vC ((hs.new _).new _) hR (by simp only[Z3,seval,-ae]) (by simp only[Z3,seval,-ae];omega) ai hc hr ?_;simp only[Z3,seval,-ae];refine QP s F O.length s7 ag (by omega) _ _ sp (U.next+1) (.known O.length) z vO vP vC ((hs.new _).new _) hR (by simp only[Z3,seval,-ae]) (by simp only[Z3,seval,-ae]) lg (.inr rfl) hz ?_;simp only[Z3,seval,-ae];refine⟨_,?_,_,_,rfl,rfl,M.cl hr hu,m1,M.cl hz hu,by rw[<-M.as ha hz hu,hinv]⟩;rw[m2];split
  .rename_i e;rw[Int.sub_zero,Int.emod_self]
   have:(at_ O i-at_ r i) % at_ O i=at_ O i-at_ r i:=Int.emod_eq_of_lt (by omega) (by omega)
   omega
  .rename_i e;have h1:(at_ O i-at_ r i) % at_ O i=at_ O i-at_ r i:=Int.emod_eq_of_lt (by omega) (by omega);have h2:(at_ O i-(at_ r i+1)) % at_ O i=at_ O i-(at_ r i+1):=Int.emod_eq_of_lt (by omega) (by omega);omega
theorem zGl(s:Shp O P C)(F:Full O P C d)(hs:PtrG U sp vO vP vC)(hR:IsPr vO vP vC O P C)(ha:TT O (O.length-d) a)(fe:FI va a)(hk:∀v z,TT O (O.length-d) z->mu O P C d a z=zv O->FI v z->K v U):
  zA Tryz.prog 246 [.ptr sp 0,va] U K:=
 zA.gh (zNb s F hs hR ha fe λz h1 h2=>⟨λh0=>Gh.fin0 (Keep.refl U) trivial (hk _ z h1 h2 ⟨true,.nils,by rw[h0];rfl⟩),λcap hc=>Gh.finF (zD U _) (by simp only[Z3,seval,-ae]) (vM _) (zO _ _) hc.ok λo=>hk _ z h1 h2 ⟨true,.sl o 0 z.length cap,rfl⟩⟩)
theorem zId(s:Shp O P C)(F:Full O P C d)(hs:PtrG U sp vO vP vC)(hR:IsPr vO vP vC O P C)(ha:TT O (O.length-d) a)(hb:TT O (O.length-d) b)(fe:FI va a)(dy:FI vb b)(hk:∀z,TT O (O.length-d) z->mu O P C d b z=mu O P C d a b->ResI U K z):
  zA Tryz.prog 228 [.ptr sp 0,va,vb] U K:=by
 have M:=F.gp.toMon;refine zA.gh ?_;refine zB mix Tryz.func228 ?_
 conv=>arg 2;cbv
 refine zC rfl ?_;simp only[Z3,seval,-ae];refine zGl s F hs hR hb dy λv1 z1 h1 h2 f1=>?_;simp only[Z3,seval,-ae];refine zCG s F hs hR ha hb fe dy λv2 f2=>?_;simp only[Z3,seval,-ae];have iU:=M.cl ha hb;have hz:=M.cl h1 iU;have hr:=hk _ hz (by rw[<-M.as hb h1 iU,h2,M.l1 iU]);refine zEP s F hs hR h1 iU f1 f2 ⟨λh0=>?_,λcap hc=>?_⟩
 .simp only[Z3,seval,-ae];exact Gh.ret (hr.1 h0)
 .simp only[Z3,seval,-ae];exact Gh.ret (hr.2 cap hc)
theorem zBp(s:Shp O P C)(F:Full O P C d)(hs:PtrG U sp vO vP vC)(hR:IsPr vO vP vC O P C)(ha:TT O (O.length-d) a)(hb:TT O (O.length-d) b)(fe:FI va a)(dy:FI vb b)(hk:∀v z,TT O (O.length-d) z->mu O P C d b z=mu O P C d a b->FI v z->K v U):
  zA Tryz.prog 228 [.ptr sp 0,va,vb] U K:=
 zA.gh (zId s F hs hR ha hb fe dy λz h1 h2=>⟨λh0=>Gh.fin0 (Keep.refl U) trivial (hk _ z h1 h2 ⟨true,.nils,by rw[h0];rfl⟩),λcap hc=>Gh.finF (zD U _) (by simp only[Z3,seval,-ae]) (vM _) (zO _ _) hc.ok λo=>hk _ z h1 h2 ⟨true,.sl o 0 z.length cap,rfl⟩⟩)
theorem zBG(s:Shp O P C)(F:Full O P C d){i:Nat}(hi:O.length=d+(i+1))(hs:PtrG U sp vO vP vC)(hR:IsPr vO vP vC O P C)(hx:TT O 0 x)(aY:FI vx x)(hk:∀v,FI v (Grp.img O C (mu O P C d) i x)->K v U):
  zA Tryz.prog 285 [.ptr sp 0,.int .i64 i,vx] U K:=by
 have aW:=s.le;have aV:=hx.len;have aI:i<O.length:=by omega
 have M:=F.gp.toMon;have ai:sp≠U.next:=Nat.ne_of_lt hs.lt;have aH:=hR;have mK:=hs;have iD:O.length-d=i+1:=by omega
 obtain⟨⟨w0,a0,rfl⟩,⟨w1,a1,rP,rfl,hP⟩,⟨w3,a3,rC,rfl,hC⟩⟩:=hR;obtain⟨w5,a5,rs,cu,dp⟩:=cvRow s hC aI;have fE:i<C.length:=by rw[s.cl];exact aI
 have e2:U.rd1 sp 2=some (.fz w3 a3 C.length rC):=by rw[zG hs.obj];rfl
 have gg:IntKind.i64.wrap ((i:Int)+1)=((i+1:Nat):Int):=wrapS aI (by omega);obtain⟨wx,ax,rfl⟩:=aY;rw[aV];have pW:O.length-1-i=d:=by omega
 rw[pW]at cu dp;refine zA.gh ?_;refine zB mix Tryz.func285 ?_
 conv=>arg 2;cbv
 refine zC rfl ?_;simp only[Z3,seval,-ae,List.length_replicate,ZV,mk8 (n:=O.length) (by omega),mkL (n:=O.length) (by omega),e2,ai,fE,cu];refine zF (λm vs h'=>∃(k:Nat) (y:L3),k<=d/\m=d-k/\vs=[.ptr sp 0,.int .i64 i,.fz wx ax O.length (pis x),.sl U.next 0 O.length (.known O.length),.fz w5 a5 d rs,.int .i64 d,.int .i64 k]/\h'=U.new (pis y)/\TT O (i+1) y/\fo (mu O P C d) (cvec C i) (nx x) (i+(1+k)) (d-k) y=Grp.img O C (mu O P C d) i x) d ?_ ?_
 .exact⟨0,zv O,by omega,by omega,rfl,rfl,s.zv _,by rw[Grp.img,pW];rfl⟩
 rintro m vs h' ⟨k,y,nS,rfl,rfl,rfl,hy,bj⟩
 simp only[Z3,seval,-ae];refine iteI (λag=>?_) λaF=>?_;rotate_left
 .have fI:d-k=0:=by omega
  rw[fI]at bj;rw[<-bj]at hk;exact Gh.finF (zD U _) (by simp only[Z3,seval,-ae];rfl) (vM _) (zO _ _) (by simp[capOK]) λo=>hk _ (FI.mk hy.len)
 have fv:i+(1+k)<O.length:=by omega
 have vh:i+(1+k)<x.length:=by omega
 have bk:=hx.bd (i+(1+k)) fv;have yB:=s.pr _ fv;have eZ:((nx x (i+(1+k)):Nat):Int)=at_ x (i+(1+k)):=Int.toNat_of_nonneg bk.1;obtain⟨w7,a7,cb⟩:=dp k ag;have bW:=s.cj i (i+(1+k)) (by omega) fv;have e3:IntKind.i64.wrap (((i+1:Nat):Int)+(k:Int))=((i+(1+k):Nat):Int):=by rw[wrap64 (by omega) (by omega)];omega
 rw[show d-k=(d-k-1)+1 by omega]at bj;simp only[Z3,seval,-ae,ag,cb,gg,e3,fv,pisAt vh];refine zF (λm vs h'=>∃(q:Nat) (y:L3),q<=nx x (i+(1+k))/\m=nx x (i+(1+k))-q/\vs=[.ptr sp 0,.int .i64 i,.fz wx ax O.length (pis x),.sl U.next 0 O.length (.known O.length),.fz w7 a7 O.length (pis (cvec C i (i+(1+k)))),.fz w5 a5 d rs,.int .i64 d,.int .i64 k,.int .i64 (at_ x (i+(1+k))),.int .i64 q]/\h'=U.new (pis y)/\TT O (i+1) y/\fo (mu O P C d) (cvec C i) (nx x) (i+(1+k)+1) (d-k-1) (rep (mu O P C d) (cvec C i (i+(1+k))) (nx x (i+(1+k))-q) y)=Grp.img O C (mu O P C d) i x) (nx x (i+(1+k))) ?_ ?_
 .exact⟨0,y,by omega,by omega,rfl,rfl,hy,bj⟩
 rintro m vs h' ⟨q,y,uH,rfl,rfl,rfl,hy,bj⟩
 simp only[Z3,seval,-ae];refine iteI (λan=>?_) λiq=>?_
 .have be:q<nx x (i+(1+k)):=by omega
  refine Qx s F (mK.new _) aH (x:=y) (by simp only[Z3,seval,-ae]) (by simp only[Z3,seval,-ae]) ai (.inr rfl) (by rw[iD];exact hy) (by rw[iD];exact bW) (FI.mk bW.len) ?_;simp only[Z3,seval,-ae,wrapS be (by omega:nx x (i+(1+k))<=4611686018427387904)];have xX:=M.cl (a:=y) (b:=cvec C i (i+(1+k))) (by rw[iD];exact hy) (by rw[iD];exact bW);rw[iD]at xX;refine⟨_,by omega,q+1,_,by omega,rfl,rfl,rfl,xX,?_⟩;rw[show nx x (i+(1+k))-q=(nx x (i+(1+k))-(q+1))+1 by omega]at bj;exact bj
 .have kD:q=nx x (i+(1+k)):=by omega
  subst kD;rw[Nat.sub_self]at bj;simp only[Z3,seval,-ae,wrapS ag (by omega:d<=4611686018427387904)];refine⟨_,by omega,k+1,y,by omega,rfl,rfl,rfl,hy,?_⟩;rw[show d-(k+1)=d-k-1 by omega];exact bj
end Go.Proofs
namespace Go.Proofs
open Go.Ab Go.Lie Go.Grp
variable{U:PHeap}{K:PV->PHeap->Prop}{O:L3}{P:L4}{C:L5}{vO vP vC:PV}{x a b:L3}{rP rC:List PV}{d j sp:Nat}
theorem zG8(s:Shp O P C)(F:Full O P C d){i:Nat}(hi:O.length=d+(i+1))(hs:PtrG U sp vO vP vC)(hR:IsPr vO vP vC O P C)
  (hk:∀f0 f1 f2 f3:Int,((f0=0/\f1=0/\f2=0/\f3=0/\Lv O P C i)\/(f0≠0/\¬Lv O P C i))->K (.agg [.int .i64 f0,.int .i64 f1,.int .i64 f2,.int .i64 f3]) U):zA Tryz.prog 213 [.ptr sp 0,.int .i64 i] U K:=by
 have aW:=s.le;have aH:=hR;have aI:i<O.length:=by omega
 have M:=F.gp.toMon;have G:=F.gp;have iD:O.length-d=i+1:=by omega
 have ed:O.length-1-i=d:=by omega
 have ai:¬sp=U.next:=Nat.ne_of_lt hs.lt;have fD:∀cs,PtrG (U.new cs) sp vO vP vC:=λcs=>hs.new cs;have yes:((∀q,q<d->pw (mu O P C d) (zv O) (cvec C i (i+(1+q))) (nx O (i+(1+q)))=Grp.img O C (mu O P C d) i (pvec P (i+(1+q))))->
   (∀q r,q+(1+r)<d->mu O P C d (cvec C i (i+(1+(q+(1+r))))) (cvec C i (i+(1+q)))=mu O P C d (cvec C i (i+(1+q))) (Grp.img O C (mu O P C d) i (cvec C (i+(1+q)) (i+(1+(q+(1+r)))))))->
   Grp.img O C (mu O P C d) i (pvec P i)=pvec P i->
   (∀q,q<d->mu O P C d (pvec P i) (iter (Grp.img O C (mu O P C d) i) (nx O i) (unitL O.length (i+(1+q))))=mu O P C d (unitL O.length (i+(1+q))) (pvec P i))->Lv O P C i):=λh1 h2 h3 h4=>by
  refine⟨λj g1 g2=>?_,λj k g1 g2 g3=>?_,?_,λj g1 g2=>?_⟩
  .have:=h1 (j-i-1) (by omega);rw[show i+(1+(j-i-1))=j by omega]at this;rw[ed];exact this
  .have:=h2 (j-i-1) (k-j-1) (by omega);rw[show i+(1+(j-i-1))=j by omega,show i+(1+(j-i-1+(1+(k-j-1))))=k by omega]at this;rw[ed];exact this
  .rw[ed];exact h3
  .have:=h4 (j-i-1) (by omega);rw[show i+(1+(j-i-1))=j by omega]at this;rw[ed];exact this
 have mB:∀x,TT O (O.length-d) (Grp.img O C (mu O P C d) i x):=λx=>by
  rw[iD];exact zBk s (λa b ha hb=>by have:=M.cl (a:=a) (b:=b) (by rw[iD];exact ha) (by rw[iD];exact hb);rwa[iD]at this) x
 obtain⟨⟨w0,a0,rfl⟩,⟨w1,a1,rP,rfl,hP⟩,⟨w3,a3,rC,rfl,hC⟩⟩:=hR;obtain⟨w5,a5,rs,cu,dp⟩:=cvRow s hC aI;have fE:i<C.length:=by rw[s.cl];exact aI
 have gL:i<P.length:=by rw[s.pl];exact aI
 have e0:U.rd1 sp 0=some (.fz w0 a0 O.length (pis O)):=by rw[zG hs.obj];rfl
 have e1:U.rd1 sp 1=some (.fz w1 a1 P.length rP):=by rw[zG hs.obj];rfl
 have e2:U.rd1 sp 2=some (.fz w3 a3 C.length rC):=by rw[zG hs.obj];rfl
 refine zA.gh ?_;have fin:∀{f0 f1 f2 f3:Int} {σ':PHeap},((f0=0/\f1=0/\f2=0/\f3=0/\Lv O P C i)\/(f0≠0/\¬Lv O P C i))->Keep U σ'->Gh U K (.agg [.int .i64 f0,.int .i64 f1,.int .i64 f2,.int .i64 f3]) σ':=λh k=>Gh.fin0 k ⟨trivial,trivial,trivial,trivial,trivial⟩ (hk _ _ _ _ h);have no:∀{f0 f1 f2 f3:Int},f0≠0->¬Lv O P C i->((f0=0/\f1=0/\f2=0/\f3=0/\Lv O P C i)\/(f0≠0/\¬Lv O P C i)):=λh g=>.inr ⟨h,g⟩;have aq:∀cs:List PV,Keep U (U.new cs):=λcs=>zD U _;have gg:IntKind.i64.wrap ((i:Int)+1)=((i+1:Nat):Int):=wrapS aI (by omega);refine zP mix Tryz.func213 cf213 rfl ?_;dsimp only[if213,qI,eI,qD,eD,mI0,kI0,lI0,fI0,xI0,bI0,cI0,nI0,sI0,pI0,C2,C3,mD0,lD0,fD0,xD0,pD0,I0,vI0,R0,S0];simp only[Z3,seval,-ae,e0,ai]
 -- first condition
 simp only[Z3,seval,-ae,gg];refine zF (λm vs h'=>∃q:Nat,q<=d/\m=d-q/\vs=[.ptr sp 0,.int .i64 i,.ptr U.next 0,.int .i64 O.length,.int .i64 i,.int .i64 ((i+(1+q):Nat):Int)]/\
  h'=U.new [.int .i64 0,.int .i64 0,.int .i64 0,.int .i64 0]/\∀q',q'<q->pw (mu O P C d) (zv O) (cvec C i (i+(1+q'))) (nx O (i+(1+q')))=Grp.img O C (mu O P C d) i (pvec P (i+(1+q')))) d ?_ ?_
 .exact⟨0,by omega,by omega,rfl,rfl,λq h=>by omega⟩
 rintro m vs h' ⟨q,hq,rfl,rfl,rfl,ah⟩
 simp only[Z3,seval,-ae];refine iteI (λag=>?_) λaF=>?_
 .have gJ:i+(1+q)<O.length:=by omega
  have sZ:i+(1+q)<P.length:=by rw[s.pl];exact gJ
  obtain⟨w6,a6,cb⟩:=dp q (by omega);obtain⟨w7,a7,cQ⟩:=pvRow s hP gJ;have m7:q<O.length-1-i:=by omega
  have bW:=s.cj i (i+(1+q)) (by omega) (by omega);have jZ:TT O (O.length-d) (cvec C i (i+(1+q))):=by rw[iD];exact bW
  have eY:=s.pw (i+(1+q)) gJ;have hO:=s.pr _ gJ;have e3:IntKind.i64.wrap (((i+(1+q):Nat):Int)-(i:Int))=((1+q:Nat):Int):=by rw[wrap64 (by omega) (by omega)];omega
  have e4:IntKind.i64.wrap (((1+q:Nat):Int)-1)=(q:Int):=by rw[wrap64 (by omega) (by omega)];omega
  have e5:IntKind.i64.wrap (((i+(1+q):Nat):Int)+1)=((i+(1+(q+1)):Nat):Int):=by rw[wrap64 (by omega) (by omega)];omega
  simp only[Z3,seval,-ae,e0,e1,e2,ai,gg,fE,cu,e3,e4,m7,cb,gJ,pisAt gJ,sZ,cQ];refine zEh s F (fD _) aH jZ (FI.mk bW.len) (by omega) λv hv=>?_;simp only[Z3,seval,-ae,e0,e1,e2,ai,gg,fE,cu,e3,e4,m7,cb,gJ,pisAt gJ,sZ,cQ];refine zBG s F hi (fD _) aH (eY.mono (Nat.zero_le _)) (FI.mk eY.len) λv2 bX=>?_;obtain⟨w8,a8,rfl⟩:=hv;obtain⟨w9,a9,rfl⟩:=bX;simp only[Z3,seval,-ae];refine zAj rfl rfl (by have:=(M.pw jZ (at_ O (i+(1+q))).toNat).len;omega) ?_;by_cases he:pw (mu O P C d) (zv O) (cvec C i (i+(1+q))) (nx O (i+(1+q)))=Grp.img O C (mu O P C d) i (pvec P (i+(1+q)))
  .simp only[Z3,seval,-ae,eq_true he,e5];refine⟨_,by omega,q+1,by omega,rfl,rfl,λq' h=>?_⟩;by_cases e:q'=q
   .subst e;exact he
   .exact ah q' (by omega)
  .simp only[Z3,seval,-ae,he];exact fin (no (by decide) λL=>he (by have:=L.pow (i+(1+q)) (by omega) gJ;rwa[ed]at this)) (aq _)
 have sS:q=d:=by omega
 subst sS
 -- second condition
 simp only[Z3,seval,-ae,gg];refine zF (λm vs h'=>∃q':Nat,q'<=q/\m=q-q'/\vs=[.ptr sp 0,.int .i64 i,.ptr U.next 0,.int .i64 O.length,.int .i64 i,.int .i64 ((i+(1+q'):Nat):Int)]/\
  h'=U.new [.int .i64 0,.int .i64 0,.int .i64 0,.int .i64 0]/\
  ∀t r,t<q'->t+(1+r)<q->mu O P C q (cvec C i (i+(1+(t+(1+r))))) (cvec C i (i+(1+t)))=mu O P C q (cvec C i (i+(1+t))) (Grp.img O C (mu O P C q) i (cvec C (i+(1+t)) (i+(1+(t+(1+r))))))) q ?_ ?_
 .exact⟨0,by omega,by omega,rfl,rfl,λt r h=>by omega⟩
 rintro m vs h' ⟨t,ht,rfl,rfl,rfl,bc⟩
 simp only[Z3,seval,-ae];refine iteI (λag=>?_) λaF=>?_
 .have gJ:i+(1+t)<O.length:=by omega
  have qe:i+(1+t)<C.length:=by rw[s.cl];exact gJ
  obtain⟨w6,a6,cb⟩:=dp t (by omega);obtain⟨w7,a7,CP,kW,uB⟩:=cvRow s hC gJ;have m7:t<O.length-1-i:=by omega
  have bW:=s.cj i (i+(1+t)) (by omega) (by omega);have jZ:TT O (O.length-q) (cvec C i (i+(1+t))):=by rw[iD];exact bW
  have e3:IntKind.i64.wrap (((i+(1+t):Nat):Int)-(i:Int))=((1+t:Nat):Int):=by rw[wrap64 (by omega) (by omega)];omega
  have e4:IntKind.i64.wrap (((1+t:Nat):Int)-1)=(t:Int):=by rw[wrap64 (by omega) (by omega)];omega
  have e5:IntKind.i64.wrap (((i+(1+t):Nat):Int)+1)=((i+(1+(t+1)):Nat):Int):=by rw[wrap64 (by omega) (by omega)];omega
  simp only[Z3,seval,-ae,e5];refine zF (λm vs h'=>∃r:Nat,t+(1+r)<=q/\m=q-(t+(1+r))/\vs=[.ptr sp 0,.int .i64 i,.ptr U.next 0,.int .i64 O.length,.int .i64 i,.int .i64 ((i+(1+t):Nat):Int),.int .i64 ((i+(1+(t+(1+r))):Nat):Int)]/\
   h'=U.new [.int .i64 0,.int .i64 0,.int .i64 0,.int .i64 0]/\
   ∀r',r'<r->t+(1+r')<q->mu O P C q (cvec C i (i+(1+(t+(1+r'))))) (cvec C i (i+(1+t)))=mu O P C q (cvec C i (i+(1+t))) (Grp.img O C (mu O P C q) i (cvec C (i+(1+t)) (i+(1+(t+(1+r'))))))) (q-(t+1)) ?_ ?_
  .exact⟨0,by omega,by omega,rfl,rfl,λr' h=>by omega⟩
  rintro m vs h' ⟨r,hr,rfl,rfl,rfl,me⟩
  simp only[Z3,seval,-ae];refine iteI (λan=>?_) λiq=>?_
  .have sX:i+(1+(t+(1+r)))<O.length:=by omega
   obtain⟨w8,a8,px⟩:=dp (t+(1+r)) (by omega);obtain⟨w9,a9,mN⟩:=uB r (by omega);rw[show i+(1+t)+(1+r)=i+(1+(t+(1+r))) by omega]at mN;have lA:=s.cj i (i+(1+(t+(1+r)))) (by omega) sX;have rG:TT O (O.length-q) (cvec C i (i+(1+(t+(1+r))))):=by rw[iD];exact lA
   have rF:=s.cj (i+(1+t)) (i+(1+(t+(1+r)))) (by omega) sX;have nR:t+(1+r)<O.length-1-i:=by omega
   have pZ:r<O.length-1-(i+(1+t)):=by omega
   have f3:IntKind.i64.wrap (((i+(1+(t+(1+r))):Nat):Int)-(i:Int))=((1+(t+(1+r)):Nat):Int):=by rw[wrap64 (by omega) (by omega)];omega
   have f4:IntKind.i64.wrap (((1+(t+(1+r)):Nat):Int)-1)=((t+(1+r):Nat):Int):=by rw[wrap64 (by omega) (by omega)];omega
   have f5:IntKind.i64.wrap (((i+(1+(t+(1+r))):Nat):Int)+1)=((i+(1+(t+(1+(r+1)))):Nat):Int):=by rw[wrap64 (by omega) (by omega)];omega
   have f6:IntKind.i64.wrap (((i+(1+(t+(1+r))):Nat):Int)-((i+(1+t):Nat):Int))=((1+r:Nat):Int):=by rw[wrap64 (by omega) (by omega)];omega
   have f7:IntKind.i64.wrap (((1+r:Nat):Int)-1)=(r:Int):=by rw[wrap64 (by omega) (by omega)];omega
   simp only[Z3,seval,-ae,e0,e1,e2,ai,gg,fE,cu,e3,e4,f3,f4,f6,f7,m7,cb,nR,px,qe,kW,pZ,mN];refine zBp s F (fD _) aH rG jZ (FI.mk lA.len) (FI.mk bW.len) λv z dz cK hv=>?_;simp only[Z3,seval,-ae,e0,e1,e2,ai,gg,fE,cu,e3,e4,f3,f4,f6,f7,m7,cb,nR,px,qe,kW,pZ,mN];refine zBG s F hi (fD _) aH (rF.mono (Nat.zero_le _)) (FI.mk rF.len) λv2 bX=>?_;have hz:=mB (cvec C (i+(1+t)) (i+(1+(t+(1+r)))));obtain⟨CI,yC,rfl⟩:=hv;obtain⟨CH,D5,rfl⟩:=bX;simp only[Z3,seval,-ae];refine zAj rfl rfl (by have:=dz.len;omega) ?_;by_cases he:z=Grp.img O C (mu O P C q) i (cvec C (i+(1+t)) (i+(1+(t+(1+r)))))
   .simp only[Z3,seval,-ae,eq_true he,f5];refine⟨_,by omega,r+1,by omega,rfl,rfl,λr' h1 h2=>?_⟩;by_cases e:r'=r
    .subst e;rw[<-he];exact cK.symm
    .exact me r' (by omega) h2
   .simp only[Z3,seval,-ae,he];exact fin (no (by decide) λL=>he (by
     have:=L.cj (i+(1+t)) (i+(1+(t+(1+r)))) (by omega) (by omega) sX
     rw[ed]at this;exact G.cancel jZ dz hz (cK.trans this))) (aq _)
  .simp only[Z3,seval,-ae,e5];refine⟨_,by omega,t+1,by omega,rfl,rfl,λt' r' h1 h2=>?_⟩;by_cases e:t'=t
   .subst e;exact me r' (by omega) h2
   .exact bc t' r' (by omega) h2
 -- third condition
 obtain⟨w6,a6,cQ⟩:=pvRow s hP aI;have eY:=s.pw i aI;have pG:TT O (O.length-q) (pvec P i):=by rw[iD];exact eY
 simp only[Z3,seval,-ae,e1,ai,gL,cQ];refine zBG s F hi (fD _) aH (eY.mono (Nat.zero_le _)) (FI.mk eY.len) λv hv=>?_;obtain⟨w7,a7,rfl⟩:=hv;simp only[Z3,seval,-ae];refine zAj rfl eY.len.symm (by have:=(mB (pvec P i)).len;omega) ?_;by_cases s5:Grp.img O C (mu O P C q) i (pvec P i)=pvec P i;rotate_left
 .simp only[Z3,seval,-ae,s5];exact fin (no (by decide) λL=>s5 (by have:=L.fix;rwa[ed]at this)) (aq _)
 simp only[Z3,seval,-ae,eq_true s5,gg]
 -- xf condition
 refine zF (λm vs h'=>∃q':Nat,q'<=q/\m=q-q'/\vs=[.ptr sp 0,.int .i64 i,.ptr U.next 0,.int .i64 O.length,.int .i64 i,.fz w6 a6 O.length (pis (pvec P i)),.int .i64 ((i+(1+q'):Nat):Int)]/\
  h'=U.new [.int .i64 0,.int .i64 0,.int .i64 0,.int .i64 0]/\
  ∀t,t<q'->mu O P C q (pvec P i) (iter (Grp.img O C (mu O P C q) i) (nx O i) (unitL O.length (i+(1+t))))=mu O P C q (unitL O.length (i+(1+t))) (pvec P i)) q ?_ ?_
 .exact⟨0,by omega,by omega,rfl,rfl,λt h=>by omega⟩
 rintro m vs h' ⟨t,ht,rfl,rfl,rfl,mc⟩
 simp only[Z3,seval,-ae];refine iteI (λag=>?_) λaF=>?_;rotate_left
 .exact fin (.inl ⟨rfl,rfl,rfl,rfl,yes ah (λt' r' h=>bc t' r' (by omega) h) s5 (λt' h=>mc t' (by omega))⟩) (aq _)
 have gJ:i+(1+t)<O.length:=by omega
 have hO:=s.pr i aI;have e5:IntKind.i64.wrap (((i+(1+t):Nat):Int)+1)=((i+(1+(t+1)):Nat):Int):=by rw[wrap64 (by omega) (by omega)];omega
 have As:TT O (i+1) (unitL O.length (i+(1+t))):=s.unit gJ (by omega);have o9:TT O (O.length-q) (unitL O.length (i+(1+t))):=by rw[iD];exact As
 simp only[Z3,seval,-ae];refine qm (by omega) gJ λav=>?_;simp only[Z3,seval,-ae,e0,ai,aI,pisAt aI];refine zF (λm vs h'=>∃(k:Nat) (v2:PV) (A:L3),k<=nx O i/\m=nx O i-k/\vs=[.ptr sp 0,.int .i64 i,.ptr U.next 0,.int .i64 O.length,.int .i64 i,.fz w6 a6 O.length (pis (pvec P i)),.int .i64 ((i+(1+t):Nat):Int),v2,.int .i64 (at_ O i),.int .i64 k]/\
  h'=U.new [.int .i64 0,.int .i64 0,.int .i64 0,.int .i64 0]/\FI v2 A/\TT O (O.length-q) A/\iter (Grp.img O C (mu O P C q) i) (nx O i-k) A=iter (Grp.img O C (mu O P C q) i) (nx O i) (unitL O.length (i+(1+t)))) (nx O i) ?_ ?_
 .exact⟨0,.fz true av O.length (pis (unitL O.length (i+(1+t)))),_,by omega,by omega,rfl,rfl,FI.mk (ZM _ _),o9,rfl⟩
 rintro m vs h' ⟨k,v2,A,cw,rfl,rfl,rfl,bX,hA,aZ⟩
 have eZ:((nx O i:Nat):Int)=at_ O i:=Int.toNat_of_nonneg (by omega);simp only[Z3,seval,-ae];refine iteI (λan=>?_) λiq=>?_
 .have be:k<nx O i:=by omega
  refine zBG s F hi (fD _) aH (hA.mono (Nat.zero_le _)) bX λv3 kz=>?_;simp only[Z3,seval,-ae,wrapS be (by omega:nx O i<=4611686018427387904)];refine⟨_,by omega,k+1,v3,_,by omega,rfl,rfl,kz,mB _,?_⟩;rw[show nx O i-k=(nx O i-(k+1))+1 by omega]at aZ;exact aZ
 have fI:k=nx O i:=by omega
 subst fI;rw[Nat.sub_self]at aZ;have wU:A=iter (Grp.img O C (mu O P C q) i) (nx O i) (unitL O.length (i+(1+t))):=aZ;subst wU;simp only[Z3,seval,-ae];refine qm (by omega) gJ λD0=>?_;simp only[Z3,seval,-ae];refine zBp s F (fD _) aH o9 pG (FI.mk (ZM _ _)) (FI.mk eY.len) λv z dz cK hv=>?_;obtain⟨w8,a8,rfl⟩:=bX;obtain⟨w9,a9,rfl⟩:=hv;simp only[Z3,seval,-ae];refine zAj rfl rfl (by have:=hA.len;omega) ?_;by_cases he:iter (Grp.img O C (mu O P C q) i) (nx O i) (unitL O.length (i+(1+t)))=z
 .simp only[Z3,seval,-ae,eq_true he,e5];refine⟨_,by omega,t+1,by omega,rfl,rfl,λt' h=>?_⟩;by_cases e:t'=t
  .subst e;rw[he];exact cK
  .exact mc t' (by omega)
 .simp only[Z3,seval,-ae,he];exact fin (no (by decide) λL=>he (by
   have:=L.inn (i+(1+t)) (by omega) gJ
   rw[ed]at this;exact G.cancel pG hA dz (this.trans cK.symm))) (aq _)
end Go.Proofs
namespace Go.Proofs
open Go.Ab Go.Lie Go.Grp
variable{U:PHeap}{K:PV->PHeap->Prop}{O:L3}{P:L4}{C:L5}{vO vP vC:PV}{x:L3}{rP rC:List PV}{j sp:Nat}
theorem zEB(s:Shp O P C)(hs:PtrG U sp vO vP vC)(hR:IsPr vO vP vC O P C)(hk:∀r:Int,(r=0↔Cons O P C)->K (.int .i64 r) U):zA Tryz.prog 124 [.ptr sp 0] U K:=by
 have aW:=s.le;have aH:=hR;have mK:=hs;obtain⟨⟨w0,a0,rfl⟩,⟨w1,a1,rP,rfl,hP⟩,⟨w3,a3,rC,rfl,hC⟩⟩:=hR;have e0:U.rd1 sp 0=some (.fz w0 a0 O.length (pis O)):=by rw[zG hs.obj];rfl
 refine zB mix Tryz.func124 ?_
 conv=>arg 2;cbv
 refine zC rfl ?_;simp only[Z3,seval,-ae,e0];refine zF (λm vs h'=>∃k:Nat,k<=O.length/\m=k/\vs=[.ptr sp 0,.int .i64 k]/\U=h'/\∀j,k<=j->j<O.length->Lv O P C j) O.length ?_ ?_
 .exact⟨O.length,vM _,rfl,rfl,rfl,λj h1 h2=>by omega⟩
 rintro m vs h' ⟨k,sX,rfl,rfl,rfl,ah⟩
 rcases Nat.eq_zero_or_pos m with rfl|lY
 .have Cn:¬((0:Int)<((0:Nat):Int)):=by omega
  simp only[Z3,seval,-ae,Cn];exact hk _ ⟨λ_ j hj=>ah j (Nat.zero_le _) hj,λ_=>rfl⟩
 obtain⟨i,rfl⟩:∃i,m=i+1:=⟨m-1,by omega⟩
 have aD:(0:Int)<((i+1:Nat):Int):=by omega
 have hw:IntKind.i64.wrap (((i+1:Nat):Int)-1)=(i:Int):=by rw[wrap64 (by omega) (by omega)];omega
 have F:Full O P C (O.length-(i+1)):=full_of s (by omega) λj h1 h2=>ah j (by omega) h2;simp only[Z3,seval,-ae,aD,hw];refine zG8 s F (i:=i) (by omega) mK aH λf0 f1 f2 f3 hf=>?_;rcases hf with ⟨rfl,rfl,rfl,rfl,L⟩|⟨h0,hn⟩
 .simp only[Z3,seval,-ae,aD,hw];refine⟨i,by omega,i,by omega,rfl,rfl,λj h1 h2=>?_⟩;by_cases e:j=i
  .subst e;exact L
  .exact ah j (by omega) h2
 .simp only[Z3,seval,-ae,aD,hw,h0,Bool.false_and];exact hk _ ⟨λh=>absurd h (by omega),λh=>absurd (h i (by omega)) hn⟩
theorem zF2(hR:IsPr vO vP vC O P C)(sz:SzP O P C)(hk:∀t:Bool,(t=true↔QB O P C/\Cons O P C)->K (.bool t) U):zA Tryz.prog 40 [.agg [vO,vP,vC]] U K:=by
 have h0:=hR.O.one;have h1:=hR.P.one;have h2:=hR.C.one;have fl:∀{A:Prop},¬A->((false=true)↔A):=λh=>⟨λx=>(by cases x),λx=>absurd x h⟩
 have iK:PtrG (U.new [vO,vP,vC]) U.next vO vP vC:=⟨by simp only[Z3,seval,-ae],by simp only[Z3,seval,-ae]⟩
 refine zA.gh ?_;refine zB mix Tryz.func40 ?_
 conv=>arg 2;cbv
 refine zC rfl ?_;simp only[Z3,seval,-ae,h0,h1,h2];refine zEC hR sz λt ht=>?_;cases t with
 |false=>
  simp only[Z3,seval,-ae];exact Gh.fin0 (zD U _) trivial (hk _ (fl λh=>by cases ht.2 h.1))
 |true=>
  have hp:=ht.1 rfl;simp only[Z3,seval,-ae];refine zEB hp.shp iK hR λr hr=>?_;simp only[Z3,seval,-ae];exact Gh.fin0 (zD U _) trivial (hk _ (by rw[decide_eq_true_iff];exact⟨λh=>⟨hp,hr.1 h⟩,λh=>hr.2 h.2⟩))
def cenE(C:L5)(i q:Nat):Prop:=at_ (cvec C i (i+(1+q))) (i+(1+q))=1/\isZ ((cvec C i (i+(1+q))).take (i+(1+q)))
def isCen(O:L3)(C:L5):Prop:=∀i,i<O.length->at_ O i=at_ O 0/\∀q,i+(1+q)<O.length->cenE C i q
end Go.Proofs
set_option linter.unusedSectionVars false
namespace Go.Grp
open Go.Ab Go.Lie
variable{α:Type}{S:α->Prop}{m:α->α->α}{e:α}{a b x y z g:α}
noncomputable def ginv[Inhabited α](S:α->Prop)(m:α->α->α)(e a:α):α:=Classical.epsilon λb=>S b/\m a b=e
section
variable[Inhabited α]
theorem Gp.inv_in(G:Gp S m e)(ha:S a):S (ginv S m e a)/\m a (ginv S m e a)=e:=by
 obtain⟨b,h1,h2,h3⟩:=G.inv ha;exact Classical.epsilon_spec (p:=λb=>S b/\m a b=e) ⟨b,h1,h2⟩
theorem Gp.inv_eq(G:Gp S m e)(ha:S a)(hb:S b)(h:m a b=e):b=ginv S m e a:=G.cancel ha hb (G.inv_in ha).1 (h.trans (G.inv_in ha).2.symm)
theorem Gp.inv_l(G:Gp S m e)(ha:S a):m (ginv S m e a) a=e:=by
 obtain⟨b,h1,h2,h3⟩:=G.inv ha;rw[<-G.inv_eq ha h1 h2];exact h3
theorem Gp.inv_r(G:Gp S m e)(ha:S a):m a (ginv S m e a)=e:=(G.inv_in ha).2
noncomputable def com(S:α->Prop)(m:α->α->α)(e x y:α):α:=m (ginv S m e x) (m (ginv S m e y) (m x y))
noncomputable def cnj(S:α->Prop)(m:α->α->α)(e x g:α):α:=m (ginv S m e g) (m x g)
theorem Gp.com_in(G:Gp S m e)(hx:S x)(hy:S y):S (com S m e x y):=G.cl (G.inv_in hx).1 (G.cl (G.inv_in hy).1 (G.cl hx hy))
theorem Gp.cnj_in(G:Gp S m e)(hx:S x)(hg:S g):S (cnj S m e x g):=G.cl (G.inv_in hg).1 (G.cl hx hg)
theorem Gp.com_spec(G:Gp S m e)(hx:S x)(hy:S y):m (m y x) (com S m e x y)=m x y:=by
 have ix:=(G.inv_in hx).1;have iy:=(G.inv_in hy).1;have xy:=G.cl hx hy;unfold com;rw[G.as hy hx (G.cl ix (G.cl iy xy)),<-G.as hx ix (G.cl iy xy),G.inv_r hx,G.l1 (G.cl iy xy),<-G.as hy iy xy,G.inv_r hy,G.l1 xy]
theorem Gp.com_eq(G:Gp S m e)(hx:S x)(hy:S y)(hz:S z)(h:m (m y x) z=m x y):z=com S m e x y:=
 G.cancel (G.cl hy hx) hz (G.com_in hx hy) (h.trans (G.com_spec hx hy).symm)
theorem Gp.cnj_spec(G:Gp S m e)(hx:S x)(hg:S g):m g (cnj S m e x g)=m x g:=by
 unfold cnj;rw[<-G.as hg (G.inv_in hg).1 (G.cl hx hg),G.inv_r hg,G.l1 (G.cl hx hg)]
theorem Gp.cnj_eq(G:Gp S m e)(hx:S x)(hg:S g)(hz:S z)(h:m g z=m x g):z=cnj S m e x g:=
 G.cancel hg hz (G.cnj_in hx hg) (h.trans (G.cnj_spec hx hg).symm)
structure NSub(S:α->Prop)(m:α->α->α)(e:α)(N:α->Prop):Prop where
 inS:∀{x},N x->S x
 one:N e
 cl:∀{x y},N x->N y->N (m x y)
 inv:∀{x},N x->N (ginv S m e x)
 nor:∀{x g},N x->S g->N (cnj S m e x g)
theorem Gp.cnj_one(G:Gp S m e)(hg:S g):cnj S m e e g=e:=(G.cnj_eq G.one hg G.one (by rw[G.r1 hg,G.l1 hg])).symm
theorem Gp.cnj_com(G:Gp S m e)(hx:S x)(hy:S y):m x (com S m e x y)=cnj S m e x y:=by
 have c1:=G.com_in hx hy;exact G.cnj_eq hx hy (G.cl hx c1) (by rw[<-G.as hy hx c1];exact G.com_spec hx hy)
theorem NSub.com_in(G:Gp S m e){N:α->Prop}(hN:NSub S m e N)(hx:N x)(hy:S y):N (com S m e x y):=by
 have sx:=hN.inS hx;have h1:=G.cnj_com sx hy;have ix:=(G.inv_in sx).1
 have:com S m e x y=m (ginv S m e x) (cnj S m e x y):=by
  rw[<-h1,<-G.as ix sx (G.com_in sx hy),G.inv_l sx,G.l1 (G.com_in sx hy)]
 rw[this];exact hN.cl (hN.inv hx) (hN.nor hx hy)
end
end Go.Grp
namespace Go.Grp
open Go.Ab Go.Lie
variable{O:L3}{P:L4}{C:L5}{x y:L3}
abbrev gS(O:L3):L3->Prop:=TT O 0
abbrev gm(O:L3)(P:L4)(C:L5):L3->L3->L3:=mu O P C O.length
theorem Full.g(F:Full O P C O.length):Gp (gS O) (gm O P C) (zv O):=by
 have:=F.gp
 rwa[Nat.sub_self]at this
noncomputable abbrev gcom (O:L3) (P:L4) (C:L5) (x y:L3):L3:=com (gS O) (gm O P C) (zv O) x y
abbrev gN(O:L3)(P:L4)(C:L5)(N:L3->Prop):Prop:=NSub (gS O) (gm O P C) (zv O) N
end Go.Grp
namespace Go.Grp
open Go.Ab Go.Lie
variable{O:L3}{P:L4}{C:L5}{x y a b:L3}{d t i:Nat}
def Cent(O:L3)(C:L5):Prop:=∀i j,i<j->j<O.length->TT O j (cvec C i j)/\at_ (cvec C i j) j=1
def addm(o a b:Int):Int:=if a+b ≥ o then a+b-o else a+b
theorem zNw(o a b:Int):addm o a b=addm o b a:=by unfold addm;rw[Int.add_comm]
theorem zE3{o a b:Int}(ha:0<=a/\a<o)(hb:0<=b/\b<o)(h:addm o a b=a):b=0:=by
 unfold addm at h;split at h<;>omega
def Upto(O:L3)(t:Nat)(x y:L3):Prop:=∀j,j<t->at_ x j=at_ y j
theorem zQq(s:Shp O P C)(hd:d+1<=O.length)(hi:i=O.length-(d+1))(h0:at_ b i=0)(ha:TT O i a)(hb:TT O i b):mu O P C (d+1) a b=(mu O P C d (a.set i 0) (b.set i 0)).set i (at_ a i):=by
 have ba:=ha.bd i (by omega);subst hi;simp only[mu];rw[h0,if_neg (by omega),show nx b (O.length-(d+1))=0 by show(at_ b _).toNat=0;rw[h0];rfl,Int.add_zero];rfl
theorem QA(s:Shp O P C):∀{d:Nat} {b:L3},d<=O.length->O.length-d<=t->t<O.length->TT O (O.length-d) b->TT O t a->Upto O t (mu O P C d b a) b/\at_ (mu O P C d b a) t=addm (at_ O t) (at_ b t) (at_ a t)
 |0,b,hd,h1,h2,hb,ha=>by omega
 |d+1,b,hd,h1,h2,hb,ha=>by
  have hi:O.length-(d+1)<O.length:=by omega
  have e:O.length-d=O.length-(d+1)+1:=by omega
  have aD:=s.pos hi;have bl:O.length-(d+1)<b.length:=by rw[hb.len];exact hi
  have iA:=hb.set0 hi aD;rw[<-e]at iA;by_cases ht:O.length-(d+1)=t
  .have hr:=mu_tt s hd hb (ha.mono (by omega):TT O (O.length-(d+1)) a);refine⟨λj hj=>by rw[hr.zero j (by omega),hb.zero j (by omega)],?_⟩;have hm:∀a b,TT O (O.length-d) a->TT O (O.length-d) b->TT O (O.length-d) (mu O P C d a b):=λa b h1 h2=>mu_tt s (by omega) h1 h2;have has:=(ha.mono (by omega):TT O (O.length-(d+1)) a).set0 hi aD;rw[<-e]at has;have ir:=hm _ _ (zBO (λx _=>by rw[e];exact zBk s (by rw[<-e];exact hm) x) (nx a (O.length-(d+1))) iA) has;have hw:TT O (O.length-d) (pvec P (O.length-(d+1))):=by rw[e];exact s.pw _ hi
   have lL:=hm _ _ hw ir;rw[<-ht];simp only[mu,addm];split
   .rw[at_set (by rw[lL.len];exact hi),if_pos rfl]
   .rw[at_set (by rw[ir.len];exact hi),if_pos rfl]
  .have np:at_ a (O.length-(d+1))=0:=ha.zero _ (by omega);rw[zQq s hd rfl np hb (ha.mono (by omega)),ZC np (by rw[ha.len];exact hi)];obtain⟨i1,i2⟩:=QA s (d:=d) (by omega) (by omega) h2 iA ha;have fZ:=(mu_tt s (by omega:d<=O.length) iA (ha.mono (by omega):TT O (O.length-d) a)).len;refine⟨λj hj=>?_,?_⟩
   .rw[at_set (by rw[fZ];exact hi)];split
    .rename_i h;rw[h]
    .rename_i h;rw[i1 j hj,at_set bl,if_neg h]
   .rw[at_set (by rw[fZ];exact hi),if_neg (by omega),i2,at_set bl,if_neg (by omega)]
theorem zPB(s:Shp O P C)(hC:Cent O C)(hi:O.length-d=i+1)(hd:d<=O.length)(aZ:i<t)(ht:t<O.length)(hx:TT O t x):TT O t (Grp.img O C (mu O P C d) i x)/\at_ (Grp.img O C (mu O P C d) i x) t=at_ x t:=by
 have bx:=hx.bd t ht;have hm:∀a b,TT O (i+1) a->TT O (i+1) b->TT O (i+1) (mu O P C d a b):=λa b h1 h2=>by
  have:=mu_tt s hd (a:=a) (b:=b) (by rw[hi];exact h1) (by rw[hi];exact h2)
  rwa[hi]at this
 have sk:Grp.img O C (mu O P C d) i x=fo (mu O P C d) (cvec C i) (nx x) t (O.length-t) (zv O):=by
  unfold img;have h:=Nat.add_sub_of_le (show i+1<=t by omega)
  have:∀(k u:Nat) (a:L3),u+k=t->(fo (mu O P C d) (cvec C i) (nx x) u (k+(O.length-t)) a=fo (mu O P C d) (cvec C i) (nx x) t (O.length-t) a):=by
   intro k
   induction k with
   |zero=>intro u a h;rw[Nat.zero_add,show u=t by omega]
   |succ k ih=>
    intro u a h;rw[show k+1+(O.length-t)=(k+(O.length-t))+1 by omega,fo,show nx x u=0 by show(at_ x u).toNat=0;rw[hx.zero u (by omega)];rfl];exact ih (u+1) a (by omega)
  have:=this (t-(i+1)) (i+1) (zv O) (by omega)
  rwa[show t-(i+1)+(O.length-t)=O.length-1-i by omega]at this
 rw[sk,show O.length-t=(O.length-(t+1))+1 by omega,fo];obtain⟨c1,c2⟩:=hC i t aZ ht;have st:∀k:Nat,(k:Int)<=at_ x t->∀{a:L3} {q:Int},TT O t a->at_ a t=q->0<=q->q+k<=at_ x t->TT O t (rep (mu O P C d) (cvec C i t) k a)/\at_ (rep (mu O P C d) (cvec C i t) k a) t=q+k:=by
  intro k
  induction k with
  |zero=>intro _ a q ha hq _ _;exact⟨ha,by rw[rep,hq];omega⟩
  |succ k ih=>
   intro hk a q ha hq jG C8;obtain⟨r1,r2⟩:=QA s (d:=d) (t:=t) (a:=cvec C i t) (b:=a) hd (by omega) ht (ha.mono (by omega)) c1;have uy:TT O t (mu O P C d a (cvec C i t)):=by
    have h0:=hm a (cvec C i t) (ha.mono (by omega)) (c1.mono (by omega));exact⟨h0.len,h0.bd,λj hj=>by rw[r1 j hj];exact ha.zero j hj⟩
   rw[c2,hq,addm,if_neg (by omega)]at r2
   have:=ih (by omega) uy r2 (by omega) (by omega)
   rw[rep];exact⟨this.1,by rw[this.2];omega⟩
 have eZ:((nx x t:Nat):Int)=at_ x t:=Int.toNat_of_nonneg bx.1;obtain⟨q1,q2⟩:=st (nx x t) (by omega) (a:=zv O) (q:=0) (s.zv _) (ZF _ t) (Int.le_refl _) (by omega)
 -- mn later tq leave it
 have Af:=fo_in (S:=λa=>TT O t a/\at_ a t=at_ x t) (m:=mu O P C d) (h:=cvec C i) (x:=nx x) (d:=O.length-(t+1)) (t:=t+1) (a:=rep (mu O P C d) (cvec C i t) (nx x t) (zv O)) ?_ ⟨q1,by rw[q2];omega⟩
 .exact Af
 .rintro j h1 h2 a ⟨ha,fR⟩
  obtain⟨d1,d2⟩:=hC i j (by omega) (by omega);obtain⟨r1,r2⟩:=QA s (d:=d) (t:=j) (a:=cvec C i j) (b:=a) hd (by omega) (by omega) (ha.mono (by omega)) d1;have h0:=hm a (cvec C i j) (ha.mono (by omega)) (d1.mono (by omega));exact⟨⟨h0.len,h0.bd,λk hk=>by rw[r1 k (by omega)];exact ha.zero k hk⟩,by rw[r1 t (by omega)];exact fR⟩
end Go.Grp
namespace Go.Grp
open Go.Ab Go.Lie
variable{O:L3}{P:L4}{C:L5}{x y z a b c g:L3}{t i:Nat}
theorem zKU(s:Shp O P C)(hC:Cent O C):∀{d:Nat} {a b:L3},d<=O.length->O.length-d<=t->t<O.length->TT O t a->TT O (O.length-d) b->Upto O t (mu O P C d a b) b/\at_ (mu O P C d a b) t=addm (at_ O t) (at_ a t) (at_ b t)
 |0,a,b,hd,h1,h2,ha,hb=>by omega
 |d+1,a,b,hd,h1,h2,ha,hb=>by
  have hi:O.length-(d+1)<O.length:=by omega
  have e:O.length-d=O.length-(d+1)+1:=by omega
  have aD:=s.pos hi;have bl:O.length-(d+1)<b.length:=by rw[hb.len];exact hi
  have iA:=hb.set0 hi aD;rw[<-e]at iA;have lG:TT O (O.length-(d+1)) a:=ha.mono (by omega);have has:=lG.set0 hi aD;rw[<-e]at has;have hm:∀a b,TT O (O.length-d) a->TT O (O.length-d) b->TT O (O.length-d) (mu O P C d a b):=λa b h1 h2=>mu_tt s (by omega) h1 h2;by_cases ht:O.length-(d+1)=t
  .have hr:=mu_tt s hd lG hb;refine⟨λj hj=>by rw[hr.zero j (by omega),hb.zero j (by omega)],?_⟩;have ir:=hm _ _ (zBO (λx _=>by rw[e];exact zBk s (by rw[<-e];exact hm) x) (nx b (O.length-(d+1))) has) iA;have hw:TT O (O.length-d) (pvec P (O.length-(d+1))):=by rw[e];exact s.pw _ hi
   have lL:=hm _ _ hw ir;rw[<-ht];simp only[mu,addm];split
   .rw[at_set (by rw[lL.len];exact hi),if_pos rfl]
   .rw[at_set (by rw[ir.len];exact hi),if_pos rfl]
  .have np:at_ a (O.length-(d+1))=0:=ha.zero _ (by omega);have BP:a.set (O.length-(d+1)) 0=a:=ZC np (by rw[ha.len];exact hi);have bb:=hb.bd _ hi
   -- ud of a
   have it:∀(k:Nat) {u:L3},TT O t u->at_ u t=at_ a t->TT O t (iter (Grp.img O C (mu O P C d) (O.length-(d+1))) k u)/\at_ (iter (Grp.img O C (mu O P C d) (O.length-(d+1))) k u) t=at_ a t:=by
    intro k
    induction k with
    |zero=>intro u h1 h2;exact⟨h1,h2⟩
    |succ k ih=>
     intro u h3 h4;obtain⟨k1,k2⟩:=zPB (P:=P) (t:=t) (d:=d) s hC (i:=O.length-(d+1)) e (by omega) (by omega) h2 h3;exact ih k1 (by rw[k2];exact h4)
   obtain⟨l1,l2⟩:=it (nx b (O.length-(d+1))) ha rfl;obtain⟨i1,i2⟩:=zKU s hC (d:=d) (by omega) (by omega) h2 l1 iA;have fZ:=(hm _ _ (l1.mono (by omega)) iA).len;simp only[mu];rw[np,if_neg (by omega),BP,Int.zero_add];refine⟨λj hj=>?_,?_⟩
   .show at_ ((mu O P C d _ _).set _ _) j=_;rw[at_set (by rw[fZ];exact hi)];split
    .rename_i h;rw[h]
    .rename_i h;rw[i1 j hj,at_set bl,if_neg h]
   .show at_ ((mu O P C d _ _).set _ _) t=_;rw[at_set (by rw[fZ];exact hi),if_neg (by omega),i2,l2,at_set bl,if_neg (by omega)]
section
variable(s:Shp O P C)(F:Full O P C O.length)(hC:Cent O C)
include s F hC
theorem behind(hz:gS O z)(hc:gS O c)(h:Upto O t (gm O P C z c) z)(ht:t<=O.length):TT O t c:=by
 have:∀k,k<=t->TT O k c:=by
  intro k
  induction k with
  |zero=>intro _;exact hc
  |succ k ih=>
   intro hk;have yh:=ih (by omega);obtain⟨r1,r2⟩:=QA s (d:=O.length) (t:=k) (a:=c) (b:=z) (vM _) (by omega) (by omega) (by rw[Nat.sub_self];exact hz) yh;have e:=h k (by omega);show TT O (k+1) c;have e2:addm (at_ O k) (at_ z k) (at_ c k)=at_ z k:=by rw[<-r2];exact e
   have:=zE3 (hz.bd k (by omega)) (hc.bd k (by omega)) e2
   refine⟨hc.len,hc.bd,λj hj=>?_⟩;by_cases g:j=k
   .subst g;exact this
   .exact yh.zero j (by omega)
 exact this t (vM _)
theorem zF6(ht:t<=O.length)(hx:TT O t x)(hy:gS O y):Upto O t (gm O P C x y) y:=by
 rcases Nat.lt_or_ge t O.length with h|h
 .exact(zKU s hC (d:=O.length) (t:=t) (a:=x) (b:=y) (vM _) (by omega) h hx (by rw[Nat.sub_self];exact hy)).1
 .have nH:x=zv O:=hx.ext (s.zv _) λj h1 h2=>by omega
  rw[nH,F.g.l1 hy];exactλj _=>rfl
theorem zDp(ht:t<=O.length):gN O P C (TT O t):=by
 have G:=F.g;have ml:∀{x:L3},TT O t x->gS O x:=λh=>h.mono (Nat.zero_le _);refine⟨ml,s.zv _,λ{x y} hx hy=>?_,λ{x} hx=>?_,λ{x g} hx hg=>?_⟩
 .have h0:=G.cl (ml hx) (ml hy);exact⟨h0.len,h0.bd,λj hj=>by rw[zF6 s F hC ht hx (ml hy) j hj];exact hy.zero j hj⟩
 .obtain⟨i1,i2⟩:=G.inv_in (ml hx)
  have:=zF6 s F hC ht hx i1
  rw[show gm O P C x (ginv (gS O) (gm O P C) (zv O) x)=zv O from i2]at this;exact⟨i1.len,i1.bd,λj hj=>by rw[<-this j hj];exact ZF _ j⟩
 .refine behind s F hC hg (G.cnj_in (ml hx) hg) (λj hj=>?_) ht;have e:gm O P C g (cnj (gS O) (gm O P C) (zv O) x g)=gm O P C x g:=G.cnj_spec (ml hx) hg;rw[e];exact zF6 s F hC ht hx hg j hj
end
end Go.Grp
namespace Go.Grp
open Go.Ab Go.Lie
variable{O:L3}{P:L4}{C:L5}{x g:L3}
section
variable(s:Shp O P C)(F:Full O P C O.length)
include s F
theorem triv:gN O P C (λx=>x=zv O):=by
 have G:=F.g;refine⟨λh=>by rw[h];exact G.one,rfl,λh1 h2=>by rw[h1,h2];exact G.l1 G.one,λh=>?_,λh hg=>by rw[h];exact G.cnj_one hg⟩;rw[h];exact(G.inv_eq G.one G.one (G.l1 G.one)).symm
end
end Go.Grp
namespace Go.Proofs
open Go.Ab Go.Lie Go.Grp
variable{O:L3}{P:L4}{C:L5}{x a b:L3}{d:Nat}
theorem zQC{i:Nat}(xl:i<x.length):(x.set i 0).set i (at_ x i)=x:=zMI xl
theorem zIH(s:Shp O P C){d i:Nat}(hi:O.length=(d+1)+i)(F:Full O P C d)(F1:Full O P C (d+1)){y1 y2:L3}(hx:TT O i x)(h1:TT O (i+1) y1)(h2:TT O (i+1) y2)(e1:mu O P C d (x.set i 0) y1=zv O)(e2:mu O P C d (pvec P i) y2=zv O):
  (at_ x i=0->mu O P C (d+1) x y1=zv O)/\(at_ x i≠0->mu O P C (d+1) x (mu O P C (d+1) (mu O P C (d+1) y1 ((zv O).set i (at_ O i-at_ x i))) y2)=zv O):=by
 have aI:i<O.length:=by omega
 have hn:O.length-d=i+1:=by omega
 have jo:O.length-(d+1)=i:=by omega
 have aD:=s.pos aI;have bx:=hx.bd i aI;have xl:i<x.length:=by rw[hx.len];exact aI
 have M:=F.gp.toMon;have G1:=F1.gp;rw[jo]at G1;have hr:TT O (O.length-d) (x.set i 0):=by rw[hn];exact hx.set0 aI aD
 have ks:TT O (O.length-d) y1:=by rw[hn];exact h1
 have gR:TT O (O.length-d) y2:=by rw[hn];exact h2
 have hz:TT O (O.length-d) (zv O):=s.zv _;have hw:TT O (O.length-d) (pvec P i):=by rw[hn];exact s.pw i aI
 have sub:∀{u v:L3},TT O (O.length-d) u->TT O (O.length-d) v->mu O P C (d+1) u v=mu O P C d u v:=λhu hv=>zGM s (by omega) hu hv;constructor
 .intro h0;rw[ZC h0 xl]at e1 hr;rw[sub hr ks];exact e1
 .intro h0;have z0:(zv O).set i 0=zv O:=ZC (ZF _ i) (by simp;exact aI);have ia:∀k,iter (al O P C d i) k (zv O)=zv O:=λk=>zDY (al_zv s F.toBeh hn) k;have hg:TT O i ((zv O).set i (at_ x i)):=(s.zv i).set aI (vM _) bx;have ht:TT O i ((zv O).set i (at_ O i-at_ x i)):=(s.zv i).set aI (vM _) ⟨by omega,by omega⟩;have aR:i<(x.set i 0).length:=by rw[List.length_set];exact xl
  have r0:(x.set i 0).set i 0=x.set i 0:=by rw[List.set_set]
  have up:∀{u:L3},TT O (O.length-d) u->TT O i u:=λh=>h.mono (by omega);have ex:mu O P C (d+1) ((zv O).set i (at_ x i)) (x.set i 0)=x:=by
   have:=zDw s F.toBeh hn (a:=at_ x i) (b:=0) hz hr
   rw[r0,if_neg (by omega),ia,M.l1 hr,Int.add_zero,zQC xl]at this;exact this
  have et:mu O P C (d+1) ((zv O).set i (at_ x i)) ((zv O).set i (at_ O i-at_ x i))=pvec P i:=by
   have:=zDw s F.toBeh hn (a:=at_ x i) (b:=at_ O i-at_ x i) hz hz
   rw[if_pos (by omega),ia,M.l1 hz,M.r1 hw,show at_ x i+(at_ O i-at_ x i)-at_ O i=0 by omega,ZC (hw.zero i (by omega)) (by rw[hw.len];exact aI)]at this;exact this
  have key:∀Y,mu O P C (d+1) x Y=mu O P C (d+1) (mu O P C (d+1) ((zv O).set i (at_ x i)) (x.set i 0)) Y:=λY=>by rw[ex]
  rw[key];have k1:=up ks;have k2:=up gR;have kr:=up hr;rw[G1.as hg kr (G1.cl (G1.cl k1 ht) k2),<-G1.as kr (G1.cl k1 ht) k2,<-G1.as kr k1 ht,sub hr ks,e1,G1.l1 ht,<-G1.as hg ht k2,et,sub hw gR,e2]
end Go.Proofs
namespace Go.Proofs
open Go.Ab Go.Lie Go.Grp
variable{U:PHeap}{K:PV->PHeap->Prop}{O:L3}{P:L4}{C:L5}{vO vP vC vx:PV}{x y a:L3}{rP rC:List PV}{d j:Nat}
def zN4(O:L3)(P:L4)(C:L5)(d i:Nat):Prop:=
 ∀(U:PHeap) (K:PV->PHeap->Prop) (x:L3) (vx vO vP vC:PV),IsPr vO vP vC O P C->TT O i x->FI vx x->(∀v y,FI v y->TT O i y->mu O P C d x y=zv O->K v U)->zA Tryz.prog 302 [.agg [vO,vP,vC],.int .i64 i,vx] U K
theorem zFc(s:Shp O P C)(hc:Cons O P C):∀{d i:Nat},O.length=d+i->zN4 O P C d i
 |0,i,hi=>by
  intro U K x vx vO vP vC hR hx aY hk;have aW:=s.le;obtain⟨⟨w0,a0,rfl⟩,⟨w1,a1,rP,rfl,hP⟩,⟨w3,a3,rC,rfl,hC⟩⟩:=hR;refine zA.gh ?_;have aF:(O.length:Int)<=(i:Int):=by omega
  refine zP mix Tryz.func302 cf302 rfl ?_;dsimp only[if302,eI,nI,qD,eD,mI0,lI0,LI0,fI0,xI0,bI0,cI0,sI0,C1,C3,mD0,lD0,fD0,xD0,I0,zI0,wD0,R0,S0];simp only[Z3,seval,-ae,aF,List.length_replicate,ZV,mk8 (n:=O.length) (by omega),mkL (n:=O.length) (by omega)];exact Gh.finF (s:=U.next+1) ((zD U _).new _) (by simp only[Z3,seval,-ae]) (by omega) (zO _ _) (by simp[capOK]) λo1=>hk _ (zv O) (FI.mk (by simp)) (s.zv _) rfl
 |d+1,i,hi=>by
  intro U K x vx vO vP vC hR hx aY hk;have wS:zN4 O P C d (i+1):=zFc s hc (by omega);have F:Full O P C d:=full_of s (by omega) λj h1 h2=>hc j h2;have F1:Full O P C (d+1):=full_of s (by omega) λj h1 h2=>hc j h2;have jw:AtOK O P C (d+1) i:=zBj s (by omega);have aW:=s.le;have aH:=hR;have aI:i<O.length:=by omega
  have hO:=s.pr i aI;have aD:=s.pos aI;have aV:=hx.len;have bx:=hx.bd i aI;have jo:O.length-(d+1)=i:=by omega
  have G1:=F1.gp;rw[jo]at G1;obtain⟨⟨w0,a0,rfl⟩,⟨w1,a1,rP,rfl,hP⟩,⟨w3,a3,rC,rfl,hC⟩⟩:=hR;obtain⟨w5,a5,cQ⟩:=pvRow s hP aI;have gL:i<P.length:=by rw[s.pl];exact aI
  have eY:=s.pw i aI;obtain⟨wx,ax,rfl⟩:=aY;have hK:i<x.length:=by omega
  have aF:¬(O.length:Int)<=(i:Int):=by omega
  have sx:=hx.set0 aI aD;have gg:IntKind.i64.wrap ((i:Int)+1)=((i+1:Nat):Int):=wrapS aI (by omega);have qk:i+1<=x.length:=hK;refine zA.gh ?_;refine zP mix Tryz.func302 cf302 rfl ?_;dsimp only[if302,eI,nI,qD,eD,mI0,lI0,LI0,fI0,xI0,bI0,cI0,sI0,C1,C3,mD0,lD0,fD0,xD0,I0,zI0,wD0,R0,S0];simp only[Z3,seval,-ae,aF];refine QW rfl (by omega) λgd mb=>?_;simp only[Z3,seval,-ae,hK,qk,zJ,qM hK,gg];refine zA.frz (s:=U.next+1) (cs:=pis (x.set i 0)) (by simp only[Z3,seval,-ae]) (zO _ _) λo1=>?_;have j3:=mb.ok;simp only[sbs,sb,j3,and_self,if_true,aH.O.sb,aH.P.sb,aH.C.sb];refine wS _ _ (x.set i 0) _ _ _ _ aH sx (FI.mk (by simp)) λv1 y1 fB jA e1=>?_;have aq:Keep U (((U.new [.fz w0 a0 O.length (pis O),.fz w1 a1 P.length rP,.fz w3 a3 C.length rC]).new (pis (x.set i 0))).kill (U.next+1)):=((zD U _).new _).kill (by omega);simp only[Z3,seval,-ae,hK,pisAt hK];refine iteI (λh0=>?_) λh0=>?_
  .have hr:=wS
   -- mn sI of mn lK is not asked for; any yI do
   obtain⟨y2,yv,Ci,_⟩:=F.gp.inv (a:=pvec P i) (by rw[show O.length-d=i+1 by omega];exact eY);rw[show O.length-d=i+1 by omega]at yv
   have:=(zIH s (by omega) F F1 hx jA yv e1 Ci).1 h0
   exact Gh.fin0 aq (fB.bel _) (hk v1 y1 fB (jA.mono (by omega)) this)
  have lX:i<(zv O).length:=by simp;exact aI
  have uN:i+1<=O.length:=aI;have c4:IntKind.i64.wrap (at_ O i-at_ x i)=at_ O i-at_ x i:=wrap64 (by omega) (by omega);have dA:=qM lX (x:=at_ O i-at_ x i);have ht:TT O i ((zv O).set i (at_ O i-at_ x i)):=(s.zv i).set aI (vM _) ⟨by omega,by omega⟩;simp only[Z3,seval,-ae,List.length_replicate,ZV,mk8 (n:=O.length) (by omega),mkL (n:=O.length) (by omega),hK,pisAt hK,aI,uN,pisAt aI,c4,zJ,dA,gg,gL,cQ];refine zA.frz (s:=U.next+2) (cs:=pis ((zv O).set i (at_ O i-at_ x i))) (by simp only[Z3,seval,-ae]) (zO _ _) λo2=>?_;simp only[sbs,sb,capOK,vM,decide_true,and_self,if_true,aH.O.sb,aH.P.sb,aH.C.sb,fB.sb];have oT:TT O i y1:=jA.mono (by omega);refine jw aH oT ht fB (FI.mk (by simp)) λv3 kz=>?_;simp only[Z3,seval,-ae,gg,gL,cQ];refine wS _ _ (pvec P i) _ _ _ _ aH eY (FI.mk eY.len) λv2 y2 bX uf e2=>?_;have oS:TT O i y2:=uf.mono (by omega);have oj:=G1.cl oT ht;simp only[Z3,seval,-ae,gg,gL,cQ];refine jw aH oj oS kz bX λv4 o6=>?_;simp only[Z3,seval,-ae]
  have:=(zIH s (by omega) F F1 hx jA uf e1 e2).2 h0
  exact Gh.fin0 (((((zD U _).new _).kill (by omega)).new _).kill (by omega)) (o6.bel _) (hk v4 _ o6 (G1.cl oj oS) this)
theorem zGh(s:Shp O P C)(hc:Cons O P C)(hR:IsPr vO vP vC O P C)(hx:gS O x)(aY:FI vx x)(hk:∀v,FI v (ginv (gS O) (gm O P C) (zv O) x)->K v U):zA Tryz.prog 244 [.agg [vO,vP,vC],vx] U K:=by
 have h0:=hR.O.one;have h1:=hR.P.one;have h2:=hR.C.one;have G:=(full_of s (vM _) λj _ h=>hc j h).g;refine zA.gh ?_;refine zB mix Tryz.func244 ?_
 conv=>arg 2;cbv
 refine zC rfl ?_;simp only[Z3,seval,-ae,h0,h1,h2];refine zFc s hc (d:=O.length) (i:=0) (by omega) _ _ x _ _ _ _ hR hx aY λv y hv hy e=>?_;simp only[Z3,seval,-ae]
 have:=G.inv_eq hx hy e
 rw[<-this]at hk;exact Gh.fin0 (zD U _) (hv.bel _) (hk v hv)
end Go.Proofs
namespace Go.Proofs
open Go.Ab Go.Lie Go.Grp
variable{U:PHeap}{K:PV->PHeap->Prop}{O:L3}{P:L4}{C:L5}{vO vP vC vx vy va vb:PV}{x y a b:L3}{d j:Nat}
theorem zAu(s:Shp O P C)(hR:IsPr vO vP vC O P C)(ha:gS O a)(hb:gS O b)(fe:FI va a)(dy:FI vb b)(hk:∀v,FI v (gm O P C a b)->K v U):zA Tryz.prog 130 [.agg [vO,vP,vC],va,vb] U K:=by
 have h0:=hR.O.one;have h1:=hR.P.one;have h2:=hR.C.one;refine zA.gh ?_;refine zB mix Tryz.func130 ?_
 conv=>arg 2;cbv
 refine zC rfl ?_;simp only[Z3,seval,-ae,h0,h1,h2];refine zBj s (d:=O.length) (i:=0) (by omega) hR ha hb fe dy λv hv=>?_;simp only[Z3,seval,-ae];exact Gh.fin0 (zD U _) (hv.bel _) (hk v hv)
theorem zLc(s:Shp O P C)(hc:Cons O P C)(hR:IsPr vO vP vC O P C)(hx:gS O x)(hy:gS O y)(aY:FI vx x)(fN:FI vy y)(hk:∀v,FI v (gcom O P C x y)->K v U):zA Tryz.prog 184 [.agg [vO,vP,vC],vx,vy] U K:=by
 have h0:=hR.O.one;have h1:=hR.P.one;have h2:=hR.C.one;have G:=(full_of s (vM _) λj _ h=>hc j h).g;have nG:=G.cl hy hx;have mD:=G.cl hx hy;have hi:=(G.inv_in nG).1;refine zA.gh ?_;refine zB mix Tryz.func184 ?_
 conv=>arg 2;cbv
 refine zC rfl ?_;simp only[Z3,seval,-ae,h0,h1,h2];refine zAu s hR hy hx fN aY λv1 f1=>?_;simp only[Z3,seval,-ae,h0,h1,h2];refine zGh s hc hR nG f1 λv2 f2=>?_;simp only[Z3,seval,-ae,h0,h1,h2];refine zAu s hR hx hy aY fN λv3 f3=>?_;simp only[Z3,seval,-ae,h0,h1,h2];refine zAu s hR hi mD f2 f3 λv4 f4=>?_;simp only[Z3,seval,-ae];have e:gm O P C (ginv (gS O) (gm O P C) (zv O) (gm O P C y x)) (gm O P C x y)=gcom O P C x y:=
  G.com_eq hx hy (G.cl hi mD) (by rw[<-G.as nG hi mD,G.inv_r nG,G.l1 mD])
 rw[e]at f4;exact Gh.fin0 (zD U _) (f4.bel _) (hk v4 f4)
end Go.Proofs
namespace Go.Grp
open Go.Ab Go.Lie
variable{O:L3}{P:L4}{C:L5}{x y a b g:L3}{D:List (Option L3)}{t k d:Nat}{N:L3->Prop}
theorem zCL(hx:gS O x):TT O (dep x) x:=⟨hx.len,hx.bd,λj hj=>qF hj⟩
theorem zAS(hx:TT O t x)(ht:t<=O.length):t<=dep x:=by
 rcases Nat.lt_or_ge (dep x) t with h|h
 .have hl:=hx.len;exact absurd (hx.zero _ h) (Zg (by omega))
 .exact h
theorem zIc(hx:gS O x)(h:O.length<=dep x):x=zv O:=by
 refine Qi (by rw[hx.len];simp) λj hj=>?_;rw[ZF];exact qF (by have:=hx.len;omega)
theorem zL7(s:Shp O P C):dep (zv O)=O.length:=by
 have h1:=zAS (t:=O.length) (s.zv _) (vM _);have h2:=QR (zv O);rw[(s.zv 0).len]at h2;omega
theorem zCz{o a b:Int}(ha:0<=a/\a<o)(hb:0<=b/\b<o):addm o a b=(a+b) % o:=by
 unfold addm;split
 .have:(a+b) % o=(a+b-o) % o:=by rw[Int.sub_emod_right]
  rw[this,Int.emod_eq_of_lt (by omega) (by omega)]
 .rw[Int.emod_eq_of_lt (by omega) (by omega)]
section
variable(s:Shp O P C)(F:Full O P C O.length)(hC:Cent O C)
include s F hC
theorem zAb(ht:t<O.length)(hx:TT O t x):∀k:Nat,TT O t (pw (gm O P C) (zv O) x k)/\at_ (pw (gm O P C) (zv O) x k) t=((k:Int)*at_ x t) % at_ O t
 |0=>⟨s.zv _,by show at_ (zv O) t=_;rw[ZF];simp⟩
 |k+1=>by
  obtain⟨h1,h2⟩:=zAb ht hx k;have hN:=zDp s F hC (Nat.le_of_lt ht);have hO:=s.pr t ht;obtain⟨_,g2⟩:=QA s (d:=O.length) (b:=pw (gm O P C) (zv O) x k) (a:=x) (t:=t) (vM _) (by omega) ht (by rw[Nat.sub_self];exact h1.mono (Nat.zero_le _)) hx;refine⟨hN.cl h1 hx,?_⟩;show at_ (mu O P C O.length (pw (gm O P C) (zv O) x k) x) t=_;rw[g2,zCz (h1.bd t ht) (hx.bd t ht),h2,Int.emod_add_emod];congr 1;grind
theorem zMG(ht:t<O.length)(hx:TT O t x)(hb:TT O t b)(fQ:at_ b t=1):TT O (t+1) (gm O P C (pw (gm O P C) (zv O) b (at_ O t-at_ x t).toNat) x):=by
 obtain⟨h1,h2⟩:=zAb s F hC ht hb (at_ O t-at_ x t).toNat;have hN:=zDp s F hC (Nat.le_of_lt ht);have bx:=hx.bd t ht;obtain⟨_,g2⟩:=QA s (d:=O.length) (b:=pw (gm O P C) (zv O) b (at_ O t-at_ x t).toNat) (a:=x) (t:=t) (vM _) (by omega) ht (by rw[Nat.sub_self];exact h1.mono (Nat.zero_le _)) hx;have h0:=hN.cl h1 hx;have hz:at_ (gm O P C (pw (gm O P C) (zv O) b (at_ O t-at_ x t).toNat) x) t=0:=by
  show at_ (mu O P C O.length _ _) t=0;rw[g2,zCz (h1.bd t ht) bx,h2,fQ,Int.mul_one,Int.emod_add_emod,Int.toNat_of_nonneg (by omega),show at_ O t-at_ x t+at_ x t=at_ O t by omega,Int.emod_self]
 refine⟨h0.len,h0.bd,λj hj=>?_⟩;rcases Nat.lt_or_ge j t with h|h
 .exact h0.zero j h
 .rw[show j=t by omega];exact hz
theorem zOJ(ht:t<O.length)(hx:gS O x)(hb:TT O t b)(fQ:at_ b t=1):gS O (gm O P C x b)/\Upto O t (gm O P C x b) x/\at_ (gm O P C x b) t=(at_ x t+1) % at_ O t:=by
 obtain⟨g1,g2⟩:=QA s (d:=O.length) (b:=x) (a:=b) (t:=t) (vM _) (by omega) ht (by rw[Nat.sub_self];exact hx) hb;refine⟨F.g.cl hx (hb.mono (Nat.zero_le _)),g1,?_⟩;show at_ (mu O P C O.length x b) t=_;rw[g2,zCz (hx.bd t ht) (hb.bd t ht),fQ]
end
structure OkD(O:L3)(D:List (Option L3)):Prop where
 len:D.length=O.length
 row:∀(d:Nat) (y:L3),D[d]? = some (some y)->TT O d y/\at_ y d=1
def InD(N:L3->Prop)(D:List (Option L3)):Prop:=∀(d:Nat) (y:L3),D[d]? = some (some y)->N y
def free:List (Option L3)->Nat
 |[]=>0
 |none::D=>free D+1
 |some _::D=>free D
theorem zBP:∀D,free D<=D.length
 |[]=>vM _
 |none::D=>by have:=zBP D;simp only[free,List.length_cons];omega
 |some _::D=>by have:=zBP D;simp only[free,List.length_cons];omega
theorem zEr{y:L3}:∀{D:List (Option L3)} {d:Nat},D[d]? = some none->free (D.set d (some y))+1=free D
 |[],d,h=>by simp at h
 |v::D,0,h=>by
  simp only[List.getElem?_cons_zero,Option.some.injEq]at h;subst h;rfl
 |v::D,d+1,h=>by
  have:=zEr (y:=y) (D:=D) (d:=d) (by simpa using h)
  cases v<;>simp only[List.set_cons_succ,free]<;>omega
theorem OkD.put(h:OkD O D)(hd:d<O.length)(hy:TT O d y)(h1:at_ y d=1):OkD O (D.set d (some y)):=by
 refine⟨by rw[List.length_set];exact h.len,λe v hv=>?_⟩;rw[List.getElem?_set]at hv;split at hv
 .rename_i he;subst he;split at hv
  .cases hv;exact⟨hy,h1⟩
  .cases hv
 .exact h.row e v hv
theorem InD.put(hd:D[d]? = some none):InD N (D.set d (some y))↔InD N D/\N y:=by
  have hl:d<D.length:=by
    rcases Nat.lt_or_ge d D.length with h|h
    .exact h
    .rw[List.getElem?_eq_none h]at hd;cases hd
  constructor
  . intro h
    refine⟨λe v hv=>h e v ?_,h d y ?_⟩
    .rw[List.getElem?_set,if_neg λhe=>by subst he;rw[hd]at hv;cases hv];exact hv
    .rw[List.getElem?_set,if_pos rfl,if_pos hl]
  . rintro⟨h1,h2⟩ e v hv
    rw[List.getElem?_set]at hv;split at hv
    . rename_i he;subst he
      first
      |(cases hv;exact h2)
      | (split at hv
         .cases hv;exact h2
         .cases hv)
    .exact h1 e v hv
theorem OkD.start(n:Nat)(hn:n=O.length):OkD O (List.replicate n none):=⟨by simp[hn],λd y h=>by
 rw[List.getElem?_replicate]at h;split at h<;>cases h⟩
theorem InD.start(n:Nat):InD N (List.replicate n none):=λd y h=>by
 rw[List.getElem?_replicate]at h;split at h<;>cases h
end Go.Grp
namespace Go.Grp
open Go.Ab Go.Lie
variable{O:L3}{P:L4}{C:L5}{x a b:L3}{t k:Nat}
section
variable{α:Type}{S:α->Prop}{m:α->α->α}{e:α}
theorem Mon.pw_e(M:Mon S m e):∀k,Grp.pw m e e k=e
 |0=>rfl
 |k+1=>by
  show m (Grp.pw m e e k) e=e;rw[M.pw_e k];exact M.l1 M.one
theorem Mon.pw_mul(M:Mon S m e){x:α}(hx:S x)(a:Nat):∀b,Grp.pw m e x (a*b)=Grp.pw m e (Grp.pw m e x a) b
 |0=>rfl
 |b+1=>by
  rw[Nat.mul_succ,M.pw_add hx,M.pw_mul hx a b];rfl
end
section
variable(s:Shp O P C)(F:Full O P C O.length)(hC:Cent O C)
include s F hC
theorem zKQ(ht:t<O.length)(hx:TT O t x):TT O (t+1) (Grp.pw (gm O P C) (zv O) x (at_ O t).toNat):=by
 obtain⟨h1,h2⟩:=zAb s F hC ht hx (at_ O t).toNat;refine⟨h1.len,h1.bd,λj hj=>?_⟩;rcases Nat.lt_or_ge j t with h|h
 .exact h1.zero j h
 .rw[show j=t by omega,h2,Int.toNat_of_nonneg (by have:=s.pr t ht;omega),Int.mul_emod_right]
omit hC in
end
end Go.Grp
namespace Go.Grp
open Go.Ab Go.Lie
section
variable{α:Type}[Inhabited α]{S:α->Prop}{m:α->α->α}{e:α}{x y a:α}{N:α->Prop}
structure GSub(S:α->Prop)(m:α->α->α)(e:α)(N:α->Prop):Prop where
 inS:∀{x},N x->S x
 one:N e
 cl:∀{x y},N x->N y->N (m x y)
 inv:∀{x},N x->N (ginv S m e x)
theorem Gp.wholeB(G:Gp S m e):GSub S m e S:=⟨id,G.one,λa b=>G.cl a b,λa=>(G.inv_in a).1⟩
theorem GSub.com_in(h:GSub S m e N)(hx:N x)(hy:N y):N (com S m e x y):=h.cl (h.inv hx) (h.cl (h.inv hy) (h.cl hx hy))
theorem GSub.quot(G:Gp S m e)(h:GSub S m e N)(ha:N a)(hx:S x)(hn:N (m a x)):N x:=by
 have h1:=h.cl (h.inv ha) hn;rwa[<-G.as (h.inS (h.inv ha)) (h.inS ha) hx,G.inv_l (h.inS ha),G.l1 hx]at h1
theorem GSub.quotR(G:Gp S m e)(h:GSub S m e N)(ha:N a)(hx:S x)(hn:N (m x a)):N x:=by
 have h1:=h.cl hn (h.inv ha);rwa[G.as hx (h.inS ha) (h.inS (h.inv ha)),G.inv_r (h.inS ha),G.r1 hx]at h1
theorem GSub.pw(h:GSub S m e N)(hx:N x):∀k,N (Grp.pw m e x k)
 |0=>h.one
 |k+1=>h.cl (h.pw hx k) hx
theorem Gp.com_swap'(G:Gp S m e)(hx:S x)(hy:S y):com S m e y x=ginv S m e (com S m e x y):=by
 have h1:=G.com_spec hx hy;have h2:=G.com_spec hy hx;have c1:=G.com_in hx hy;have c2:=G.com_in hy hx;refine G.inv_eq c1 c2 ?_;refine G.cancel (G.cl hy hx) (G.cl c1 c2) G.one ?_;rw[<-G.as (G.cl hy hx) c1 c2,h1,h2,G.r1 (G.cl hy hx)]
end
variable{O:L3}{P:L4}{C:L5}{x y z a b c g:L3}{D D':List (Option L3)}{t k d:Nat}{N H:L3->Prop}{L u u' Q:L4}
abbrev gB(O:L3)(P:L4)(C:L5)(N:L3->Prop):Prop:=GSub (gS O) (gm O P C) (zv O) N
inductive Rdu(O:L3)(P:L4)(C:L5)(D:List (Option L3)):L3->L3->Prop where
 |refl (x:L3):Rdu O P C D x x
 |left {d j:Nat} {b x x' z:L3} (hd:d<O.length) (hb:D[d]? = some (some b)) (hx:TT O d x) (h0:at_ x d≠0) (dj:TT O (d+1) x') (e:x=gm O P C (pw (gm O P C) (zv O) b j) x') (r:Rdu O P C D x' z):Rdu O P C D x z
 |right {d j:Nat} {b x x' z:L3} (hd:d<O.length) (hb:D[d]? = some (some b)) (hx:TT O d x) (h0:at_ x d≠0) (dj:TT O (d+1) x') (e:x=gm O P C x' (pw (gm O P C) (zv O) b j)) (r:Rdu O P C D x' z):Rdu O P C D x z
theorem Rdu.trans(h:Rdu O P C D x y)(g:Rdu O P C D y z):Rdu O P C D x z:=by
 induction h with
 |refl x=>exact g
 |left hd hb hx h0 dj e r ih=>exact .left hd hb hx h0 dj e (ih g)
 |right hd hb hx h0 dj e r ih=>exact .right hd hb hx h0 dj e (ih g)
def Sup(D D':List (Option L3)):Prop:=∀(d:Nat) (b:L3),D[d]? = some (some b)->D'[d]? = some (some b)
theorem Rdu.mono(h:Rdu O P C D x z)(s:Sup D D'):Rdu O P C D' x z:=by
 induction h with
 |refl x=>exact .refl x
 |left hd hb hx h0 dj e r ih=>exact .left hd (s _ _ hb) hx h0 dj e ih
 |right hd hb hx h0 dj e r ih=>exact .right hd (s _ _ hb) hx h0 dj e ih
theorem Rdu.iff(F:Full O P C O.length)(hN:gB O P C N)(hD:InD N D)(h:Rdu O P C D x z):N x↔N z:=by
 have G:=F.g
 induction h with
 |refl x=>exact Iff.rfl
 |left hd hb hx h0 dj e r ih=>
  refine Iff.trans ?_ ih;rw[e];exact⟨λh=>hN.quot G (hN.pw (hD _ _ hb) _) (dj.mono (Nat.zero_le _)) h,λh=>hN.cl (hN.pw (hD _ _ hb) _) h⟩
 |right hd hb hx h0 dj e r ih=>
  refine Iff.trans ?_ ih;rw[e];exact⟨λh=>hN.quotR G (hN.pw (hD _ _ hb) _) (dj.mono (Nat.zero_le _)) h,λh=>hN.cl h (hN.pw (hD _ _ hb) _)⟩
theorem Sup.put(hd:D[d]? = some none):Sup D (D.set d (some y)):=λe b hb=>by
 rw[List.getElem?_set];split
 .rename_i h;rw[<-h,hd]at hb;cases hb
 .exact hb
def RQ(O:L3)(P:L4)(C:L5)(D:List (Option L3))(Q:L4)(x:L3):Prop:=∃z,Rdu O P C D x z/\(z=zv O\/z∈Q)
structure QI(O:L3)(P:L4)(C:L5)(D:List (Option L3))(Q:L4):Prop where
 pow:∀(d:Nat) (b:L3),D[d]? = some (some b)->RQ O P C D Q (pw (gm O P C) (zv O) b (at_ O d).toNat)
 com:∀(d e:Nat) (b c:L3),d≠e->D[d]? = some (some b)->D[e]? = some (some c)->RQ O P C D Q (gcom O P C b c)\/RQ O P C D Q (gcom O P C c b)
theorem RQ.step{Q':L4}(h:RQ O P C D (x::Q) y)(s:Sup D D')(hx:Rdu O P C D x z)(hz:z=zv O\/z∈Q')(hQ:∀q∈Q,q∈Q'):RQ O P C D' Q' y:=by
 obtain⟨w,h1,h2⟩:=h;rcases h2 with rfl|h2
 .exact⟨_,h1.mono s,.inl rfl⟩
 .rcases List.mem_cons.1 h2 with rfl|h2
  .exact⟨z,(h1.trans hx).mono s,hz⟩
  .exact⟨w,h1.mono s,.inr (hQ w h2)⟩
theorem zHz{n d:Nat}{b:L3}(h:(List.replicate n (none:Option L3))[d]? = some (some b)):False:=by
 rw[List.getElem?_replicate]at h;split at h<;>cases h
theorem QI.start(n:Nat):QI O P C (List.replicate n none) Q:=⟨λd b h=>(zHz h).elim,λd e b c _ h _=>(zHz h).elim⟩
theorem QI.mem{Q':L4}(h:QI O P C D Q)(hQ:∀q∈Q,q∈Q'):QI O P C D Q':=
 have r:∀{x},RQ O P C D Q x->RQ O P C D Q' x:=λ⟨z,h1,h2⟩=>⟨z,h1,h2.imp id (hQ z)⟩
 ⟨λd b hb=>r (h.pow d b hb),λd e b c ai hb hc=>(h.com d e b c ai hb hc).imp r r⟩
theorem QI.drop(h:QI O P C D (x::Q))(hx:Rdu O P C D x (zv O)):QI O P C D Q:=
 have r:∀{y},RQ O P C D (x::Q) y->RQ O P C D Q y:=λh=>h.step (λd b hb=>hb) hx (.inl rfl) λq hq=>hq
 ⟨λd b hb=>r (h.pow d b hb),λd e b c ai hb hc=>(h.com d e b c ai hb hc).imp r r⟩
theorem QI.put{Q':L4}(h:QI O P C D (x::Q))(hx:Rdu O P C D x z)(hd:D[d]? = some none)(hz:z∈Q')(hQ:∀q∈Q,q∈Q')(hp:pw (gm O P C) (zv O) y (at_ O d).toNat∈Q')(hc:∀(e:Nat) (b:L3),D[e]? = some (some b)->gcom O P C b y∈Q'\/gcom O P C y b∈Q'):QI O P C (D.set d (some y)) Q':=by
  have hl:d<D.length:=by
    rcases Nat.lt_or_ge d D.length with h|h
    .exact h
    .rw[List.getElem?_eq_none h]at hd;cases hd
  have s:Sup D (D.set d (some y)):=Sup.put hd;have r:∀{w},RQ O P C D (x::Q) w->RQ O P C (D.set d (some y)) Q' w:=λh=>h.step s hx (.inr hz) hQ;have ge:∀(e:Nat) (b:L3),(D.set d (some y))[e]? = some (some b)->(e=d/\b=y)\/(e≠d/\D[e]? = some (some b)):=λe b hb=>by
    rw[List.getElem?_set]at hb;split at hb
    . rename_i he
      subst he
      first
      |(cases hb;exact .inl ⟨rfl,rfl⟩)
      | (split at hb
         .cases hb;exact .inl ⟨rfl,rfl⟩
         .cases hb)
    .rename_i he;exact .inr ⟨λh=>he h.symm,hb⟩
  refine⟨λe b hb=>?_,λe e' b c ai hb jf=>?_⟩
  . rcases ge e b hb with ⟨k1,k2⟩|⟨_,dw⟩
    .rw[k1,k2];exact⟨_,.refl _,.inr hp⟩
    .exact r (h.pow e b dw)
  . rcases ge e b hb with ⟨k1,k2⟩|⟨h1,dw⟩
    . rcases ge e' c jf with ⟨l1,l2⟩|⟨h2,iR⟩
      .omega
      . rw[k2]
        rcases hc e' c iR with h3|h3
        .exact .inr ⟨_,.refl _,.inr h3⟩
        .exact .inl ⟨_,.refl _,.inr h3⟩
    . rcases ge e' c jf with ⟨l1,l2⟩|⟨h2,iR⟩
      . rw[l2]
        rcases hc e b dw with h3|h3
        .exact .inl ⟨_,.refl _,.inr h3⟩
        .exact .inr ⟨_,.refl _,.inr h3⟩
      .exact(h.com e e' b c ai dw iR).imp r r
section
variable(s:Shp O P C)(F:Full O P C O.length)(hC:Cent O C)
include s F hC
theorem zKL(hx:gS O x):∃E:Nat,0<E/\pw (gm O P C) (zv O) x E=zv O:=by
 have M:=F.g.toMon
 have:∀t,t<=O.length->∃E:Nat,0<E/\TT O t (pw (gm O P C) (zv O) x E):=by
  intro t
  induction t with
  |zero=>intro _;exact⟨1,by omega,by rw[M.pw_one hx];exact hx⟩
  |succ t ih=>
   intro ht;obtain⟨E,h1,h2⟩:=ih (by omega);have hO:=s.pr t (by omega);refine⟨E*(at_ O t).toNat,Nat.mul_pos h1 (by omega),?_⟩;rw[M.pw_mul hx];exact zKQ s F hC (by omega) h2
 obtain⟨E,h1,h2⟩:=this O.length (vM _);exact⟨E,h1,h2.ext (s.zv _) λj h1 h2=>by omega⟩
theorem zCd(inS:∀x,N x->gS O x)(one:N (zv O))(cl:∀x y,N x->N y->N (gm O P C x y)):gB O P C N:=by
 have G:=F.g;have xw:∀{x},N x->∀k,N (pw (gm O P C) (zv O) x k):=λ{x} hx k=>by
  induction k with
  |zero=>exact one
  |succ k ih=>exact cl _ _ ih hx
 refine⟨λh=>inS _ h,one,λh g=>cl _ _ h g,λ{x} hx=>?_⟩;obtain⟨E,h1,h2⟩:=zKL s F hC (inS x hx);have e:pw (gm O P C) (zv O) x (E-1)=ginv (gS O) (gm O P C) (zv O) x:=by
  refine G.inv_eq (inS x hx) (inS _ (xw hx _)) ?_
  have:=G.pw_comm (inS x hx) (E-1)
  rw[<-this];rw[show E=(E-1)+1 by omega]at h2;exact h2
 rw[<-e];exact xw hx _
def HD(O:L3)(P:L4)(C:L5)(D:List (Option L3))(t:Nat)(x:L3):Prop:=TT O t x/\Rdu O P C D x (zv O)
omit hC in
theorem HD.row(ok:OkD O D)(hb:D[d]? = some (some b))(hd:d<O.length):HD O P C D d b:=by
 have M:=F.g.toMon;obtain⟨h1,h2⟩:=ok.row d b hb;have kI:gS O b:=h1.mono (Nat.zero_le _);refine⟨h1,.left (j:=1) hd hb h1 (by rw[h2];decide) (s.zv _) ?_ (.refl _)⟩;rw[M.pw_one kI];exact(M.r1 kI).symm
theorem HD.nn(hn:D[t]? = some none)(h:HD O P C D t x):HD O P C D (t+1) x:=by
 obtain⟨h1,h2⟩:=h;refine⟨?_,h2⟩;have key:∀{d:Nat} {b:L3},D[d]? = some (some b)->TT O d x->at_ x d≠0->TT O (t+1) x:=λ{d b} hb hx h0=>by
  rcases Nat.lt_trichotomy d t with h|h|h
  .exact absurd (h1.zero d h) h0
  .rw[h,hn]at hb;cases hb
  .exact hx.mono h
 cases h2 with
 |refl=>exact s.zv _
 |left hd hb hx h0 dj e r=>exact key hb hx h0
 |right hd hb hx h0 dj e r=>exact key hb hx h0
theorem HD.cnjb(ok:OkD O D)(q:QI O P C D [])(ht:t<O.length)(hb:D[t]? = some (some b))(hs:gB O P C (HD O P C D (t+1))):∀{x z:L3},Rdu O P C D x z->z=zv O->TT O (t+1) x->HD O P C D (t+1) (cnj (gS O) (gm O P C) (zv O) x b):=by
 have G:=F.g;have bS:gS O b:=(ok.row t b hb).1.mono (Nat.zero_le _);have cm:∀{x y:L3},gS O x->gS O y->cnj (gS O) (gm O P C) (zv O) (gm O P C x y) b=gm O P C (cnj (gS O) (gm O P C) (zv O) x b) (cnj (gS O) (gm O P C) (zv O) y b):=λ{x y} hx hy=>by
  have c1:=G.cnj_in hx bS;have c2:=G.cnj_in hy bS;refine(G.cnj_eq (G.cl hx hy) bS (G.cl c1 c2) ?_).symm;rw[<-G.as bS c1 c2,G.cnj_spec hx bS,G.as hx bS c2,G.cnj_spec hy bS,<-G.as hx hy bS]
 have sh:cnj (gS O) (gm O P C) (zv O) (zv O) b=zv O:=G.cnj_one bS;have yz:∀{c:L3},gS O c->HD O P C D (t+1) (cnj (gS O) (gm O P C) (zv O) c b)->∀j,HD O P C D (t+1) (cnj (gS O) (gm O P C) (zv O) (pw (gm O P C) (zv O) c j) b):=λ{c} hc h j=>by
  induction j with
  |zero=>show HD O P C D (t+1) (cnj _ _ _ (zv O) b);rw[sh];exact hs.one
  |succ j ih=>
   show HD O P C D (t+1) (cnj _ _ _ (gm O P C _ c) b);rw[cm (G.pw hc j) hc];exact hs.cl ih h
 have row:∀{d:Nat} {c:L3},t+1<=d->d<O.length->D[d]? = some (some c)->gS O c/\HD O P C D (t+1) (cnj (gS O) (gm O P C) (zv O) c b):=λ{d c} h1 h2 hc=>by
  have cT:=(ok.row d c hc).1;have cS:gS O c:=cT.mono (Nat.zero_le _);refine⟨cS,?_⟩;rw[<-G.cnj_com cS bS];have yg:=HD.row s F ok hc h2;have yk:HD O P C D (t+1) c:=⟨yg.1.mono h1,yg.2⟩;refine hs.cl yk ?_;have hN:=zDp s F hC (t:=t+1) (by omega);have T1:TT O (t+1) (gcom O P C c b):=NSub.com_in G hN yk.1 bS;have e0:∀{w},RQ O P C D [] w->Rdu O P C D w (zv O):=λ⟨z,h1,h2⟩=>by
   rcases h2 with rfl|h2
   .exact h1
   .cases h2
  rcases q.com t d b c (by omega) hb hc with h3|h3
  .have yT:gcom O P C b c=ginv (gS O) (gm O P C) (zv O) (gcom O P C c b):=G.com_swap' cS bS;have yR:gcom O P C c b=ginv (gS O) (gm O P C) (zv O) (gcom O P C b c):=G.com_swap' bS cS;have T2:TT O (t+1) (gcom O P C b c):=by rw[yT];exact hN.inv T1
   have T3:HD O P C D (t+1) (gcom O P C c b):=by rw[yR];exact hs.inv ⟨T2,e0 h3⟩
   exact T3
  .exact⟨T1,e0 h3⟩
 intro x z h
 induction h with
 |refl x=>rintro rfl hx;rw[sh];exact hs.one
 | @left d j c x x' z hd hc hx h0 dj e r ih=>
  intro hz hT;have ly:t+1<=d:=by
   rcases Nat.lt_or_ge d (t+1)with h|h
   .exact absurd (hT.zero d h) h0
   .exact h
  obtain⟨r1,r2⟩:=row ly hd hc;have mE:gS O x':=dj.mono (Nat.zero_le _);rw[e,cm (G.pw r1 j) mE];exact hs.cl (yz r1 r2 j) (ih hz (dj.mono (by omega)))
 | @right d j c x x' z hd hc hx h0 dj e r ih=>
  intro hz hT;have ly:t+1<=d:=by
   rcases Nat.lt_or_ge d (t+1)with h|h
   .exact absurd (hT.zero d h) h0
   .exact h
  obtain⟨r1,r2⟩:=row ly hd hc;have mE:gS O x':=dj.mono (Nat.zero_le _);rw[e,cm mE (G.pw r1 j)];exact hs.cl (ih hz (dj.mono (by omega))) (yz r1 r2 j)
theorem HD.sub(ok:OkD O D)(q:QI O P C D []):∀k t,t+k=O.length->gB O P C (HD O P C D t)
 |0,t,ht=>by
  have hz:∀x,HD O P C D t x->x=zv O:=λx hx=>hx.1.ext (s.zv _) λj h1 h2=>by omega
  have h0:HD O P C D t (zv O):=⟨s.zv _,.refl _⟩;refine zCd s F hC (λx hx=>hx.1.mono (Nat.zero_le _)) h0 λx y hx hy=>?_;rw[hz x hx,hz y hy,F.g.l1 F.g.one];exact h0
 |k+1,t,ht=>by
  have ih:=HD.sub ok q k (t+1) (by omega);have G:=F.g;have gE:t<O.length:=by omega
  have B9:t<D.length:=by rw[ok.len];exact gE
  rcases hD:D[t]? with _|_|b
  .rw[List.getElem?_eq_getElem B9]at hD;cases hD
  .refine zCd s F hC (λx hx=>hx.1.mono (Nat.zero_le _)) ⟨s.zv _,.refl _⟩ λx y hx hy=>?_
   have:=ih.cl (HD.nn s F hC hD hx) (HD.nn s F hC hD hy)
   exact⟨this.1.mono (by omega),this.2⟩
  .obtain⟨bT,b1⟩:=ok.row t b hD;have bS:gS O b:=bT.mono (Nat.zero_le _);have inS:∀{x},HD O P C D (t+1) x->gS O x:=λh=>h.1.mono (Nat.zero_le _)
   -- ox of a lK of b and a tR behind
   have mk:∀(j:Nat) {h:L3},HD O P C D (t+1) h->HD O P C D t (gm O P C (pw (gm O P C) (zv O) b j) h):=λj {h} hh=>by
    obtain⟨p1,p2⟩:=zAb s F hC gE bT j;have hN:=zDp s F hC (t:=t) (by omega);have Dr:=inS hh;have T:=hN.cl p1 (hh.1.mono (Nat.le_succ _));refine⟨T,?_⟩;obtain⟨_,g2⟩:=QA s (d:=O.length) (b:=pw (gm O P C) (zv O) b j) (a:=h) (t:=t) (vM _) (by omega) gE (by rw[Nat.sub_self];exact p1.mono (Nat.zero_le _)) (hh.1.mono (Nat.le_succ _));have hO:=s.pr t gE;have e2:at_ (gm O P C (pw (gm O P C) (zv O) b j) h) t=(j:Int) % at_ O t:=by
     show at_ (mu O P C O.length _ _) t=_;rw[g2,zCz (p1.bd t gE) (hh.1.bd t gE),hh.1.zero t (Nat.lt_succ_self _),p2,b1,Int.mul_one,Int.add_zero,Int.emod_emod_of_dvd _ (Int.dvd_refl _)]
    by_cases h0:(j:Int) % at_ O t=0
    .obtain⟨r,hr⟩:=Int.dvd_of_emod_eq_zero h0;have lU:0<=r:=by
      rcases Int.lt_or_le r 0 with h|h
      .have:=Int.mul_neg_of_pos_of_neg (show 0<at_ O t by omega) h;omega
      .exact h
     have ej:j=(at_ O t).toNat*r.toNat:=by
      have:((j:Nat):Int)=(((at_ O t).toNat*r.toNat:Nat):Int):=by rw[Int.natCast_mul,Int.toNat_of_nonneg lU,Int.toNat_of_nonneg (by omega),hr]
      omega
     have hp:HD O P C D (t+1) (pw (gm O P C) (zv O) b (at_ O t).toNat):=by
      refine⟨zKQ s F hC gE bT,?_⟩;obtain⟨z,h1,h2⟩:=q.pow t b hD;rcases h2 with rfl|h2
      .exact h1
      .cases h2
     rw[ej,G.pw_mul bS];exact(ih.cl (ih.pw hp r.toNat) hh).2
    .exact .left gE hD T (by rw[e2];exact h0) hh.1 rfl hh.2
   have mv:∀(j:Nat) {h:L3},HD O P C D (t+1) h->∃h',HD O P C D (t+1) h'/\gm O P C h (pw (gm O P C) (zv O) b j)=gm O P C (pw (gm O P C) (zv O) b j) h':=λj=>by
    induction j with
    |zero=>exactλ{h} hh=>⟨h,hh,by show gm O P C h (zv O)=gm O P C (zv O) h;rw[G.r1 (inS hh),G.l1 (inS hh)]⟩
    |succ j ij=>
     intro h hh;obtain⟨h1,a1,a2⟩:=ij hh;have a3:=HD.cnjb s F hC ok q gE hD ih a1.2 rfl a1.1;refine⟨_,a3,?_⟩;have uJ:=G.pw bS j;show gm O P C h (gm O P C (pw (gm O P C) (zv O) b j) b)=gm O P C (gm O P C (pw (gm O P C) (zv O) b j) b) _;rw[<-G.as (inS hh) uJ bS,a2,G.as uJ (inS a1) bS,G.as uJ bS (inS a3),G.cnj_spec (inS a1) bS]
   have split:∀{x},HD O P C D t x->∃j h,HD O P C D (t+1) h/\x=gm O P C (pw (gm O P C) (zv O) b j) h:=λ{x} hx=>by
    obtain⟨hT,hr⟩:=hx;have deep:∀{d},TT O d x->at_ x d≠0->d≠t->TT O (t+1) x:=λ{d} h1 h0 ai=>by
     rcases Nat.lt_trichotomy d t with h|h|h
     .exact absurd (hT.zero d h) h0
     .exact absurd h ai
     .exact h1.mono h
    have triv:TT O (t+1) x->Rdu O P C D x (zv O)->∃j h,HD O P C D (t+1) h/\x=gm O P C (pw (gm O P C) (zv O) b j) h:=λh1 h2=>⟨0,x,⟨h1,h2⟩,(G.l1 (h1.mono (Nat.zero_le _))).symm⟩
    have lU:=hr;cases hr with
    |refl=>exact triv (s.zv _) (.refl _)
    | @left d j c _ x' _ hd hc h1 h0 dj e r=>
     by_cases ly:d=t
     .subst ly;rw[hD]at hc;cases hc;exact⟨j,x',⟨dj,r⟩,e⟩
     .exact triv (deep h1 h0 ly) lU
    | @right d j c _ x' _ hd hc h1 h0 dj e r=>
     by_cases ly:d=t
     .subst ly;rw[hD]at hc;cases hc;obtain⟨h',a1,a2⟩:=mv j (show HD O P C D (d+1) x' from⟨dj,r⟩);exact⟨j,h',a1,by rw[e,a2]⟩
     .exact triv (deep h1 h0 ly) lU
   refine zCd s F hC (λx hx=>hx.1.mono (Nat.zero_le _)) ⟨s.zv _,.refl _⟩ λx y hx hy=>?_;obtain⟨j,h,a1,rfl⟩:=split hx;obtain⟨j',h',a2,rfl⟩:=split hy;obtain⟨h2,a3,a4⟩:=mv j' a1;have p1:=G.pw bS j;have p2:=G.pw bS j';have e:gm O P C (gm O P C (pw (gm O P C) (zv O) b j) h) (gm O P C (pw (gm O P C) (zv O) b j') h')=gm O P C (pw (gm O P C) (zv O) b (j+j')) (gm O P C h2 h'):=by
    rw[G.as p1 (inS a1) (G.cl p2 (inS a2)),<-G.as (inS a1) p2 (inS a2),a4,G.as p2 (inS a3) (inS a2),<-G.as p1 p2 (G.cl (inS a3) (inS a2)),G.pw_add bS]
   rw[e];exact mk _ (ih.cl a3 a2)
omit hC in
theorem HD.fil(h:HD O P C D t x)(hd:dep x<O.length):∃b,D[dep x]? = some (some b):=by
 obtain⟨h1,h2⟩:=h;have key:∀{d:Nat} {b:L3},D[d]? = some (some b)->TT O d x->at_ x d≠0->∃b,D[dep x]? = some (some b):=λ{d b} hb hx h0=>by
  have:dep x=d:=zBo (λj hj=>hx.zero j hj) h0
  rw[this];exact⟨b,hb⟩
 cases h2 with
 |refl=>rw[zL7 s]at hd;omega
 |left hd hb hx h0 dj e r=>exact key hb hx h0
 |right hd hb hx h0 dj e r=>exact key hb hx h0
end
def GC(O:L3)(P:L4)(C:L5)(L:L4)(x:L3):Prop:=∀N,gB O P C N->(∀l∈L,N l)->N x
theorem GC.sub(F:Full O P C O.length)(hL:∀l∈L,gS O l):gB O P C (GC O P C L):=
 ⟨λh=>h _ F.g.wholeB hL,λN hN _=>hN.one,λh g N hN hl=>hN.cl (h N hN hl) (g N hN hl),λh N hN hl=>hN.inv (h N hN hl)⟩
structure CanG(O:L3)(H:L3->Prop)(u:L4):Prop where
 asc:u.Pairwise λa b=>dep a<dep b
 mem:∀v∈u,H v
 one:∀v∈u,gS O v/\dep v<O.length/\at_ v (dep v)=1
 red:∀v∈u,∀w∈u,dep v≠dep w->at_ v (dep w)=0
 all:∀x,H x->dep x<O.length->∃v∈u,dep v=dep x
theorem zIp:∀{u u':L4},(u.Pairwise λa b=>dep a<dep b)->(u'.Pairwise λa b=>dep a<dep b)->(∀v,v∈u↔v∈u')->u=u'
 |[],[],_,_,_=>rfl
 |[],v::u',_,_,h=>by have:=(h v).2 (by simp);cases this
 |v::u,[],_,_,h=>by have:=(h v).1 (by simp);cases this
 |v::u,w::u',h1,h2,h=>by
  rw[List.pairwise_cons]at h1 h2;have e:v=w:=by
   rcases List.mem_cons.1 ((h v).1 (by simp))with e|e
   .exact e
   .rcases List.mem_cons.1 ((h w).2 (by simp))with e'|e'
    .exact e'.symm
    .have:=h2.1 v e;have:=h1.1 w e';omega
  subst e;rw[zIp h1.2 h2.2 λx=>?_];constructor
  .intro hx;rcases List.mem_cons.1 ((h x).1 (by simp[hx]))with e|e
   .subst e;have:=h1.1 x hx;omega
   .exact e
  .intro hx;rcases List.mem_cons.1 ((h x).2 (by simp[hx]))with e|e
   .subst e;have:=h2.1 x hx;omega
   .exact e
theorem CanG.row_eq(s:Shp O P C)(F:Full O P C O.length)(hH:gB O P C H)(h:CanG O H u)(h':CanG O H u'){v v':L3}(hv:v∈u)(fC:v'∈u')(hd:dep v=dep v'):v=v':=by
 have G:=F.g;obtain⟨a1,a2,a3⟩:=h.one v hv;obtain⟨b1,b2,b3⟩:=h'.one v' fC;have iv:=G.inv_in a1;have hz:H (gm O P C (ginv (gS O) (gm O P C) (zv O) v) v'):=hH.cl (hH.inv (h.mem v hv)) (h'.mem v' fC);have e:gm O P C v (gm O P C (ginv (gS O) (gm O P C) (zv O) v) v')=v':=by rw[<-G.as a1 iv.1 b1,iv.2,G.l1 b1]
 generalize gm O P C (ginv (gS O) (gm O P C) (zv O) v) v'=z at *
 have zS:=hH.inS hz;rcases Nat.lt_or_ge (dep z) O.length with hdz|hdz
 .exfalso;obtain⟨g1,g2⟩:=QA s (d:=O.length) (b:=v) (a:=z) (t:=dep z) (vM _) (by omega) hdz (by rw[Nat.sub_self];exact a1) (zCL zS);have e':mu O P C O.length v z=v':=e;rw[e']at g1 g2;have fT:at_ z (dep z)≠0:=Zg (by rw[zS.len];exact hdz);have kS:at_ v' (dep z)=at_ v (dep z):=by
   rcases Nat.lt_trichotomy (dep z) (dep v)with h1|h1|h1
   .rw[qF h1,qF (by omega)]
   .rw[h1,a3,hd,b3]
   .obtain⟨w,hw,ew⟩:=h.all z hz hdz;obtain⟨w',kR,Cv⟩:=h'.all z hz hdz;rw[<-ew,h.red v hv w hw (by omega),ew,<-Cv,h'.red v' fC w' kR (by omega)]
  have:=zE3 (a1.bd _ hdz) (zS.bd _ hdz) (g2.symm.trans kS)
  exact fT this
 .rw[zIc zS hdz,G.r1 a1]at e;exact e
theorem CanG.unique(s:Shp O P C)(F:Full O P C O.length)(hH:gB O P C H)(h:CanG O H u)(h':CanG O H u'):u=u':=by
 refine zIp h.asc h'.asc λv=>⟨λhv=>?_,λhv=>?_⟩
 .obtain⟨w,hw,e⟩:=h'.all v (h.mem v hv) (h.one v hv).2.1;rw[h.row_eq s F hH h' hv hw e.symm];exact hw
 .obtain⟨w,hw,e⟩:=h.all v (h'.mem v hv) (h'.one v hv).2.1;rw[h'.row_eq s F hH h hv hw e.symm];exact hw
theorem CanG.len(h:CanG O H u):u.length<=O.length:=by
 have:(u.map dep).Pairwise (· < ·):=by rw[List.pairwise_map];exact h.asc
 have key:∀(l:List Nat) (m:Nat),l.Pairwise (· < ·)->(∀x∈l,m<=x/\x<O.length)->l.length+m<=O.length\/l=[]:=by
  intro l
  induction l with
  |nil=>intro m _ _;exact .inr rfl
  |cons a l ih=>
   intro m h1 h2;rw[List.pairwise_cons]at h1;have ha:=h2 a (by simp);rcases ih (a+1) h1.2 (λx hx=>⟨h1.1 x hx,(h2 x (by simp[hx])).2⟩)with h3|h3
   .left;simp only[List.length_cons];omega
   .subst h3;left;simp;omega
 rcases key _ 0 this (λx hx=>by
  obtain⟨v,hv,rfl⟩:=List.mem_map.1 hx;exact⟨Nat.zero_le _,(h.one v hv).2.1⟩)with h1|h1
 .simpa using h1
 .rw[List.map_eq_nil_iff]at h1;subst h1;simp
theorem GC.table(s:Shp O P C)(F:Full O P C O.length)(hC:Cent O C)(ok:OkD O D)(q:QI O P C D [])(h:∀N,gB O P C N->(InD N D↔∀l∈L,N l)):∀x,GC O P C L x↔HD O P C D 0 x:=by
 have hs:=HD.sub s F hC ok q O.length 0 (by omega);intro x;constructor
 .intro hx;refine hx _ hs ((h _ hs).1 λd b hb=>?_);have hd:d<O.length:=by
   rw[<-ok.len];rcases Nat.lt_or_ge d D.length with h|h
   .exact h
   .rw[List.getElem?_eq_none h]at hb;cases hb
  have:=HD.row s F ok hb hd
  exact⟨this.1.mono (Nat.zero_le _),this.2⟩
 .intro hx N hN hl;exact(hx.2.iff F hN ((h N hN).2 hl)).2 hN.one
structure CanD(O:L3)(P:L4)(C:L5)(D:List (Option L3))(u:L4):Prop where
 one:∀v∈u,gS O v/\dep v<O.length/\at_ v (dep v)=1
 asc:u.Pairwise λa b=>dep a<dep b
 red:∀v∈u,∀w∈u,dep v≠dep w->at_ v (dep w)=0
 all:∀(d:Nat) (y:L3),D[d]? = some (some y)->∃v∈u,dep v=d
 len:u.length<=O.length
 iff:∀N,gB O P C N->((∀x∈u,N x)↔InD N D)
theorem CanD.can(s:Shp O P C)(F:Full O P C O.length)(hC:Cent O C)(ok:OkD O D)(q:QI O P C D [])(cd:CanD O P C D u)(h:∀N,gB O P C N->(InD N D↔∀l∈L,N l)):CanG O (GC O P C L) u:=
 ⟨cd.asc,λv hv N hN hl=>(cd.iff N hN).2 ((h N hN).2 hl) v hv,cd.one,cd.red,λx hx hd=>by
  obtain⟨b,hb⟩:=HD.fil s F ((GC.table s F hC ok q h x).1 hx) hd;exact cd.all _ b hb⟩
section
variable(s:Shp O P C)(F:Full O P C O.length)(hC:Cent O C)
include s F hC
theorem zR4(hb:gS O b)(k:Nat):∃j,gm O P C (pw (gm O P C) (zv O) b j) (pw (gm O P C) (zv O) b k)=zv O/\gm O P C (pw (gm O P C) (zv O) b k) (pw (gm O P C) (zv O) b j)=zv O:=by
 have M:=F.g.toMon;obtain⟨E,h1,h2⟩:=zKL s F hC hb;have e:pw (gm O P C) (zv O) b (E*k)=zv O:=by rw[M.pw_mul hb,h2,M.pw_e]
 have hle:k<=E*k:=Nat.le_mul_of_pos_left k h1;refine⟨E*k-k,?_,?_⟩
 .rw[<-M.pw_add hb,show E*k-k+k=E*k by omega,e]
 .rw[<-M.pw_add hb,show k+(E*k-k)=E*k by omega,e]
theorem Rdu.stepL(ok:OkD O D)(hb:D[d]? = some (some b))(hd:d<O.length)(hz:TT O d z)(h0:at_ z d≠0)(cU:TT O (d+1) (gm O P C (pw (gm O P C) (zv O) b k) z)):Rdu O P C D z (gm O P C (pw (gm O P C) (zv O) b k) z):=by
 have G:=F.g;have bS:gS O b:=(ok.row d b hb).1.mono (Nat.zero_le _);have zS:gS O z:=hz.mono (Nat.zero_le _);obtain⟨j,h1,h2⟩:=zR4 s F hC bS k;refine .left (j:=j) hd hb hz h0 cU ?_ (.refl _);rw[<-G.as (G.pw bS j) (G.pw bS k) zS,h1,G.l1 zS]
theorem Rdu.stepR(ok:OkD O D)(hb:D[d]? = some (some b))(hd:d<O.length)(hz:TT O d z)(h0:at_ z d≠0)(hw:gS O x)(hx:gm O P C x (pw (gm O P C) (zv O) b k)=z)(dj:TT O (d+1) x):Rdu O P C D z x:=
 .right (j:=k) hd hb hz h0 dj hx.symm (.refl _)
end
end Go.Grp
namespace Go.Proofs
open Go.Ab Go.Lie Go.Grp
variable{U:PHeap}{K:PV->PHeap->Prop}{O:L3}{P:L4}{C:L5}{vO vP vC vx va:PV}{x y a:L3}{rb:List PV}{D:List (Option L3)}{d sp ss sb n:Nat}
structure SeqG(U:PHeap)(ss sb sp:Nat)(n:Nat)(rb:List PV)(vO vP vC:PV):Prop where
 obj:U.obj ss=some [.ptr sp 0,.sl sb 0 n (.known n)]
 lt:ss<U.next
 bobj:U.obj sb=some rb
 blt:sb<U.next
 pg:PtrG U sp vO vP vC
 ne1:ss≠sb
 ne2:sp≠sb
theorem SeqG.keep{h:PHeap}(q:SeqG U ss sb sp n rb vO vP vC)(hk:Keep U h):SeqG h ss sb sp n rb vO vP vC:=
 ⟨by rw[hk.obj _ q.lt];exact q.obj,Nat.lt_of_lt_of_le q.lt hk.next,by rw[hk.obj _ q.blt];exact q.bobj,Nat.lt_of_lt_of_le q.blt hk.next,q.pg.keep hk,q.ne1,q.ne2⟩
theorem SeqG.setB(q:SeqG U ss sb sp n rb vO vP vC)(rb':List PV):SeqG (U.set sb rb') ss sb sp n rb' vO vP vC:=
 ⟨by rw[zI,if_neg q.ne1];exact q.obj,q.lt,by rw[zI,if_pos rfl],q.blt,q.pg.set q.ne2 _,q.ne1,q.ne2⟩
def DRow(n:Nat)(c:PV)(r:Option L3):Prop:=(c=.fz true .nils 0 []/\r=none)\/∃o cap y,c=.fz true (.sl o 0 n cap) n (pis y)/\r=some y
theorem DRow.bel{c:PV}{r:Option L3}(h:DRow n c r):Bel 0 c:=by
 rcases h with ⟨rfl,_⟩|⟨_,_,_,rfl,_⟩<;>trivial
theorem DRow.bels{rb:List PV}{D:List (Option L3)}(h:All2 (DRow n) rb D)(m:Nat):Bels m rb:=by
 refine zE8.2 λc hc=>?_;obtain⟨k,hk,rfl⟩:=List.mem_iff_getElem.1 hc;exact(DRow.bel (h.2 k _ _ (List.getElem?_eq_getElem hk) (List.getElem?_eq_getElem (by rw[<-h.1];exact hk)))).up (Nat.zero_le _)
theorem DRow.get{rb:List PV}{D:List (Option L3)}(h:All2 (DRow n) rb D){d:Nat}(hd:d<D.length):(rb[d]? = some (.fz true .nils 0 [])/\D[d]? = some none)\/∃o cap y,rb[d]? = some (.fz true (.sl o 0 n cap) n (pis y))/\D[d]? = some (some y):=by
 have hb:d<rb.length:=by rw[h.1];exact hd
 rw[List.getElem?_eq_getElem hb,List.getElem?_eq_getElem hd];rcases h.2 d _ _ (List.getElem?_eq_getElem hb) (List.getElem?_eq_getElem hd)with ⟨e1,e2⟩|⟨o,cap,y,e1,e2⟩
 .exact .inl ⟨by rw[e1],by rw[e2]⟩
 .exact .inr ⟨o,cap,y,by rw[e1],by rw[e2]⟩
theorem DRow.put{rb:List PV}{D:List (Option L3)}(h:All2 (DRow n) rb D){o d:Nat}{cap:Cap}:All2 (DRow n) (rb.set d (.fz true (.sl o 0 n cap) n (pis y))) (D.set d (some y)):=by
 refine⟨by rw[List.length_set,List.length_set];exact h.1,λk c r hc hr=>?_⟩;rw[List.getElem?_set]at hc hr;by_cases e:d=k
 .rw[if_pos e]at hc hr;split at hc
  .split at hr
   .cases hc;cases hr;exact .inr ⟨o,cap,y,rfl,rfl⟩
   .cases hr
  .cases hc
 .rw[if_neg e]at hc hr;exact h.2 k c r hc hr
theorem zOZ(s:Shp O P C)(F:Full O P C O.length)(hn:0<O.length)(hs:PtrG U sp vO vP vC)(hR:IsPr vO vP vC O P C)(ha:gS O a)(fe:FI va a){k:Int}(df:0<=k/\k<=1000000)(hk:∀o cap,K (.fz true (.sl o 0 O.length cap) O.length (pis (Grp.pw (gm O P C) (zv O) a k.toNat))) U):
  zA Tryz.prog 158 [.ptr sp 0,va,.int .i64 k] U K:=by
 have hlen:=(F.g.pw ha k.toNat).len;refine zA.gh (zHk s F hs hR (by rw[Nat.sub_self];exact ha) fe df ⟨λh0=>?_,λcap hc=>?_⟩)
 .rw[h0]at hlen;simp at hlen;omega
 .rw[hlen]at hc ⊢;exact Gh.finF (zD U _) (by simp[PHeap.new]) (vM _) (zO _ _) hc.ok λo=>hk o cap
theorem zQB(s:Shp O P C)(F:Full O P C O.length)(hC:Cent O C)(hq:SeqG U ss sb sp O.length rb vO vP vC)(hR:IsPr vO vP vC O P C)(hD:OkD O D)(cu:All2 (DRow O.length) rb D)(hx:gS O x)(aY:FI vx x)
  (hk:∀v z,FI v z->gS O z->(dep z<O.length->D[dep z]? = some none)->Rdu O P C D x z->K v U):zA Tryz.prog 279 [.ptr ss 0,vx] U K:=by
 have aW:=s.le;obtain⟨wx,ax,rfl⟩:=aY;have aV:=hx.len;have r0:U.rd1 ss 0=some (.ptr sp 0):=by rw[zG hq.obj];rfl
 have r1:U.rd1 ss 1=some (.sl sb 0 O.length (.known O.length)):=by rw[zG hq.obj];rfl
 have aH:=hR;obtain⟨⟨w0,a0,rfl⟩,_,_⟩:=hR;have e0:U.rd1 sp 0=some (.fz w0 a0 O.length (pis O)):=by rw[zG hq.pg.obj];rfl
 refine zP mix Tryz.func279 cf279 rfl ?_;dsimp only[if279,qD,eD,mI0,lI0,xI0,bI0,cI0,sI0,C1,mD0,lD0,fD0,xD0,pD0,G0,gm0,aI0,zI0,R0,S0];simp only[Z3,seval,-ae];refine Qe rfl (by omega) ?_;simp only[Z3,seval,-ae];refine zF (λm vs h'=>∃z w a,m=O.length-dep z/\vs=[.ptr ss 0,.fz w a O.length (pis z),.int .i64 (dep z)]/\U=h'/\gS O z/\Rdu O P C D x z) _ ⟨x,wx,ax,rfl,by rw[aV];rfl,rfl,hx,.refl _⟩ ?_
 rintro m vs h' ⟨z,w,a,rfl,rfl,rfl,hz,hN⟩
 have eQ:=hz.len;by_cases hd:dep z<O.length
 .have bg:=zG hq.bobj (dep z);have hdz:dep z<z.length:=by omega
  have bz:=hz.bd _ hd;have bO:=s.pr _ hd;rw[at_eq hdz]at bz;rw[at_eq hd]at bz bO;rcases DRow.get cu (d:=dep z) (by rw[hD.len];exact hd)with ⟨e1,e2⟩|⟨o,cap,y,e1,e2⟩
  .rw[e1]at bg;simp only[Z3,seval,-ae,hd,r1,bg];exact hk _ z ⟨w,a,by rw[eQ]⟩ hz (λ_=>e2) hN
  .rw[e1]at bg;obtain⟨y1,y2⟩:=hD.row _ _ e2;have ew:IntKind.i64.wrap (O[dep z] - z[dep z])=O[dep z] - z[dep z]:=wrap64 (by omega) (by omega);simp only[Z3,seval,-ae,hd,r0,r1,bg,e0,zL,gi hd,gi hdz,ew];refine zEh s F hq.pg aH (by rw[Nat.sub_self];exact y1.mono (Nat.zero_le _)) ⟨true,_,by rw[y1.len]⟩ (by omega) λv1 f1=>?_;simp only[Z3,seval,-ae,hd,r0,r1,bg,e0];have g1:gS O (Grp.pw (gm O P C) (zv O) y (O[dep z] - z[dep z]).toNat):=F.g.pw (y1.mono (Nat.zero_le _)) _;refine zCG s F hq.pg aH (by rw[Nat.sub_self];exact g1) (by rw[Nat.sub_self];exact hz) f1 ⟨w,a,by rw[eQ]⟩ λv2 f2=>?_;have cA:=zMG s F hC hd (zCL hz) y1 y2;rw[at_eq hd,at_eq hdz]at cA;have cK:gS O (mu O P C O.length (Grp.pw (mu O P C O.length) (zv O) y (O[dep z] - z[dep z]).toNat) z):=F.g.cl g1 hz;have fT:at_ z (dep z)≠0:=Zg (by omega);have tf:Rdu O P C D x (mu O P C O.length (Grp.pw (mu O P C O.length) (zv O) y (O[dep z] - z[dep z]).toNat) z):=hN.trans (Rdu.stepL s F hC hD e2 hd (zCL hz) fT cA);have pd:TT O (dep z+1) (mu O P C O.length (Grp.pw (mu O P C O.length) (zv O) y (O[dep z] - z[dep z]).toNat) z):=cA;generalize mu O P C O.length (Grp.pw (mu O P C O.length) (zv O) y (O[dep z] - z[dep z]).toNat) z=z' at *
   have aF:=zAS pd (by omega);have aX:=cK.len;have h0:z'[dep z]'(by omega)=0:=by
    have:=pd.zero (dep z) (Nat.lt_succ_self _)
    rwa[at_eq (by omega)]at this
   obtain⟨w2,a2,rfl⟩:=f2;simp only[Z3,seval,-ae,aX,hd,zL,gi (show dep z<z'.length by omega),h0];refine Qe aX.symm (by omega) ?_;simp only[Z3,seval,-ae];exact⟨_,by omega,z',w2,a2,rfl,rfl,cK,tf⟩
 .have dh:dep z=O.length:=by have:=QR z;omega
  simp only[Z3,seval,-ae,dh,Nat.lt_irrefl];exact hk _ z ⟨w,a,by rw[eQ]⟩ hz (λh=>by omega) hN
end Go.Proofs
namespace Go.Proofs
open Go.Ab Go.Lie Go.Grp
variable{U:PHeap}{K:PV->PHeap->Prop}{O:L3}{P:L4}{C:L5}{vO vP vC vx vy vL:PV}{x y a b:L3}{L:L4}{rb:List PV}{D:List (Option L3)}{d sp ss sb:Nat}
theorem Keep.self{rb:List PV}{h:PHeap}(hb:U.obj sb=some rb)(k:Keep U h):Keep (U.set sb rb) h:=⟨k.next,k.top,λt ht=>by
 rw[k.obj t ht,zI];split
 .rename_i e;rw[e];exact hb
 .rfl⟩
theorem Gh.finB{σ0 σ1:PHeap}{rb:List PV}{v:PV}(xQ:sb<σ0.next)(hk:Keep (σ0.set sb rb) σ1)(hb:Bels 0 rb)(hv:Bel σ0.next v)(k:K v (σ0.set sb rb)):Gh σ0 K v σ1:=λw=>
 Gh.cut (σ2:=σ0.set sb rb) rfl hk.top (λt cs ht=>by
  have ag:t<σ0.next:=by
   rw[zI]at ht;split at ht
   .rename_i e;rw[e];exact xQ
   .exact w.lt ht
  refine⟨ag,by rw[hk.obj t ag];exact ht,?_⟩;rw[zI]at ht;split at ht
  .cases ht;exact .inr (hb.up (Nat.zero_le _))
  .exact .inl ht) hv k w
theorem zHG(s:Shp O P C)(F:Full O P C O.length)(hs:PtrG U sp vO vP vC)(hR:IsPr vO vP vC O P C)(hx:gS O x)(hy:gS O y)(aY:FI vx x)(fN:FI vy y)(hk:∀v,FI v (gcom O P C x y)->K v U):
  zA Tryz.prog 235 [.ptr sp 0,vx,vy] U K:=by
 have G:=F.g;have up:∀{z:L3},gS O z->TT O (O.length-O.length) z:=λh=>by rw[Nat.sub_self];exact h
 have dn:∀{z:L3},TT O (O.length-O.length) z->gS O z:=λh=>by rw[Nat.sub_self]at h;exact h
 refine zB mix Tryz.func235 ?_
 conv=>arg 2;cbv
 refine zC rfl ?_;simp only[Z3,seval,-ae];refine zGl s F hs hR (up hx) aY λv1 z1 h1 e1 f1=>?_;simp only[Z3,seval,-ae];refine zBp s F hs hR (up hx) (up hy) aY fN λv2 z2 h2 e2 f2=>?_;simp only[Z3,seval,-ae];refine zCG s F hs hR h1 h2 f1 f2 λv3 f3=>?_;simp only[Z3,seval,-ae];have e:mu O P C O.length z1 z2=gcom O P C x y:=by
  refine G.com_eq hx hy (G.cl (dn h1) (dn h2)) ?_;have i1:z1=ginv (gS O) (gm O P C) (zv O) x:=G.inv_eq hx (dn h1) e1;show gm O P C (gm O P C y x) (gm O P C z1 z2)=gm O P C x y;have Ao:gm O P C x (gm O P C z1 z2)=z2:=by rw[<-G.as hx (dn h1) (dn h2),show gm O P C x z1=zv O from e1,G.l1 (dn h2)]
  rw[G.as hy hx (G.cl (dn h1) (dn h2)),Ao];exact e2
 rw[e]at f3;exact hk v3 f3
theorem zSO(s:Shp O P C)(F:Full O P C O.length)(hC:Cent O C)(hp:∀o∈O,isP o)(hq:SeqG U ss sb sp O.length rb vO vP vC)(hR:IsPr vO vP vC O P C)(hD:OkD O D)(cu:All2 (DRow O.length) rb D)(rR:QI O P C D [])(hL:FII vL L)(hg:∀x∈L,gS O x)(rX:L.length<=1000000)
  (hk:∀(t:Bool) rb' D',All2 (DRow O.length) rb' D'->OkD O D'->QI O P C D' []->(∀N,gB O P C N->(InD N D'↔(InD N D/\∀q∈L,N q)))->free D'<=free D->(t=true->free D'<free D)->K (.bool t) (U.set sb rb')):
  zA Tryz.prog 194 [.ptr ss 0,vL] U K:=by
 have aW:=s.le;have vD:=zBP D;rw[hD.len]at vD;have G:=F.g;have up:∀{z:L3},gS O z->TT O (O.length-O.length) z:=λh=>by rw[Nat.sub_self];exact h
 obtain⟨wl,al,rl,rfl,aR⟩:=hL;have aH:=hR;obtain⟨⟨w0,a0,rfl⟩,_,_⟩:=hR;refine zA.gh ?_;refine zP mix Tryz.func194 cf194 rfl ?_;dsimp only[if194,qI,eI,qD,eD,mI0,kI0,tI0,lI0,fI0,xI0,bI0,cI0,sI0,pI0,C1,C2,C3,mD0,lD0,fD0,xD0,pD0,I0,yI0,vI0,R0,S0];simp only[Z3,seval,-ae];refine zE7 aR.1 (aR.bI 0) (by omega) λvQ h1 k1 q1=>?_;simp only[Z3,seval,-ae];refine zF (λm vs h'=>∃g Q vQ rb' D' rq,m=10*free D'+Q.length/\vs=[.ptr ss 0,.bool g,vQ]/\Keep (U.set sb rb') h'/\PQ U.next h' vQ Q.length rq/\All2 FI rq Q/\(∀x∈Q,gS O x)/\All2 (DRow O.length) rb' D'/\OkD O D'/\QI O P C D' Q/\(∀N,gB O P C N->((InD N D'/\∀q∈Q,N q)↔(InD N D/\∀q∈L,N q)))/\free D'<=free D/\(g=true->free D'<free D)/\Q.length+10*free D'<=L.length+10*free D) (10*free D+L.length) ?_ ?_
 .exact⟨false,L,vQ,rb,D,rl,rfl,rfl,Keep.self hq.bobj k1,q1,aR,hg,cu,hD,rR.mem (λq hq=>by cases hq),λN _=>Iff.rfl,vM _,by simp,vM _⟩
 clear k1 q1 vQ h1
 as_aux_lemma=>
 rintro m vs h' ⟨g,Q,vQ,rb',D',rq,rfl,rfl,aq,nO,fW,qT,fX,jv,wK,hS,yd,yc,hb⟩
 have cJ:=(hq.setB rb').keep aq;cases Q with
 |nil=>
  have hlen:pLen vQ=some (.int .i64 0):=nO.pLen;simp only[Z3,seval,-ae,hlen];exact Gh.finB hq.blt aq (DRow.bels fX 0) trivial (hk g rb' D' fX jv wK (λN hN=>⟨λh=>(hS N hN).1 ⟨h,λq hq=>(by cases hq)⟩,λh=>((hS N hN).2 h).1⟩) yd yc)
 |cons x Q=>
  have hlen:=nO.pLen;obtain⟨c,dx,rfl,hc,fj⟩:∃c dx,rq=c::dx/\FI c x/\All2 FI dx Q:=by
   cases rq with
   |nil=>exact absurd fW.1 (by simp)
   |cons c dx=>exact⟨c,dx,rfl,fW.2 0 c x rfl rfl,⟨by simpa using fW.1,λk a b ha hb=>fW.2 (k+1) a b (by simpa using ha) (by simpa using hb)⟩⟩
  obtain⟨sq,off,cap,kM,rfl,bg,aD,gV,kY⟩:=nO.uncons;have l9:=hc;obtain⟨w4,a4,rfl⟩:=hc;have hx:=qT x (by simp);have jV:∀q∈Q,gS O q:=λq hq=>qT q (List.mem_cons_of_mem _ hq);have vA:=zBP D';rw[jv.len]at vA;simp only[List.length_cons]at hlen gV kY aD hb ⊢;have fO:(0:Int)<((Q.length+1:Nat):Int):=by omega
  rw[Nat.add_sub_cancel]at kY;simp only[Z3,seval,-ae,hlen,fO,aD,bg,gV];refine zQB s F hC cJ aH jv fX hx l9 λvz z fz gz dz cK=>?_;obtain⟨wz,az,rfl⟩:=fz;have eQ:=gz.len;simp only[Z3,seval,-ae,hlen,fO,aD,bg,gV];refine Qe rfl (by omega) ?_;by_cases hd:dep z<O.length;rotate_left
  .have dh:dep z=O.length:=by have:=QR z;omega
   have fT:=zIc gz (by omega);simp only[Z3,seval,-ae,eQ,dh];refine⟨_,?_,g,Q,kM,rb',D',dx,rfl,rfl,aq,kY,fj,jV,fX,jv,wK.drop (by rw[<-fT];exact cK),λN hN=>?_,yd,yc,by omega⟩
   .omega
   .rw[<-hS N hN];refine⟨λ⟨h1,h2⟩=>⟨h1,λq hq=>?_⟩,λ⟨h1,h2⟩=>⟨h1,λq hq=>h2 q (List.mem_cons_of_mem _ hq)⟩⟩;rcases List.mem_cons.1 hq with rfl|hq
    .rw[cK.iff F hN h1,fT];exact hN.one
    .exact h2 q hq
  have hdz:dep z<z.length:=by omega
  have rU:=hp _ (List.getElem_mem hd);have bO:=rU.bd;have bz:=gz.bd _ hd;have nz:=Zg hdz;rw[at_eq hdz]at bz nz;rw[at_eq hd]at bz;have dh:((dep z:Int)=(z.length:Int))=False:=by simp;omega
  have rr:∀{h:PHeap},SeqG h ss sb sp O.length rb' (.fz w0 a0 O.length (pis O)) vP vC->h.rd1 ss 0=some (.ptr sp 0)/\h.rd1 ss 1=some (.sl sb 0 O.length (.known O.length))/\h.rd1 sp 0=some (.fz w0 a0 O.length (pis O)):=λq=>⟨by rw[zG q.obj];rfl,by rw[zG q.obj];rfl,by rw[zG q.pg.obj];rfl⟩
  obtain⟨r0,r1,e0⟩:=rr cJ;simp only[Z3,seval,-ae,hd,dh,r0,e0,zL,gi hdz,gi hd,hdz];refine zA9 rU ⟨by omega,bz.2⟩ λq qb q1 q2 q3=>?_;simp only[Z3,seval,-ae,hd,dh,r0,e0,zL,gi hdz,gi hd,hdz];refine PQ.push (bytes:=24) (σb:=U.set sb rb') aq kY (by omega) (by omega) λv1 h1 k1 p1=>?_;have pF:=(hq.setB rb').keep k1;obtain⟨s0,s1,f0⟩:=rr pF;simp only[Z3,seval,-ae,s0,s1,f0];refine zOZ s F (by omega) pF.pg aH gz ⟨wz,az,rfl⟩ (k:=q) (by omega) λoy ku=>?_;obtain⟨y1,y2⟩:=zAb s F hC hd (zCL gz) q.toNat;have jA:at_ (Grp.pw (gm O P C) (zv O) z q.toNat) (dep z)=1:=by
   rw[y2,at_eq hdz,at_eq hd,Int.toNat_of_nonneg q1,Int.mul_comm];exact q3
  have wN:∀N,gB O P C N->N z->N (Grp.pw (gm O P C) (zv O) z q.toNat):=λN hN h=>hN.pw h _;generalize Grp.pw (gm O P C) (zv O) z q.toNat=y at *
  have yS:gS O y:=y1.mono (Nat.zero_le _);have gk:=yS.len;simp only[Z3,seval,-ae,s0,s1,f0,zL,gi hd,hd];refine zEh s F pF.pg aH (up yS) ⟨true,.sl oy 0 O.length ku,by rw[gk]⟩ (k:=O[dep z]) (by omega) λvo fo=>?_;have Cr:=fo;obtain⟨wo,ao,rfl⟩:=fo;simp only[Z3,seval,-ae,s0,s1,f0,zL,gi hd,hd];refine PQ.push (bytes:=24) (σb:=U.set sb rb') k1 p1 (by omega) (by omega) λv2 h2 k2 p2=>?_;have nP:=(hq.setB rb').keep k2;obtain⟨t0,t1,g0⟩:=rr nP;have xc:gS O (Grp.pw (gm O P C) (zv O) y O[dep z].toNat):=G.pw yS _;have r8:FI (.fz wz az z.length (pis z)) z:=⟨wz,az,rfl⟩;have uD:All2 FI ((dx++[.fz wz az z.length (pis z)])++[.fz wo ao _ (pis (Grp.pw (gm O P C) (zv O) y O[dep z].toNat))]) ((Q++[z])++[Grp.pw (gm O P C) (zv O) y O[dep z].toNat]):=(fj.snoc r8).snoc Cr;have nh:∀q∈(Q++[z])++[Grp.pw (gm O P C) (zv O) y O[dep z].toNat],gS O q:=λq hq=>by
   rcases List.mem_append.1 hq with hq|hq
   .rcases List.mem_append.1 hq with hq|hq
    .exact jV q hq
    .rw[List.mem_singleton.1 hq];exact gz
   .rw[List.mem_singleton.1 hq];exact xc
  simp only[Z3,seval,-ae,t0,t1,g0];generalize kh:(Q++[z])++[Grp.pw (gm O P C) (zv O) y O[dep z].toNat]=Q2 at *
  have nu:Q2.length=Q.length+1+1:=by rw[<-kh];simp
  have uV:z∈Q2:=by rw[<-kh];simp
  have uX:∀q∈Q,q∈Q2:=λq hq=>by rw[<-kh];simp[hq]
  have lY:Grp.pw (gm O P C) (zv O) y O[dep z].toNat∈Q2:=by rw[<-kh];simp
  have ko:∀N,gB O P C N->N y->((∀q∈Q2,N q)↔(∀q∈Q,N q)/\N z):=λN hN hy=>by
   rw[<-kh];refine⟨λh=>⟨λq hq=>h q (by simp[hq]),h z (by simp)⟩,λ⟨h3,h4⟩ q hq=>?_⟩;rcases List.mem_append.1 hq with hq|hq
   .rcases List.mem_append.1 hq with hq|hq
    .exact h3 q hq
    .rw[List.mem_singleton.1 hq];exact h4
   .rw[List.mem_singleton.1 hq];exact hN.pw hy _
  generalize (dx++[PV.fz wz az z.length (pis z)])++[.fz wo ao _ (pis (Grp.pw (gm O P C) (zv O) y O[dep z].toNat))]=yV at *
  rw[<-nu]at p2;refine zF (λm us h3=>∃(i:Nat) (vQ:PV) (E:L4) (re:List PV),i<=O.length/\m=O.length-i/\us=[.ptr ss 0,.bool true,vQ,.fz true (.sl oy 0 O.length ku) O.length (pis y),.int .i64 (dep z),.sl sb 0 O.length (.known O.length),.int .i64 O.length,.int .i64 i]/\Keep (U.set sb rb') h3/\PQ U.next h3 vQ (Q2++E).length re/\All2 FI re (Q2++E)/\(∀q∈E,gS O q)/\E.length<=i/\(∀(e:Nat) (b:L3),e<i->D'[e]? = some (some b)->gcom O P C b y∈E)/\∀N,gB O P C N->InD N D'->N y->∀q∈E,N q) O.length ?_ ?_
  .exact⟨0,v2,[],_,by omega,by omega,rfl,k2,by rw[List.append_nil];exact p2,by rw[List.append_nil];exact uD,λq hq=>(by cases hq),vM _,λe b h=>(by omega),λN _ _ _ q hq=>(by cases hq)⟩
  clear k2 p2 v2 h2 nP t0 t1 g0
  as_aux_lemma=>
  rintro m us h3 ⟨i,vQ,E,re,hi,rfl,rfl,k3,p3,lS,l7,B8,ma,mh⟩
  have jk:=(hq.setB rb').keep k3;obtain⟨t0,t1,g0⟩:=rr jk;simp only[Z3,seval,-ae];refine iteI (λag=>?_) λaF=>?_;rotate_left
  .have iu:dep z<rb'.length:=by rw[fX.1,jv.len];exact hd
   have iW:h3.wr sb (dep z) [.fz true (.sl oy 0 O.length ku) O.length (pis y)]=some (h3.set sb (rb'.set (dep z) (.fz true (.sl oy 0 O.length ku) O.length (pis y)))):=by
    rw[Z9 jk.bobj,if_pos ⟨by rw[List.length_singleton];omega,rfl⟩,List.append_assoc,List.singleton_append,List.length_singleton,take_set _ iu]
   simp only[Z3,seval,-ae,t1,hd,iW];have ez:D'[dep z]? = some none:=dz hd;have dr:=zEr (y:=y) ez;refine⟨_,?_,true,Q2++E,vQ,_,D'.set (dep z) (some y),re,rfl,rfl,?_,?_,lS,?_,DRow.put (o:=oy) (cap:=ku) fX,jv.put hd y1 jA,wK.put cK ez (by simp[uV]) (λq hq=>by simp[uX q hq]) (by rw[at_eq hd];simp[lY]) (λe b hb=>.inl (by
    have:=ma e b (by
     rcases Nat.lt_or_ge e D'.length with h|h
     .have:=jv.len;omega
     .rw[List.getElem?_eq_none h]at hb;cases hb) hb
    simp[this])),λN hN=>?_,by omega,λ_=>by omega,?_⟩
   .simp only[List.length_append];omega
   .exact⟨k3.next,k3.top,λt ht=>by
     rw[zI,zI];split
     .rfl
     .rename_i e
      have:=k3.obj t ht
      rw[zI,if_neg e]at this;exact this⟩
   .exact p3.set hq.blt _
   .intro q hq;rcases List.mem_append.1 hq with hq|hq
    .exact nh q hq
    .exact l7 q hq
   .rw[<-hS N hN,InD.put ez];constructor
    .rintro⟨⟨g1,g2⟩,g3⟩
     obtain⟨g4,g5⟩:=(ko N hN g2).1 λq hq=>g3 q (by simp[hq]);refine⟨g1,λq hq=>?_⟩;rcases List.mem_cons.1 hq with rfl|hq
     .exact(cK.iff F hN g1).2 g5
     .exact g4 q hq
    .rintro⟨g1,g2⟩
     have r7:=(cK.iff F hN g1).1 (g2 x (by simp));have gy:=wN N hN r7;refine⟨⟨g1,gy⟩,λq hq=>?_⟩;rcases List.mem_append.1 hq with hq|hq
     .exact(ko N hN gy).2 ⟨λq hq=>g2 q (List.mem_cons_of_mem _ hq),r7⟩ q hq
     .exact mh N hN g1 gy q hq
   .simp only[List.length_append];omega
  have aG:i<O.length:=by omega
  have dC:=zG jk.bobj i;rcases DRow.get fX (d:=i) (by rw[jv.len];exact aG)with ⟨e1,e2⟩|⟨oo,cap,b,e1,e2⟩
  .rw[e1]at dC;simp only[Z3,seval,-ae,aG,dC,wrapS aG (by omega:O.length<=4611686018427387904)];refine⟨_,by omega,i+1,vQ,E,re,by omega,rfl,rfl,k3,p3,lS,l7,by omega,λe b h1 h2=>?_,mh⟩;rcases Nat.lt_or_ge e i with h|h
   .exact ma e b h h2
   .rw[show e=i by omega,e2]at h2;cases h2
  .rw[e1]at dC;have bS:gS O b:=(jv.row _ _ e2).1.mono (Nat.zero_le _);simp only[Z3,seval,-ae,aG,dC,t0];refine zHG s F jk.pg aH bS yS ⟨true,_,by rw[bS.len]⟩ ⟨true,_,by rw[gk]⟩ λvc fc=>?_;have Cu:=fc;obtain⟨wc,ac,rfl⟩:=fc;simp only[Z3,seval,-ae];refine PQ.push (bytes:=24) (σb:=U.set sb rb') k3 p3 (by rw[List.length_append];omega) (by rw[List.length_append];omega) λv4 h4 k4 p4=>?_;simp only[Z3,seval,-ae,wrapS aG (by omega:O.length<=4611686018427387904)];refine⟨_,by omega,i+1,v4,E++[gcom O P C b y],re++[.fz wc ac (gcom O P C b y).length (pis (gcom O P C b y))],by omega,rfl,rfl,k4,?_,?_,?_,?_,?_,?_⟩;rotate_left
   .rw[<-List.append_assoc];exact lS.snoc Cu
   .intro q hq;rcases List.mem_append.1 hq with hq|hq
    .exact l7 q hq
    .rw[List.mem_singleton.1 hq];exact G.com_in bS yS
   .simp;omega
   .intro e b' h1 h2;rcases Nat.lt_or_ge e i with h|h
    .simp[ma e b' h h2]
    .rw[show e=i by omega,e2]at h2;cases h2;simp
   .intro N hN rZ hy q hq;rcases List.mem_append.1 hq with hq|hq
    .exact mh N hN rZ hy q hq
    .rw[List.mem_singleton.1 hq];exact hN.com_in (rZ _ _ e2) hy
   .rw[<-List.append_assoc,List.length_append,List.length_singleton];exact p4
end Go.Proofs
namespace Go.Proofs
open Go.Ab Go.Lie Go.Grp
variable{U:PHeap}{K:PV->PHeap->Prop}{O:L3}{P:L4}{C:L5}{vO vP vC vx vU:PV}{x z a b:L3}{u:L4}{j sp:Nat}
def Ones(O:L3)(u:L4):Prop:=∀v∈u,gS O v/\dep v<O.length/\at_ v (dep v)=1
theorem zO1{o z:Int}(ho:2<=o)(hz:0<=z/\z<o)(h0:z≠0):((o-(z+1) % o) % o).toNat<((o-z) % o).toNat:=by
 have e:(o-z) % o=o-z:=Int.emod_eq_of_lt (by omega) (by omega);rw[e];by_cases h:z+1=o
 .rw[h,Int.emod_self,Int.sub_zero,Int.emod_self];omega
 .rw[Int.emod_eq_of_lt (a:=z+1) (by omega) (by omega),Int.emod_eq_of_lt (by omega) (by omega)];omega
theorem zD6(s:Shp O P C)(F:Full O P C O.length)(hC:Cent O C)(hn:0<O.length)(hs:PtrG U sp vO vP vC)(hR:IsPr vO vP vC O P C)(hU:FII vU u)(hu:Ones O u)(jh:u.Pairwise λa b=>dep a<dep b)(c6:u.length<=1000)(hx:gS O x)(aY:FI vx x)
  (hk:∀o cap z,gS O z->(∀t,(∀v∈u,t<dep v)->∀j,j<=t->at_ z j=at_ x j)->(∀v∈u,at_ z (dep v)=0)->(∀N,gB O P C N->(∀v∈u,N v)->(N x↔N z))->K (.fz true (.sl o 0 O.length cap) O.length (pis z)) U):
  zA Tryz.prog 209 [.ptr sp 0,vU,vx] U K:=by
 have aW:=s.le;have aV:=hx.len;have gF:=hs.lt;obtain⟨wx,ax,rfl⟩:=aY;have wH:=hU;obtain⟨wl,al,rl,rfl,aR⟩:=hU;refine zA.gh ?_;refine zB mix Tryz.func209 ?_
 conv=>arg 2;cbv
 refine zC rfl ?_;simp only[Z3,seval,-ae];refine QO rfl (by omega) ⟨λh0=>absurd aV (by rw[h0];simp;omega),λcap hc=>?_⟩;rw[aV]at hc ⊢;simp only[Z3,seval,-ae];refine zDO wH (λv hv=>⟨by rw[(hu v hv).1.len];exact(hu v hv).2.1,by rw[(hu v hv).1.len];omega⟩) (by omega) λvp=>?_;simp only[Z3,seval,-ae];refine zF (λm vs h'=>∃(i:Nat) (z:L3),i<=u.length/\m=u.length-i/\vs=[.ptr sp 0,.fz wl al u.length rl,.sl U.next 0 O.length cap,.fz true vp u.length (pis (deps u)),.int .i64 u.length,.int .i64 i]/\h'=U.new (pis z)/\gS O z/\(∀t,(∀v∈u,t<dep v)->∀j,j<=t->at_ z j=at_ x j)/\(∀k (hk:k<u.length),k<i->at_ z (dep u[k])=0)/\(∀N,gB O P C N->(∀v∈u,N v)->(N x↔N z))) u.length ⟨0,x,by omega,by omega,rfl,rfl,hx,λ_ _ _ _=>rfl,λk _ h=>by omega,λ_ _ _=>Iff.rfl⟩ ?_
 rintro m vs h' ⟨i,z,hi,rfl,rfl,rfl,hz,hj,h0,hN⟩
 simp only[Z3,seval,-ae];refine iteI (λag=>?_) λaF=>?_;rotate_left
 .exact Gh.finF (zD U _) (by simp only[Z3,seval,-ae]) (vM _) (zO _ _) hc.ok λo=>hk o cap z hz hj (λv hv=>by
   obtain⟨k,dE,rfl⟩:=List.mem_iff_getElem.1 hv;exact h0 k dE (by omega)) hN
 obtain⟨w4,a4,hr⟩:=aR.rowI ag;obtain⟨u1,u2,u3⟩:=hu _ (List.getElem_mem ag);have eT:u[i]∈u:=List.getElem_mem ag;have pI:(deps u)[i]? = some (dep u[i]:Int):=by simp[deps,ag]
 simp only[Z3,seval,-ae,ag,zL,pI];refine zF (λm vs h'=>∃(z:L3),m=((at_ O (dep u[i])-at_ z (dep u[i])) % at_ O (dep u[i])).toNat/\vs=[.ptr sp 0,.fz wl al u.length rl,.sl U.next 0 O.length cap,.int .i64 i,.int .i64 (dep u[i]),.fz true vp u.length (pis (deps u)),.int .i64 u.length,.int .i64 i]/\h'=U.new (pis z)/\gS O z/\(∀t,(∀v∈u,t<dep v)->∀j,j<=t->at_ z j=at_ x j)/\(∀k (hk:k<u.length),k<i->at_ z (dep u[k])=0)/\(∀N,gB O P C N->(∀v∈u,N v)->(N x↔N z))) _ ⟨z,rfl,rfl,rfl,hz,hj,h0,hN⟩ ?_;clear hz hj hN h0 z
 rintro m vs h' ⟨z,rfl,rfl,rfl,hz,hj,h0,hN⟩
 have eQ:=hz.len;have hdz:dep u[i] < z.length:=by omega
 have bz:=hz.bd _ u2;have bO:=s.pr _ u2;simp only[Z3,seval,-ae,u2,pisAt hdz];refine iteI (λheq=>?_) λjL=>?_
 .simp only[Z3,seval,-ae,wrapS ag (by omega:u.length<=4611686018427387904)];refine⟨_,by omega,i+1,z,by omega,rfl,rfl,rfl,hz,hj,λk dE hk=>?_,hN⟩;rcases Nat.lt_or_ge k i with h|h
  .exact h0 k dE h
  .have e:k=i:=by omega
   subst e;exact heq
 .obtain⟨g1,g2,g3⟩:=zOJ s F hC u2 hz (zCL u1) u3;simp only[Z3,seval,-ae,ag,hr];refine Qx s F (hs.new _) hR (x:=z) (by simp only[Z3,seval,-ae]) (by simp only[Z3,seval,-ae]) (by omega) hc (by rw[Nat.sub_self];exact hz) (by rw[Nat.sub_self];exact u1) ⟨w4,a4,rfl⟩ ?_;simp only[Z3,seval,-ae];refine⟨_,?_,_,rfl,rfl,g1,λt ht j A2=>?_,λk dE hk=>?_,λN h1 h2=>(hN N h1 h2).trans ⟨λh=>h1.cl h (h2 _ eT),λh=>h1.quotR F.g (h2 _ eT) hz h⟩⟩
  .show((at_ O (dep u[i])-at_ (gm O P C z u[i]) (dep u[i])) % at_ O (dep u[i])).toNat<_
   rw[g3];exact zO1 bO.1 bz jL
  .show at_ (gm O P C z u[i]) j=_;rw[g2 j (by have:=ht _ eT;omega)];exact hj t ht j A2
  .show at_ (gm O P C z u[i]) (dep u[k])=0;rw[g2 _ (List.pairwise_iff_getElem.1 jh k i dE ag hk)];exact h0 k dE hk
end Go.Proofs
namespace Go.Proofs
open Go.Ab Go.Lie Go.Grp
variable{U:PHeap}{K:PV->PHeap->Prop}{O:L3}{P:L4}{C:L5}{vO vP vC vU:PV}{x y z a b:L3}{u:L4}{rb:List PV}{D:List (Option L3)}{d j sp ss sb n:Nat}
theorem zGL(s:Shp O P C)(hs:PtrG U sp vO vP vC)(hR:IsPr vO vP vC O P C)(hk:∀ss sb h',Keep U h'->U.next<=ss->U.next<=sb->SeqG h' ss sb sp O.length (List.replicate O.length (.fz true .nils 0 [])) vO vP vC->K (.ptr ss 0) h'):
  zA Tryz.prog 193 [.ptr sp 0] U K:=by
 have aW:=s.le;have gF:=hs.lt;obtain⟨⟨w0,a0,rfl⟩,_,_⟩:=hR;have e0:U.rd1 sp 0=some (.fz w0 a0 O.length (pis O)):=by rw[zG hs.obj];rfl
 refine zB mix Tryz.func193 ?_
 conv=>arg 2;cbv
 refine zC rfl ?_;simp only[Z3,seval,-ae,e0,mk24 (n:=O.length) (by omega),mkL (n:=O.length) (by omega)];exact hk (U.next+1) U.next _ ((zD U _).new _) (by omega) (vM _) ⟨by simp only[Z3,seval,-ae],by simp only[Z3,seval,-ae],by simp only[Z3,seval,-ae],by simp only[Z3,seval,-ae];omega,(hs.new _).new _,by omega,by omega⟩
theorem zIf(s:Shp O P C)(F:Full O P C O.length)(hC:Cent O C)(hq:SeqG U ss sb sp O.length rb vO vP vC)(hR:IsPr vO vP vC O P C)(hD:OkD O D)(cu:All2 (DRow O.length) rb D)
  (hk:∀v u,FII v u->CanD O P C D u->K v U):zA Tryz.prog 195 [.ptr ss 0] U K:=by
 have aW:=s.le;have r0:U.rd1 ss 0=some (.ptr sp 0):=by rw[zG hq.obj];rfl
 have r1:U.rd1 ss 1=some (.sl sb 0 O.length (.known O.length)):=by rw[zG hq.obj];rfl
 have hw:IntKind.i64.wrap ((O.length:Int)-1)=(O.length:Int)-1:=wrap64 (by omega) (by omega);refine zA.gh ?_;refine zB mix Tryz.func195 ?_
 conv=>arg 2;cbv
 refine zC rfl ?_;simp only[Z3,seval,-ae,r1,hw];refine zAY (λm vs h2=>∃(k:Nat) (vO:PV) (u:L4),k<=O.length/\m=k/\vs=[.ptr ss 0,vO,.int .i64 ((k:Int)-1)]/\Keep U h2/\FII vO u/\Ones O u/\u.length+k<=O.length/\(∀v∈u,k<=dep v)/\(u.Pairwise λa b=>dep a<dep b)/\(∀v∈u,∀w∈u,dep v≠dep w->at_ v (dep w)=0)/\(∀(d:Nat) (y:L3),k<=d->D[d]? = some (some y)->∃v∈u,dep v=d)/\(∀N,gB O P C N->((∀x∈u,N x)↔∀d y,k<=d->D[d]? = some (some y)->N y))) O.length (.here ⟨O.length,_,[],vM _,rfl,rfl,Keep.refl U,⟨_,_,_,rfl,All2.nil _⟩,λv hv=>(by cases hv),by simp,λv hv=>(by cases hv),List.Pairwise.nil,λv hv=>(by cases hv),λd y h1 h2=>?_,λN hN=>⟨λ_ d y h1 h2=>?_,λ_ x hx=>(by cases hx)⟩⟩) ?_
 .rw[List.getElem?_eq_none (by rw[hD.len];exact h1)]at h2;cases h2
 .rw[List.getElem?_eq_none (by rw[hD.len];exact h1)]at h2;cases h2
 rintro m vs h2 ⟨k,vU,u,cw,rfl,rfl,cf,hU,hu,c6,pb,jh,mP,j7,hN⟩
 rcases Nat.eq_zero_or_pos m with rfl|lY
 .simp only[Z3,seval,-ae,show ¬((0:Int)<=((0:Nat):Int)-1) by omega];exact Gh.fin0 cf (hU.bel _) (hk vU u hU ⟨hu,jh,mP,λd y hy=>j7 d y (Nat.zero_le _) hy,by omega,λN h1=>(hN N h1).trans ⟨λh d y hy=>h d y (Nat.zero_le _) hy,λh d y _ hy=>h d y hy⟩⟩)
 obtain⟨k,rfl⟩:∃k,m=k+1:=⟨m-1,by omega⟩
 have e:((k+1:Nat):Int)-1=(k:Int):=by omega
 have cH:k<O.length:=cw;have bg:=zG (hq.keep cf).bobj k;have yW:h2.rd1 ss 0=some (.ptr sp 0):=by rw[zG (hq.keep cf).obj];rfl
 have xv:h2.rd1 ss 1=some (.sl sb 0 O.length (.known O.length)):=by rw[zG (hq.keep cf).obj];rfl
 rw[e];have gl:IntKind.i64.wrap ((k:Int)-1)=(k:Int)-1:=wrap64 (by omega) (by omega);rcases DRow.get cu (d:=k) (by rw[hD.len];exact cH)with ⟨e1,e2⟩|⟨oo,cap,y,e1,e2⟩
 .rw[e1]at bg;simp only[Z3,seval,-ae,cH,xv,bg,gl];refine⟨_,Nat.lt_succ_self k,.here ⟨k,vU,u,by omega,rfl,rfl,cf,hU,hu,by omega,λv hv=>by have:=pb v hv;omega,jh,mP,λd y hd hy=>?_,λN h1=>(hN N h1).trans ⟨λh d y hd hy=>?_,λh d y hd hy=>h d y (by omega) hy⟩⟩⟩
  .rcases Nat.lt_or_ge k d with x|x
   .exact j7 d y x hy
   .rw[show d=k by omega,e2]at hy;cases hy
  rcases Nat.lt_or_ge k d with x|x
  .exact h d y x hy
  .rw[show d=k by omega,e2]at hy;cases hy
 .rw[e1]at bg;obtain⟨y1,y2⟩:=hD.row _ _ e2;have yS:gS O y:=y1.mono (Nat.zero_le _);simp only[Z3,seval,-ae,cH,yW,xv,bg,gl];refine zD6 s F hC (by omega) (hq.keep cf).pg hR hU hu jh (by omega) yS ⟨true,_,by rw[y1.len]⟩ λoz aU z zS z1 z0 z2=>?_;have za:∀j,j<=k->at_ z j=at_ y j:=z1 k λv hv=>pb v hv;have zt:TT O k z:=⟨zS.len,zS.bd,λj hj=>by rw[za j (by omega)];exact y1.zero j hj⟩
  have zk:at_ z k=1:=by rw[za k (vM _)];exact y2
  have eQ:=zS.len;have zd:dep z=k:=by
   have h1:=zAS zt (by omega);rcases Nat.lt_or_ge k (dep z)with h|h
   .rw[qF h]at zk;omega
   .omega
  obtain⟨wO,aO,rO,rfl,pC⟩:=hU;simp only[Z3,seval,-ae];refine PSl.cat (bytes:=24) (σb:=h2) (n:=1) (cs:=[.fz true (.sl oz 0 O.length aU) O.length (pis z)]) (zD h2 _) (PSl.new _ 1 rfl (vM _)) pC.1 (by omega) (by omega) λv3 h3 k3 a3=>?_;obtain⟨s3,iF,rfl,lD,pN,pY,jU,be⟩:=a3;have ah:All2 FI ([.fz true (.sl oz 0 O.length aU) O.length (pis z)]++rO) (z::u):=(All2.nil FI |>.snoc (⟨true,_,by rw[eQ]⟩:FI (.fz true (.sl oz 0 O.length aU) O.length (pis z)) z)).append pC;have AY:=cf.next;simp only[Z3,seval,-ae,gl];refine⟨k,Nat.lt_succ_self k,.fz s3 _ pN (ah.bI 0) λo1=>.here ⟨k,.fz true (.sl o1 0 (1+u.length) iF) (1+u.length) ([.fz true (.sl oz 0 O.length aU) O.length (pis z)]++rO),z::u,by omega,rfl,?_,(cf.trans k3).kill (by omega),⟨true,_,_,by rw[List.length_cons,Nat.add_comm],ah⟩,?_,by simp;omega,?_,?_,?_,?_,λN h1=>?_⟩⟩
  .simp[sbs,Go.Ab.sb,lD.ok]
  .intro v hv;rcases List.mem_cons.1 hv with rfl|hv
   .exact⟨zS,by omega,by rw[zd];exact zk⟩
   .exact hu v hv
  .intro v hv;rcases List.mem_cons.1 hv with rfl|hv
   .omega
   .have:=pb v hv;omega
  .rw[List.pairwise_cons];exact⟨λv hv=>by have:=pb v hv;omega,jh⟩
  .intro v hv w hw ai;rcases List.mem_cons.1 hv with ev|bX
   .rcases List.mem_cons.1 hw with ew|gl
    .rw[ev,ew]at ai;exact absurd rfl ai
    .rw[ev];exact z0 w gl
   .rcases List.mem_cons.1 hw with ew|gl
    .rw[ew];exact qF (by have:=pb v bX;omega)
    .exact mP v bX w gl ai
  .intro d y' hd hy;rcases Nat.lt_or_ge k d with x|x
   .obtain⟨v,hv,e⟩:=j7 d y' x hy;exact⟨v,List.mem_cons_of_mem _ hv,e⟩
   .exact⟨z,by simp,by omega⟩
  .have mH:(∀d y,k<=d->D[d]? = some (some y)->N y)↔(N y/\∀d y,k+1<=d->D[d]? = some (some y)->N y):=by
    refine⟨λh=>⟨h k y (vM _) e2,λd y hd hy=>h d y (by omega) hy⟩,λ⟨h3,h4⟩ d y' hd hy=>?_⟩;rcases Nat.lt_or_ge k d with x|x
    .exact h4 d y' x hy
    .rw[show d=k by omega,e2]at hy;cases hy;exact h3
   rw[mH,<-hN N h1,List.forall_mem_cons];refine⟨λ⟨h3,h4⟩=>⟨(z2 N h1 h4).2 h3,h4⟩,λ⟨h3,h4⟩=>⟨(z2 N h1 h4).1 h3,h4⟩⟩
end Go.Proofs
namespace Go.Proofs
open Go.Ab Go.Lie Go.Grp
variable{O:L3}{P:L4}{C:L5}{j:Nat}
theorem isCen.cent(s:Shp O P C)(h:isCen O C):Cent O C:=λi j jT hj=>by
 obtain⟨_,h2⟩:=h i (by omega);have hc:=s.cj i j jT hj;have h3:=h2 (j-i-1) (by omega);unfold cenE at h3;rw[show i+(1+(j-i-1))=j by omega]at h3;refine⟨⟨hc.len,hc.bd,λt ht=>?_⟩,h3.1⟩;have hl:t<(cvec C i j).length:=by rw[hc.len];omega
 rw[at_eq hl];exact h3.2 _ (by rw[List.mem_take_iff_getElem];exact⟨t,by omega,rfl⟩)
end Go.Proofs
namespace Go.Proofs
open Go.Ab Go.Lie Go.Grp
variable{O:L3}{P:L4}{C:L5}{j:Nat}
theorem Cons.full(s:Shp O P C)(hc:Cons O P C):Full O P C O.length:=full_of s (vM _) λj _ h=>hc j h
theorem QB.isp(h:QB O P C):∀o∈O,isP o:=h.2.2.2.1
end Go.Proofs
namespace Go.Proofs
open Go.Ab Go.Lie Go.Grp
variable{U:PHeap}{K:PV->PHeap->Prop}{O:L3}{P:L4}{C:L5}{vO vP vC vx:PV}{x:L3}{d:Nat}
structure LG(O:L3)(P:L4)(C:L5):Prop where
 pr:QB O P C
 co:Cons O P C
 ce:isCen O C
theorem LG.s(g:LG O P C):Shp O P C:=g.pr.shp
theorem LG.F(g:LG O P C):Full O P C O.length:=Cons.full g.s g.co
theorem LG.cent(g:LG O P C):Cent O C:=g.ce.cent g.s
theorem zGd{p:Int}:∀{O:L3},(∀o∈O,o=p)->prodL O=p ^ O.length
 |[],_=>by simp[prodL]
 |o::O,h=>by
  rw[prodL,zGd λo ho=>h o (List.mem_cons_of_mem _ ho),h o (by simp),List.length_cons,Int.pow_succ,Int.mul_comm]
theorem zGg(g:LG O P C)(hR:IsPr vO vP vC O P C)(hx:gS O x)(aY:FI vx x){k:Int}(df:0<=k/\k<=1000)(hk:∀v,FI v (Grp.pw (gm O P C) (zv O) x k.toNat)->K v U):
  zA Tryz.prog 182 [.agg [vO,vP,vC],vx,.int .i64 k] U K:=by
 have h0:=hR.O.one;have h1:=hR.P.one;have h2:=hR.C.one;have M:=g.F.g.toMon;have e7:¬k<0:=by omega
 refine zA.gh ?_;refine zB mix Tryz.func182 ?_
 conv=>arg 2;cbv
 refine zC rfl ?_;simp only[Z3,seval,-ae,h0,h1,h2,e7];refine zDX g.s (d:=O.length) (i:=0) (by omega) (zBj g.s (by omega)) M hR hx aY df λv hv=>?_;simp only[Z3,seval,-ae];exact Gh.fin0 (zD U _) (hv.bel _) (hk v hv)
end Go.Proofs
namespace Go.Grp
open Go.Ab Go.Lie
variable{O:L3}{P:L4}{C:L5}{x z a b g:L3}{t k d:Nat}
theorem Gp.pw_inv'{α:Type}[Inhabited α]{S:α->Prop}{m:α->α->α}{e z:α}(G:Gp S m e)(hz:S z)(k:Nat):Grp.pw m e (ginv S m e z) k=ginv S m e (Grp.pw m e z k):=by
 have iz:=(G.inv_in hz).1;refine G.inv_eq (G.pw hz k) (G.pw iz k) ?_
 induction k with
 |zero=>exact G.l1 G.one
 |succ k ih=>
  show m (m (Grp.pw m e z k) z) (m (Grp.pw m e (ginv S m e z) k) (ginv S m e z))=e;rw[G.pw_comm iz k,<-G.as (G.cl (G.pw hz k) hz) iz (G.pw iz k),G.as (G.pw hz k) hz iz,G.inv_r hz,G.r1 (G.pw hz k),ih]
section
variable(s:Shp O P C)(F:Full O P C O.length)(hC:Cent O C)
include s F hC
theorem zFF(ht:t<O.length)(hx:gS O x)(hb:TT O t b)(fQ:at_ b t=1):
  gS O (gm O P C x (pw (gm O P C) (zv O) (ginv (gS O) (gm O P C) (zv O) b) (at_ x t).toNat))/\gm O P C (gm O P C x (pw (gm O P C) (zv O) (ginv (gS O) (gm O P C) (zv O) b) (at_ x t).toNat)) (pw (gm O P C) (zv O) b (at_ x t).toNat)=x/\
  Upto O t (gm O P C x (pw (gm O P C) (zv O) (ginv (gS O) (gm O P C) (zv O) b) (at_ x t).toNat)) x/\at_ (gm O P C x (pw (gm O P C) (zv O) (ginv (gS O) (gm O P C) (zv O) b) (at_ x t).toNat)) t=0:=by
 have G:=F.g;have bS:gS O b:=hb.mono (Nat.zero_le _);have ib:=(G.inv_in bS).1;have bx:=hx.bd t ht;have pS:=G.pw bS (at_ x t).toNat;have qS:=G.pw ib (at_ x t).toNat;have hw:=G.cl hx qS;have e:gm O P C (gm O P C x (pw (gm O P C) (zv O) (ginv (gS O) (gm O P C) (zv O) b) (at_ x t).toNat)) (pw (gm O P C) (zv O) b (at_ x t).toNat)=x:=by
  rw[G.as hx qS pS,G.pw_inv' bS,G.inv_l pS,G.r1 hx]
 obtain⟨p1,p2⟩:=zAb s F hC ht hb (at_ x t).toNat;refine⟨hw,e,?_,?_⟩<;>generalize gm O P C x (pw (gm O P C) (zv O) (ginv (gS O) (gm O P C) (zv O) b) (at_ x t).toNat)=w at *
 .obtain⟨g1,g2⟩:=QA s (d:=O.length) (b:=w) (a:=pw (gm O P C) (zv O) b (at_ x t).toNat) (t:=t) (vM _) (by omega) ht (by rw[Nat.sub_self];exact hw) p1;have e':mu O P C O.length w (pw (gm O P C) (zv O) b (at_ x t).toNat)=x:=e;rw[e']at g1;exactλj hj=>(g1 j hj).symm
 .obtain⟨g1,g2⟩:=QA s (d:=O.length) (b:=w) (a:=pw (gm O P C) (zv O) b (at_ x t).toNat) (t:=t) (vM _) (by omega) ht (by rw[Nat.sub_self];exact hw) p1;have e':mu O P C O.length w (pw (gm O P C) (zv O) b (at_ x t).toNat)=x:=e;rw[e',p2,fQ,Int.mul_one,Int.toNat_of_nonneg bx.1,Int.emod_eq_of_lt bx.1 bx.2,zNw]at g2;exact zE3 bx (hw.bd t ht) g2.symm
end
end Go.Grp
namespace Go.Proofs
open Go.Ab Go.Lie Go.Grp
variable{O:L3}{x:L3}{j:Nat}
theorem isExp.gS(h:isExp O x):gS O x:=⟨h.1,λj hj=>by have:=h.2 j (by rw[h.1];exact hj);omega,λj hj=>by omega⟩
end Go.Proofs
