/- . -/
import Derived.Test.YtnfnaniemocleaaGreatQP12
set_option linter.all false
set_option linter.defProp false
open Go.IntKind renaming wrap->Lp
open List renaming length->Lu
open Go.Proofs.Tryz renaming prog->Li
open Bool renaming true->DF
open List renaming ext_getElem?->En
open Nat renaming not_lt_zero->Ex
open Option renaming some->Dc
open True renaming intro->DJ
open Int renaming reduceNatCast'->ae
set_option maxRecDepth 100000
namespace Go.Proofs
open Go.Ab Go.Lie
variable{h σ:cg}{fE gu mf vC vO vQ vx vy:PV}{K:PV->cg->Prop}{O O' bs x y:V1}{P P':V2}{C C':V3}
section
def zFa(N:FI vx x)(Q:FI vy y)(Y:(Lu x)<=1048576)(A:∀t:Bool,(t=DF↔x=y)->K (.bool t) σ):zA Li 12 [vx,vy] σ K:=by
 obtain⟨S,J,rfl⟩:=N;obtain⟨T,L,rfl⟩:=Q;refine Lg Tryz.func12 ?_;refine Lk ?_;by_cases R:(Lu x)=Lu y;rotate_left
 .have an:¬(Lu x:Int)=(Lu y:Int):=af
  simp only[Z3,seval,-ae,an];exact A false ⟨λh=>(by cases h),λh=>absurd (by rw[h]) R⟩
 have heq:(Lu x:Int)=(Lu y:Int):=af
 simp only[Z3,seval,-ae,heq];refine zF (λm I g=>∃i:Nat,i<=Lu y/\m=Lu y-i/\I=[.fz S J (Lu x) (cS x),.fz T L (Lu y) (cS y),.int .i64 i]/\g=σ/\∀j,j<i->x[j]? = y[j]?) (Lu y) ⟨0,af,af,rfl,rfl,λj G=>absurd G (Ex _)⟩ ?_
 rintro m I g ⟨i,X,rfl,rfl,rfl,E⟩
 simp only[Z3,seval,-ae,heq];refine Ll (λU=>?_) λV=>?_
 .refine A DF ⟨λ_=>En λj=>?_,λ_=>rfl⟩;rcases YG j i with e|e
  .exact E j e
  .rw[Yq af,Yq af]
 have u:i<Lu x:=af
 have l:i<Lu y:=af
 have M:Lp .i64 ((i:Int)+1)=((i+1:Nat):Int):=gX l af;simp only[Z3,seval,-ae,gd u,gd l,u,l,M];refine de (λD=>?_) λD=>?_
 .refine⟨_,af,i+1,af,rfl,rfl,λj G=>?_⟩;rcases YG j i with e|e
  .exact E j e
  .obtain rfl:j=i:=af
   rw[YQ u,YQ l,<-dp u,<-dp l,D]
 .refine A false ⟨λh=>(by cases h),λh=>absurd ?_ D⟩;rw[h]
def zTO(l:FB vC bs)(u:∀t:Bool,(t=DF↔4096<Lu bs)->K (.bool t) σ):zA Li 6 [vC] σ K:=by
 obtain⟨w,a,rfl⟩:=l;refine Lg Tryz.func6 ?_;refine Lk ?_;refine u _ ?_;rw[decide_eq_true_eq];omega
variable{p:Int}{n:Nat}{W:V2}{B:V3}
def cz(p:Int)(n:Nat)(W:V2)(B:V3)(u:V2)(x:V1):Prop:=∀y∈u,∀j,at_ (br p W B n x y) j=0
variable{va vb:PV}{xs ys:V2}
def zCE(V:jj va xs)(X:jj vb ys)(sz:SzL xs)(A:∀t:Bool,(t=DF↔xs=ys)->K (.bool t) σ):zA Li 36 [va,vb] σ K:=by
 obtain⟨wx,Q,rx,rfl,L⟩:=V;obtain⟨wy,R,ry,rfl,J⟩:=X;have hl:=sz.l;refine Lg Tryz.func36 ?_;refine Lk ?_;by_cases Z:(Lu xs)=Lu ys;rotate_left
 .have an:¬(Lu xs:Int)=(Lu ys:Int):=af
  simp only[Z3,seval,-ae,an];exact A false ⟨λh=>(by cases h),λh=>absurd (by rw[h]) Z⟩
 have heq:(Lu xs:Int)=(Lu ys:Int):=af
 simp only[Z3,seval,-ae,heq];refine zF (λm I g=>∃i:Nat,i<=Lu ys/\m=Lu ys-i/\I=[.fz wx Q (Lu xs) rx,.fz wy R (Lu ys) ry,.int .i64 i]/\g=σ/\∀j,j<i->xs[j]? = ys[j]?) (Lu ys) ⟨0,af,af,rfl,rfl,λj E=>absurd E (Ex _)⟩ ?_
 rintro m I g ⟨i,hi,rfl,rfl,rfl,D⟩
 simp only[Z3,seval,-ae,heq];refine Ll (λaG=>?_) λah=>?_
 .refine A DF ⟨λ_=>En λj=>?_,λ_=>rfl⟩;rcases YG j i with e|e
  .exact D j e
  .rw[Yq af,Yq af]
 have u:i<Lu xs:=af
 have l:i<Lu ys:=af
 have S:Lp .i64 ((i:Int)+1)=((i+1:Nat):Int):=gX l af;obtain⟨w1,M,T⟩:=L.rowI u;obtain⟨w2,N,U⟩:=J.rowI l;have hle:=sz.r _ (YZ u);simp only[Z3,seval,-ae,T,U,u,l];refine zFa ⟨w1,M,rfl⟩ ⟨w2,N,rfl⟩ hle λt G=>?_;cases t with
 |false=>
  refine Lk ?_;refine A false ⟨λh=>(by cases h),λh=>?_⟩
  have:=G.2 (by simp only[h])
  cases this
 |true=>
  have Y:=G.1 rfl;simp only[Z3,seval,-ae,S];refine⟨_,af,i+1,af,rfl,rfl,λj E=>?_⟩;rcases YG j i with e|e
  .exact D j e
  .obtain rfl:j=i:=af
   rw[YQ u,YQ l,Y]
variable{p':Int}{W':V2}{B':V3}{vP vB ow ox:PV}
def zDs{va vb:PV}{xs ys:V3}(T:Db va xs)(U:Db vb ys)(hl:(Lu xs)<=1048576)(sz:∀q∈xs,SzL q)(E:∀t:Bool,(t=DF↔xs=ys)->K (.bool t) σ):zA Li 51 [va,vb] σ K:=by
 have G:=@Lm
 obtain⟨wx,R,rx,rfl,M⟩:=T;obtain⟨wy,S,ry,rfl,L⟩:=U;refine Lg Tryz.func51 ?_;refine Lk ?_;by_cases J:(Lu xs)=Lu ys;rotate_left
 .have D:¬(Lu xs:Int)=(Lu ys:Int):=af
  simp only[Z3,seval,-ae,D];exact E _ (G λh=>J (by rw[h]))
 have D:(Lu xs:Int)=(Lu ys:Int):=af
 simp only[Z3,seval,-ae,eq_true D];refine zF (λm vs h'=>∃i:Nat,i<=Lu xs/\m=Lu xs-i/\vs=[.fz wx R (Lu xs) rx,.fz wy S (Lu ys) ry,.int .i64 i]/\σ=h'/\xs.take i=ys.take i) (Lu xs) ⟨0,af,af,rfl,rfl,rfl⟩ ?_
 rintro m vs h' ⟨i,hi,rfl,rfl,rfl,heq⟩
 refine Lk ?_;refine Ll (λaG=>?_) λl=>?_
 .have aU:i=Lu xs:=af
  subst aU;rw[Yf,J,Yf]at heq;exact E _ ⟨λ_=>heq,λ_=>rfl⟩
 have u:i<Lu ys:=af
 obtain⟨w4,N,Y,V,uh⟩:=M.rowL l;obtain⟨w5,Q,Z,yY,X⟩:=L.rowL u;simp only[Z3,seval,-ae,l,u,V,yY];refine zCE (xs:=xs[i]) (ys:=ys[i]) ⟨w4,N,Y,rfl,uh⟩ ⟨w5,Q,Z,rfl,X⟩ (sz _ (YZ l)) λt I=>?_;cases t with
 |true=>
  simp only[Z3,seval,-ae,WX l];refine⟨_,af,i+1,af,rfl,rfl,?_⟩;rw[YN l,YN u,heq,I.1 rfl]
 |false=>
  refine Lk ?_;refine E _ (G λh=>?_)
  have:=I.2 (by subst h;rfl)
  cases this
def zDr(A:lx vP vB W B)(u:lx ow ox W' B')(l:SzR W B)(L:∀t:Bool,(p=p'->W=W'->B=B'->t=DF)->K (.bool t) σ):zA Li 15 [.agg [.int .i64 p,vP,vB],.agg [.int .i64 p',ow,ox]] σ K:=by
 have Q:=A.P.one;have R:=A.B.one;have S:=u.P.one;have T:=u.B.one;refine Lh Tryz.func15 ?_;simp only[Z3,seval,-ae,Q,R,S,T];have I:cT σ ((σ.bf [.int .i64 p,vP,vB]).bf [.int .i64 p',ow,ox]):=(zC σ _).bf _;have E:((σ.bf [.int .i64 p,vP,vB]).bf [.int .i64 p',ow,ox]).dR σ.aM 1=Dc vP:=by simp only[Z3,seval,-ae]
 have G:((σ.bf [.int .i64 p,vP,vB]).bf [.int .i64 p',ow,ox]).dR σ.aM 2=Dc vB:=by simp only[Z3,seval,-ae]
 have b1:((σ.bf [.int .i64 p,vP,vB]).bf [.int .i64 p',ow,ox]).dR (σ.aM+1) 1=Dc ow:=by simp only[Z3,seval,-ae]
 have J:((σ.bf [.int .i64 p,vP,vB]).bf [.int .i64 p',ow,ox]).dR (σ.aM+1) 2=Dc ox:=by simp only[Z3,seval,-ae]
 generalize (σ.bf [.int .i64 p,vP,vB]).bf [.int .i64 p',ow,ox]=H at *
 by_cases D:p=p';rotate_left
 .simp only[Z3,seval,-ae,D,decide_false];exact Gh.fin0 I trivial (L _ λh=>absurd h D)
 simp only[Z3,seval,-ae,D,eq_true D,decide_true,E,G,b1,J];refine zCE A.P u.P ⟨l.Wl,l.w⟩ λt M=>?_;cases t with
 |false=>
  simp only[Z3,seval,-ae,E,G,b1,J];exact Gh.fin0 I trivial (L _ λ_ h _=>M.2 h)
 |true=>
  simp only[Z3,seval,-ae,E,G,b1,J];refine zDs A.B u.B l.Bl (λq N=>⟨l.b q N,l.c q N⟩) λt M=>?_;refine Lk ?_;exact Gh.fin0 I trivial (L _ λ_ _ h=>M.2 h)
end
section
open Go.Grp
def zDB(u:dU vO vQ vC O P C)(l:dU gu fE mf O' P' C')(sz:SzP O P C)(I:∀t:Bool,(t=DF↔O=O'/\P=P'/\C=C')->K (.bool t) σ):zA Li 23 [.agg [vO,vQ,vC],.agg [gu,fE,mf]] σ K:=by
 have U:=u.O.one;have V:=u.P.one;have X:=u.C.one;have R:=l.O.one;have S:=l.P.one;have T:=l.C.one;refine Lh Tryz.func23 ?_;simp only[Z3,seval,-ae,U,V,X,R,S,T];have E:cT σ ((σ.bf [vO,vQ,vC]).bf [gu,fE,mf]):=(zC σ _).bf _;have N:((σ.bf [vO,vQ,vC]).bf [gu,fE,mf]).dR σ.aM 0=Dc vO:=by simp only[Z3,seval,-ae]
 have A:((σ.bf [vO,vQ,vC]).bf [gu,fE,mf]).dR σ.aM 1=Dc vQ:=by simp only[Z3,seval,-ae]
 have D:((σ.bf [vO,vQ,vC]).bf [gu,fE,mf]).dR σ.aM 2=Dc vC:=by simp only[Z3,seval,-ae]
 have Q:((σ.bf [vO,vQ,vC]).bf [gu,fE,mf]).dR (σ.aM+1) 0=Dc gu:=by simp only[Z3,seval,-ae]
 have b1:((σ.bf [vO,vQ,vC]).bf [gu,fE,mf]).dR (σ.aM+1) 1=Dc fE:=by simp only[Z3,seval,-ae]
 have G:((σ.bf [vO,vQ,vC]).bf [gu,fE,mf]).dR (σ.aM+1) 2=Dc mf:=by simp only[Z3,seval,-ae]
 generalize (σ.bf [vO,vQ,vC]).bf [gu,fE,mf]=H at *
 simp only[Z3,seval,-ae,N,Q];refine zFa u.O l.O sz.O λt J=>?_;cases t with
 |false=>
  refine Lk ?_;exact Gh.fin0 E trivial (I _ ⟨λh=>(by cases h),λh=>J.2 h.1⟩)
 |true=>
 simp only[Z3,seval,-ae,A,D,b1,G];refine zCE u.P l.P sz.P λt L=>?_;cases t with
 |false=>
  simp only[Z3,seval,-ae,A,D,b1,G];exact Gh.fin0 E trivial (I _ ⟨λh=>(by cases h),λh=>L.2 h.2.1⟩)
 |true=>
  simp only[Z3,seval,-ae,A,D,b1,G];refine zDs u.C l.C sz.C.l (λq Y=>sz.C.r q Y) λt M=>?_;refine Lk ?_;exact Gh.fin0 E trivial (I _ ⟨λh=>⟨J.1 rfl,L.1 rfl,M.1 h⟩,λh=>M.2 h.2.2⟩)
end
end Go.Proofs
namespace Go.Proofs.YtnfnaniemocleaaGreat
open Go.ChangeShapes Go.WideShapes Go.ChangeAt Go.RowKit Go.Ab Go.Joins Go.Lie Go.Proofs
section
variable{H:Type}{enc:TypeId×Value->H}{W w0:World}{j:gz}{h:ct}
def cell8:Tryz.prog.cellsOf 5=1:=by kernel_rfl
def lay8:Lay1 enc Li W 5 (λpv (n:Int)=>pv=.int .u8 n/\0<=n/\n<=255):=by
 intro w0 j h held fuel v x m D;obtain⟨n,l,_,hw⟩:=DataW.trod_int Tryz.underlying5 D;simp only[List.cons.injEq,and_true]at l;subst l;simp only[Lit.wf,Yo,decide_eq_true_eq]at hw;have u:IntKind.u8.min=0:=by rfl
 have A:IntKind.u8.max=255:=by rfl
 rw[u,A]at hw;exact⟨j,h,.int .u8 n,n,m,gz.le.refl _,Ext.refl m.wf,rfl,DJ,rfl,rfl,hw.1,hw.2⟩
def FL.bytes{v:PV}{xs:V1}(h:FL (λpv (n:Int)=>pv=.int .u8 n/\0<=n/\n<=255) v xs):FB v xs:=by
 obtain⟨w,a,rows,rfl,l⟩:=h;refine⟨w,a,?_⟩;congr 1;apply En;intro k;rw[UZ];rcases YG k (Lu xs) with x|x
 .obtain⟨pv,u,A⟩:=l.get x;rw[u,gi x,A.1];rfl
 .rw[Yq (by rw[l.1];exact x),Yq x];rfl
def layB:Lay1 enc Li W 22 (λv (xs:V1)=>FB v xs/\∀b∈xs,0<=b/\b<=255):=by
 intro w0 j h held fuel v x m J;obtain⟨L,h',pv,a,u,A,D,E,G,I,l,M⟩:=zPF Tryz.underlying22 cell8 lay8 w0 j h held fuel v x m J;exact⟨L,h',pv,a,u,A,D,E,G,I,FL.bytes l,l.all λ_ _ k=>k.2⟩
end
end Go.Proofs.YtnfnaniemocleaaGreat
