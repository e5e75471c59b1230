/- . -/
import Derived.Test.YtjcghjopopohiaaGreatDoorQP4
set_option linter.all false
set_option linter.defProp false
open Go.IntKind renaming wrap->Tu
open List renaming length->Tw
open Go.Proofs.Tryz renaming prog->Tp
open Bool renaming true->Im
open Int renaming toNat_natCast->KH
open List renaming drop->Kf,drop_eq_getElem_cons->Pa,drop_zero->J0,ext_getElem?->Kr,getElem?_cons_succ->IU,getElem?_cons_zero->Og,getElem?_replicate->RR,length->Nh,length_nil->Ov,mem_or_eq_of_mem_set->O3,nodup_cons->Q1,pairwise_append->Oa,range->Iw,range_succ->Om,replicate->Jf,set_eq_take_append_cons_drop->KL,take->O0
open Nat renaming eq_zero_or_pos->MB,mul_one->KE,ne_of_lt->Jn,not_lt_zero->Jv
open Option renaming some->Ik
open True renaming intro->Is
open Int renaming reduceNatCast'->ae
set_option maxRecDepth 100000
namespace Go.Proofs
open Go.Ab Go.Lie
variable{cs rb rr:List PV}{d e k n sT:Nat}{h h' σ σ0:dj}{vC vL vO vP vx vy:PV}{K:PV->dj->Prop}{O bs p r x y z:V1}{L P u:V2}{C:V3}
def ZE{h:dj}{t i:Nat}{cs:List PV}{v:PV}(A:h.cd t=Ik cs)(m:i<Tw cs)(B:v.one=Im):h.wr t i [v]=Ik (h.set t (cs.set i v)):=by
 rw[zL A,Iu ⟨by simp;omega,by simp[B]⟩];congr 2;rw[YH];exact take_set cs m v
def E0(_:Nat)(_:V1):Prop:=False
def ownFI{v:PV}{xs:V1}(E:FI v xs)(A:(Tw xs)<=4294967296)(B:∀m,FI m xs->K m σ):zA Tp 66 [v] σ K:=by
 obtain⟨w,a,rfl⟩:=E;exact zAH rfl A λv=>B _ ⟨_,_,rfl⟩
section
variable{s:Nat}
def KM.keepOf(k:KM σ s h)(m:dq σ0 σ)(hs:σ0.bY<=s):dq σ0 h:=by
 obtain⟨σ',⟨A,B,E,G,rfl⟩,q⟩:=k;exact(m.set hs _).trans q
end
def zEG(U:FI vx x)(V:FI vy y)(hl:(Tw x)<=1048576)(E:∀t:Bool,(t=Im↔x=y)->K (.bool t) σ):zA Tp 21 [vx,vy] σ K:=by
 obtain⟨X,N,rfl⟩:=U;obtain⟨Y,S,rfl⟩:=V;refine Tn Tryz.func21 ?_;refine Tq ?_;by_cases W:(Tw x)=Tw y;rotate_left
 .have aj:¬(Tw x:Int)=(Tw y:Int):=aH
  simp only[Z3,seval,-ae,aj];exact E false ⟨λh=>(by cases h),λh=>absurd (by rw[h]) W⟩
 have heq:(Tw x:Int)=(Tw y:Int):=aH
 simp only[Z3,seval,-ae,heq];refine zF (λm J g=>∃i:Nat,i<=Tw y/\m=Tw y-i/\J=[.fz X N (Tw x) (eh x),.fz Y S (Tw y) (eh y),.int .i64 i]/\g=σ/\∀j,j<i->x[j]? = y[j]?) (Tw y) ⟨0,aH,aH,rfl,rfl,λj I=>absurd I (Jv _)⟩ ?_
 rintro m J g ⟨i,hi,rfl,rfl,rfl,H⟩
 simp only[Z3,seval,-ae,heq];refine Tr (λan=>?_) λZ=>?_
 .refine E Im ⟨λ_=>Kr λj=>?_,λ_=>rfl⟩;rcases YY j i with e|e
  .exact H j e
  .rw[YN aH,YN aH]
 have B:i<Tw x:=aH
 have A:i<Tw y:=aH
 have T:Tu .i64 ((i:Int)+1)=((i+1:Nat):Int):=lG A aH;simp only[Z3,seval,-ae,lK B,lK A,B,A,T];refine fi (λG=>?_) λG=>?_
 .refine⟨_,aH,i+1,aH,rfl,rfl,λj I=>?_⟩;rcases YY j i with e|e
  .exact H j e
  .obtain rfl:j=i:=aH
   rw[na B,na A,<-gj B,<-gj A,G]
 .refine E false ⟨λh=>(by cases h),λh=>absurd ?_ G⟩;rw[h]
def zSP(m:FB vC bs)(A:∀t:Bool,(t=Im↔4096<Tw bs)->K (.bool t) σ):zA Tp 4 [vC] σ K:=by
 obtain⟨w,a,rfl⟩:=m;refine Tn Tryz.func4 ?_;refine Tq ?_;refine A _ ?_;rw[decide_eq_true_eq];omega
section
open Go.Grp
def zR9:wJ O x↔gS O x:=by
 constructor
 .rintro⟨A,B⟩
  exact⟨A,λj m=>by have:=B j aH;omega,λj m=>aH⟩
 .intro h;exact⟨h.len,λj m=>by have:=h.bd j (by rw[<-h.len];exact m);omega⟩
def zC6(m:eQ vO vP vC O P C)(T:(Tw O)<=1048576)(A:∀o∈O,pR o)(S:FI vy y)(H:(Tw y)<=1048576)(I:∀t:Bool,(t=Im↔wJ O y)->K (.bool t) σ):zA Tp 164 [.agg [vO,vP,vC],vy] σ K:=by
 have B:=m.O.one;have E:=m.P.one;have G:=m.C.one;refine To Tryz.func164 ?_;simp only[Z3,seval,-ae,B,E,G];refine Qs (t:=0) aH (YQ _) m.O T A S H λt J=>?_;refine Tq ?_;exact Gh.fin0 (zB σ _) trivial (I _ (J.trans ⟨λh=>h.1,λh=>⟨h,λx N=>by simp at N⟩⟩))
end
section
open Go.Grp
variable{D R:List (Option V1)}
def th(n:Nat)(c:PV)(r:Option V1):Prop:=(c=Tt/\r=none)\/∃w a y,c=.fz w a n (eh y)/\Tw y=n/\r=Ik y
def th.bel{c:PV}{r:Option V1}(h:th n c r):DA 0 c:=by
 rcases h with ⟨rfl,_⟩|⟨w,a,y,rfl,_⟩
 .trivial
 .rename_i m;obtain⟨A,_⟩:=m;subst A;exact FI.bel ⟨w,a,rfl⟩ 0
def th.bels(h:ez (th n) rb D)(m:Nat):ko m rb:=by
 refine Zl.2 λc B=>?_;obtain⟨k,A,rfl⟩:=YE.1 B;exact(th.bel (h.2 k _ _ (na A) (na (by rw[<-h.1];exact A)))).up (YQ _)
def th.get(h:ez (th n) rb D){d:Nat}(B:d<Tw D):(rb[d]? = Ik (Tt)/\D[d]? = Ik none)\/∃w a y,rb[d]? = Ik (.fz w a n (eh y))/\Tw y=n/\D[d]? = Ik (Ik y):=by
 have E:d<Tw rb:=by rw[h.1];exact B
 rw[na E,na B];rcases h.2 d _ _ (na E) (na B)with ⟨m,A⟩|⟨w,a,y,m,G,A⟩
 .exact .inl ⟨by rw[m],by rw[A]⟩
 .exact .inr ⟨w,a,y,by rw[m],G,by rw[A]⟩
def th.put(h:ez (th n) rb D){v:PV}(E:FI v y)(B:(Tw y)=n):ez (th n) (rb.set d v) (D.set d (Ik y)):=by
 obtain⟨w,a,rfl⟩:=E;refine⟨by rw[Yx,Yx];exact h.1,λk c r m A=>?_⟩;rw[Yu]at m A;by_cases e:d=k
 .rw[Iu e]at m A;split at m
  .split at A
   .cases m;cases A;exact .inr ⟨w,a,y,by rw[B],B,rfl⟩
   .cases A
  .cases m
 .rw[Iv e]at m A;exact h.2 k c r m A
def th.start(n m:Nat):ez (th n) (Jf m (Tt)) (Jf m none):=by
 refine⟨bj,λk c r A B=>?_⟩;rw[RR]at A B;split at A
 .rename_i h;rw[Iu h]at B;cases A;cases B;exact .inl ⟨rfl,rfl⟩
 .cases A
def zJ0(g:LG O P C)(H:eQ vO vP vC O P C)(hT:σ.cd sT=Ik rb)(uu:sT<σ.bY)(Y:FJ O D)(cn:ez (th (Tw O)) rb D)(hx:gS O x)(bX:FI vx x)
  (hk:∀v z,FI v z->gS O z->(fR z<Tw O->D[fR z]? = Ik none)->E7 O P C D x z->K (.tup [.int .i64 (fR z),v]) σ):zA Tp 119 [.agg [vO,vP,vC],.sl sT 0 (Tw O) (.cm (Tw O)),vx] σ K:=by
 have X:=H.O.one;have S:=H.P.one;have T:=H.C.one;have s:=g.s;have F:=g.F;have G:=F.g;have bB:=s.le;have du:=hx.len;refine zA.gh ?_;have aj:¬sT=σ.bY:=Jn uu;refine Tn Tryz.func119 ?_;simp only[Z3,seval,-ae,X,S,T];refine ownFI bX aH λv0 gV=>?_;refine Tq ?_;refine zF (λm vs h'=>∃(d:Nat) (z:V1) (v:PV),d<=Tw O/\m=Tw O-d/\vs=[.sl sT 0 (Tw O) (.cm (Tw O)),.ptr σ.bY 0,v,.int .i64 d]/\σ.cb [vO,vP,vC]=h'/\TT O d z/\FI v z/\E7 O P C D x z) (Tw O) ⟨0,x,v0,aH,aH,rfl,rfl,hx,gV,.refl _⟩ ?_
 rintro m vs h' ⟨d,z,v,hd,rfl,rfl,rfl,A,hv,U⟩
 have I:gS O z:=A.mono (YQ _);have nQ:=A.len;refine Tq ?_;refine Tr (λan=>?_) λaf=>?_
 .have HH:d=Tw O:=aH
  subst HH;have B:z=zv O:=A.ext (s.zv _) λj S T=>by omega
  have uW:fR z=Tw O:=by rw[B];exact zCj s
  exact Gh.fin0 (zB σ _) ⟨Is,hv.bel _,Is⟩ (by rw[<-uW];exact hk v z hv I (λh=>aH) U)
 have E:d<Tw O:=aH
 have uW:d<Tw z:=aH
 obtain⟨wz,az,rfl⟩:=hv;have V:FI (.fz wz az (Tw z) (eh z)) z:=⟨wz,az,rfl⟩;have w1:Tu .i64 ((d:Int)+1)=((d+1:Nat):Int):=WQ
 have bz:=I.bd d E;have bO:=s.pr d E;by_cases B:at_ z d=0
 .simp only[Z3,seval,-ae,uW,lK uW,B,w1];refine⟨_,aH,d+1,z,_,aH,rfl,rfl,⟨A.len,A.bd,λj Z=>?_⟩,V,U⟩;rcases YY j d with h|h
  .exact A.zero j h
  .rw[show j=d by omega];exact B
 have J:=zH hT d;rcases th.get cn (d:=d) (by rw[Y.len];exact E)with ⟨W,N⟩|⟨w,a,y,W,e3,N⟩
 .rw[W]at J;have HC:fR z=d:=zFs (λj Z=>A.zero j Z) B;simp only[Z3,seval,-ae,uW,lK uW,B,E,aj,J];exact Gh.fin0 (zB σ _) ⟨Is,V.bel _,Is⟩ (by rw[<-HC];exact hk _ z V I (λ_=>by rw[HC];exact N) U)
 .rw[W]at J;obtain⟨y1,y2⟩:=Y.row _ _ N;have yS:gS O y:=y1.mono (YQ _);have jg:¬((Tw O:Int)=0):=aH
  have dS:Tu .i64 (0-at_ z d)=-at_ z d:=WQ
  simp only[Z3,seval,-ae,uW,lK uW,B,E,aj,J,jg,X,S,T,dS];refine zCP g H yS ⟨w,a,by rw[e3]⟩ (k:=-at_ z d) aH λv1 f1=>?_;rw[Int.neg_neg]at f1;obtain⟨q1,q2,q3,q4⟩:=zCA s F g.cent E I y1 y2;have q5:TT O (d+1) (gm O P C z (Grp.pw (gm O P C) (zv O) (mE (gS O) (gm O P C) (zv O) y) (at_ z d).toNat)):=⟨q1.len,q1.bd,λj Z=>by
   rcases YY j d with h|h
   .rw[q3 j h];exact A.zero j h
   .rw[show j=d by omega];exact q4⟩
  have AK:=U.trans (E7.stepR s F g.cent Y N E A B q1 q2 q5);simp only[Z3,seval,-ae,X,S,T];refine zV s H I (G.pw (G.inv_in yS).1 _) V f1 λv2 f2=>?_;simp only[Z3,seval,-ae,w1];exact⟨_,aH,d+1,_,v2,aH,rfl,rfl,q5,f2,AK⟩
structure As(O:V1)(P:V2)(C:V3)(D R:List (Option V1))(k:Nat):Prop where
 len:(Tw R)=Tw O
 dom:∀d,k<=d->d<Tw O->((∃y,R[d]? = Ik (Ik y))↔∃y,D[d]? = Ik (Ik y))
 row:∀(d:Nat) (y:V1),k<=d->R[d]? = Ik (Ik y)->TT O d y/\at_ y d=1
 red:∀(d e:Nat) (y z:V1),k<=d->k<=e->d≠e->R[d]? = Ik (Ik y)->R[e]? = Ik (Ik z)->at_ y e=0
 iff:∀N,gB O P C N->((∀(d:Nat) (y:V1),k<=d->R[d]? = Ik (Ik y)->N y)↔∀(d:Nat) (y:V1),k<=d->D[d]? = Ik (Ik y)->N y)
def As.start(n:Nat)(G:(Tw O)=n)(B:(Tw D)=n):As O P C D (Jf n none) n:=by
 have no:∀{E:List (Option V1)} {d y},(Tw E)=n->n<=d->E[d]? = Ik (Ik y)->False:=λH I h=>by
  rw[YN aH]at h;cases h
 exact⟨by simp[G],λd m A=>aH,λd y m A=>(no bj m A).elim,λd e y z m _ _ A=>(no bj m A).elim,λN _=>⟨λ_ d y m A=>(no B m A).elim,λ_ d y m A=>(no bj m A).elim⟩⟩
def As.skip{k:Nat}(f:As O P C D R (k+1))(H:k<Tw O)(B:D[k]? = Ik none)(E:R[k]? = Ik none):As O P C D R k:=by
 have up:∀{d:Nat} {y:V1},k<=d->(R[d]? = Ik (Ik y)\/D[d]? = Ik (Ik y))->k+1<=d:=λ{d y} G h=>by
  rcases YY k d with e|e
  .exact e
  .rw[show d=k by omega,B,E]at h;rcases h with h|h<;>cases h
 refine⟨f.len,λd a b=>?_,λd y a b=>f.row d y (up a (.inl b)) b,λd e y z a b c h h'=>f.red d e y z (up a (.inl h)) (up b (.inl h')) c h h',λN A=>?_⟩
 .constructor
  .rintro⟨y,m⟩;exact(f.dom d (up a (.inl m)) b).1 ⟨y,m⟩
  .rintro⟨y,m⟩;exact(f.dom d (up a (.inr m)) b).2 ⟨y,m⟩
 .constructor
  .intro g d y a b;exact(f.iff N A).1 (λd y a' b'=>g d y aH b') d y (up a (.inr b)) b
  .intro g d y a b;exact(f.iff N A).2 (λd y a' b'=>g d y aH b') d y (up a (.inl b)) b
def As.put{k:Nat}{x y:V1}(f:As O P C D R (k+1))(Y:k<Tw O)(G:D[k]? = Ik (Ik y))(hx:TT O k x)(X:at_ x k=1)(hz:∀(e:Nat) (z:V1),k<e->R[e]? = Ik (Ik z)->at_ x e=0)
  (T:∀N,gB O P C N->(∀(d:Nat) (y:V1),k+1<=d->R[d]? = Ik (Ik y)->N y)->(N y↔N x)):As O P C D (R.set k (Ik x)) k:=by
 have Z:k<Tw R:=by rw[f.len];exact Y
 have ge:∀{d:Nat} {w:V1},(R.set k (Ik x))[d]? = Ik (Ik w)->(d=k/\w=x)\/(d≠k/\R[d]? = Ik (Ik w)):=λ{d w} h=>by
  rw[Yu]at h;split at h
  .rename_i e;cases h;exact .inl ⟨e.symm,rfl⟩
  .rename_i e;exact .inr ⟨λh=>e h.symm,h⟩
 have S:(R.set k (Ik x))[k]? = Ik (Ik x):=by rw[Yu,Iu rfl,Iu Z]
 have J:∀{d:Nat} {w:V1},d≠k->R[d]? = Ik (Ik w)->(R.set k (Ik x))[d]? = Ik (Ik w):=λ{d w} h e=>by rw[Yu,Iv (λh'=>h h'.symm)];exact e
 refine⟨by rw[Yx];exact f.len,λd a b=>?_,λd w a b=>?_,λd e w z a b c h h'=>?_,λN E=>?_⟩
 .by_cases e:d=k
  .subst e;exact⟨λ_=>⟨y,G⟩,λ_=>⟨x,S⟩⟩
  .constructor
   .rintro⟨w,m⟩
    rcases ge m with ⟨e',_⟩|⟨_,m⟩
    .exact absurd e' e
    .exact(f.dom d aH b).1 ⟨w,m⟩
   .rintro⟨w,m⟩
    obtain⟨z,A⟩:=(f.dom d aH b).2 ⟨w,m⟩;exact⟨z,J e A⟩
 .rcases ge b with ⟨rfl,rfl⟩|⟨e,m⟩
  .exact⟨hx,X⟩
  .exact f.row d w aH m
 .rcases ge h with ⟨V,W⟩|⟨V,m⟩
  .rcases ge h' with ⟨B,_⟩|⟨B,A⟩
   .omega
   .rw[W];exact hz e z aH A
  .rcases ge h' with ⟨B,e4⟩|⟨B,A⟩
   .have:=(f.row d w aH m).1.zero
    rw[B];exact this k aH
   .exact f.red d e w z aH aH c m A
 .have key:((∀(d:Nat) (w:V1),k<=d->(R.set k (Ik x))[d]? = Ik (Ik w)->N w)↔(N x/\∀(d:Nat) (w:V1),k+1<=d->R[d]? = Ik (Ik w)->N w)):=by
   constructor
   .intro h;exact⟨h k x (sB _) S,λd w a b=>h d w aH (J aH b)⟩
   .rintro⟨H,I⟩ d w a b
    rcases ge b with ⟨_,rfl⟩|⟨e,m⟩
    .exact H
    .exact I d w aH m
  have U:((∀(d:Nat) (w:V1),k<=d->D[d]? = Ik (Ik w)->N w)↔(N y/\∀(d:Nat) (w:V1),k+1<=d->D[d]? = Ik (Ik w)->N w)):=by
   constructor
   .intro h;exact⟨h k y (sB _) G,λd w a b=>h d w aH b⟩
   .rintro⟨H,I⟩ d w a b
    by_cases e:d=k
    .subst e;rw[G]at b;cases b;exact H
    .exact I d w aH b
  rw[key,U,<-f.iff N E];constructor
  .rintro⟨a,b⟩;exact⟨(T N E b).2 a,b⟩
  .rintro⟨a,b⟩;exact⟨(T N E b).1 a,b⟩
end
section
open Go.Grp
variable{D R:List (Option V1)}
def pj(R:List (Option V1))(k:Nat):V2:=(R.take k).filterMap id
def QF{k:Nat}(h:R[k]? = Ik none):pj R (k+1)=pj R k:=by
 unfold pj;have m:k<Tw R:=by
  rcases YY k (Tw R) with e|e
  .exact e
  .rw[YN e]at h;cases h
 rw[na m]at h;rw[YV m,List.filterMap_append,Option.some.inj h];simp
def QE{k:Nat}(h:R[k]? = Ik (Ik y)):pj R (k+1)=pj R k++[y]:=by
 unfold pj;have m:k<Tw R:=by
  rcases YY k (Tw R) with e|e
  .exact e
  .rw[YN e]at h;cases h
 rw[na m]at h;rw[YV m,List.filterMap_append,Option.some.inj h];simp
def zBE(k:Nat):(pj R k).length<=k:=by
 unfold pj;grind
def Zd{v:V1}{k:Nat}:v∈pj R k↔∃d,d<k/\R[d]? = Ik (Ik v):=by
 unfold pj;rw[List.mem_filterMap];constructor
 .rintro⟨o,B,rfl⟩
  obtain⟨d,m,e⟩:=YE.1 B;rw[Ym]at m;refine⟨d,aH,?_⟩;grind
 .rintro⟨d,m,e⟩
  have A:d<Tw R:=by
   grind
  refine⟨Ik v,?_,rfl⟩;rw[UQ];rw[na A]at e;exact⟨d,aH,Option.some.inj e⟩
def Qd(B:TT O d y)(m:at_ y d=1):fR y=d:=zFs (λj A=>B.zero j A) (by rw[m];decide)
def zMs(f:As O P C D R 0)(V:FJ O D):CanD O P C D (pj R (Tw O)):=by
 have W:∀{d:Nat} {y:V1},R[d]? = Ik (Ik y)->d<Tw O:=λ{d y} h=>by
  rw[<-f.len];grind
 have get:∀{v:V1},v∈pj R (Tw O)->∃d,d<Tw O/\R[d]? = Ik (Ik v)/\TT O d v/\at_ v d=1/\fR v=d:=λ{v} G=>by
  obtain⟨d,B,e⟩:=Zd.1 G;obtain⟨m,A⟩:=f.row d v (YQ _) e;exact⟨d,B,e,m,A,Qd m A⟩
 refine⟨λv G=>?_,?_,λv G w hw aj=>?_,λd y E=>?_,zBE _,λN I=>?_⟩
 .obtain⟨d,B,e,m,A,H⟩:=get G;exact⟨m.mono (YQ _),aH,by rw[H];exact A⟩
 .have:∀k,k<=Tw O->(pj R k).Pairwise λa b=>fR a<fR b:=by
   intro k
   induction k with
   |zero=>intro _;simp[pj]
   |succ k ih=>
    intro hk;have Z:k<Tw R:=by rw[f.len];omega
    rcases hc:R[k]? with _|_|y
    .rw[na Z]at hc;cases hc
    .rw[QF hc];exact ih aH
    .rw[QE hc,Oa];obtain⟨m,A⟩:=f.row k y (YQ _) hc;refine⟨ih aH,bj,λa X b Y=>?_⟩;rw[YW.1 Y,Qd m A];obtain⟨d,B,e⟩:=Zd.1 X;obtain⟨H,U⟩:=f.row d a (YQ _) e
     have:=Qd H U;omega
  exact this _ (sB _)
 .obtain⟨d,B,e,m,A,H⟩:=get G;obtain⟨T,iZ,e',mI,iC,S⟩:=get hw;rw[S];exact f.red d T v w (YQ _) (YQ _) aH e e'
 .have B:d<Tw O:=by
   rw[<-V.len];grind
  obtain⟨z,J⟩:=(f.dom d (YQ _) B).2 ⟨y,E⟩;obtain⟨m,A⟩:=f.row d z (YQ _) J;exact⟨z,Zd.2 ⟨d,B,J⟩,Qd m A⟩
 .constructor
  .intro h;exactλd y E=>(f.iff N I).1 (λd y _ E=>h y (Zd.2 ⟨d,W E,E⟩)) d y (YQ _) E
  .intro h v G;obtain⟨d,B,e⟩:=Zd.1 G;exact(f.iff N I).2 (λd y _ E=>h d y E) d v (YQ _) e
def zL3(g:LG O P C)(E:eQ vO vP vC O P C)(hT:σ.cd sT=Ik rb)(uu:sT<σ.bY)(hD:FJ O D)(cn:ez (th (Tw O)) rb D)
  (hk:∀v u,hK v u->CanD O P C D u->K v σ):zA Tp 122 [.agg [vO,vP,vC],.sl sT 0 (Tw O) (.cm (Tw O))] σ K:=by
 have h0:=E.O.one;have J:=E.P.one;have S:=E.C.one;have s:=g.s;have F:=g.F;have G:=F.g;have bB:=s.le;refine zA.gh ?_;have aj:¬sT=σ.bY:=Jn uu;have BP:Tu .i64 ((Tw O:Int)-1)=(Tw O:Int)-1:=WE;refine Tn Tryz.func122 ?_;simp only[Z3,seval,-ae,h0,J,S,mk24 (n:=(Tw O)) aH,zx (n:=(Tw O)) aH,BP];have mH:(σ.cb [vO,vP,vC]).rd σ.bY 0 3=Ik [vO,vP,vC]:=by simp only[Z3,seval,-ae]
 have H4:(σ.cb [vO,vP,vC]).cd sT=Ik rb:=by simp only[Z3,seval,-ae,aj];exact hT
 have sY:(σ.cb [vO,vP,vC]).bY=σ.bY+1:=rfl;have kp:dq σ (σ.cb [vO,vP,vC]):=zB σ _;generalize σ.cb [vO,vP,vC]=T at *
 rw[<-sY];have HW:DA T.bY vO/\DA T.bY vP/\DA T.bY vC:=⟨E.O.bel _,E.P.bel _,E.C.bel _⟩;refine zF (λm vs h'=>∃(k:Nat) (R:List (Option V1)) (rr:List PV),m=k/\k<=Tw O/\vs=[.sl sT 0 (Tw O) (.cm (Tw O)),.ptr σ.bY 0,.sl T.bY 0 (Tw O) (.cm (Tw O)),.int .i64 ((k:Int)-1)]/\h'=T.cb rr/\ez (th (Tw O)) rr R/\As O P C D R k/\(∀d,d<k->R[d]? = Ik none)) (Tw O) ?_ ?_
 .exact⟨(Tw O),Jf (Tw O) none,_,rfl,sB _,rfl,rfl,th.start _ _,As.start _ rfl hD.len,λd hd=>by rw[RR,Iu hd]⟩
 rintro m vs h' ⟨k,R,rr,rfl,cZ,rfl,rfl,pB,U,fV⟩
 have jK:(T.cb rr).cd T.bY=Ik rr:=by rw[zC,Iu rfl]
 have yz:(T.cb rr).cd sT=Ik rb:=by rw[zC,Iv aH];exact H4
 have ld:(T.cb rr).rd σ.bY 0 3=Ik [vO,vP,vC]:=by rw[ZC,Iv aH];exact mH
 have GV:(Tw rr)=Tw O:=by rw[pB.1];exact U.len
 rcases MB m with rfl|D5
 .simp only[Z3,seval,-ae,show ¬((0:Int)<=((0:Nat):Int)-1) by omega];refine zF (λm vs h'=>∃(i:Nat) (v:PV) (cs:List PV),i<=Tw O/\m=Tw O-i/\vs=[.sl T.bY 0 (Tw O) (.cm (Tw O)),v,.int .i64 i]/\dq (T.cb rr) h'/\ft (T.cb rr).bY 1 h' v (pj R i).length cs/\ez FI cs (pj R i)) (Tw O) ?_ ?_
  .exact⟨0,_,[],aH,aH,rfl,zB _ _,ft.cb (h:=T.cb rr) (cs:=[]) (T.bY+1) 1 rfl (sB _),ez.nil _⟩
  rintro m vs h' ⟨i,v,cs,hi,rfl,rfl,kk,ps,ai⟩
  have dR:=zBE (R:=R) i;have dk:=zH (h:=h') (by rw[kk.cd _ (by show T.bY<T.bY+1;omega)];exact jK) i;refine Tq ?_;refine Tr (λan=>?_) λaf=>?_
  .have dd:i=Tw O:=aH
   subst dd;have tz:=zMs U hD;have jA:=kk.keepOf2 kp;have dW:σ.bY<=(T.cb rr).bY:=by show σ.bY<=T.bY+1;omega
   have Ff:ft σ.bY 1 h' v (pj R (Tw O)).length cs:=by
    obtain⟨s1,cA,a1,a2,a3,a4,a5,a6⟩:=ps;exact⟨s1,cA,a1,a2,a3,a4,aH,a6⟩
   exact Ff.fin jA (ai.bI 0) λo cap=>hk _ _ ⟨_,_,_,rfl,ai⟩ tz
  have A:i<Tw O:=aH
  rcases th.get pB (d:=i) (by rw[U.len];exact A)with ⟨I,B⟩|⟨w,a,y,I,e3,B⟩
  .rw[I]at dk;simp only[Z3,seval,-ae,A,dk,WX A];exact⟨_,aH,i+1,v,cs,aH,rfl,rfl,kk,by rw[QF B];exact ps,by rw[QF B];exact ai⟩
  .rw[I]at dk;have aM:(0:Int)<(Tw O:Int):=aH
   simp only[Z3,seval,-ae,A,dk,aM];refine ft.push (bytes:=24) (σb:=T.cb rr) kk ps aH aH λv2 S k2 a2=>?_;simp only[Z3,seval,-ae,WX A];refine⟨_,aH,i+1,v2,cs++[.fz w a (Tw O) (eh y)],aH,rfl,rfl,k2,?_,?_⟩
   .rw[QE B,cO];exact a2
   .rw[QE B];exact ai.snoc ⟨w,a,by rw[e3]⟩
 obtain⟨k,rfl⟩:∃k,m=k+1:=⟨m-1,aH⟩
 have e:((k+1:Nat):Int)-1=(k:Int):=aH
 have W:k<Tw O:=cZ;rw[e];have jJ:=zH yz k;have Gk:=zH jK k;have mj:Tu .i64 ((k:Int)-1)=(k:Int)-1:=WE;rcases th.get cn (d:=k) (by rw[hD.len];exact W)with ⟨I,B⟩|⟨w,a,y,I,e3,B⟩
 .rw[I]at jJ;simp only[Z3,seval,-ae,W,jJ,mj];exact⟨k,YB k,k,R,rr,rfl,aH,rfl,rfl,pB,U.skip W B (fV k (YB k)),λd hd=>fV d aH⟩
 rw[I]at jJ;obtain⟨y1,y2⟩:=hD.row _ _ B;have yS:gS O y:=y1.mono (YQ _);have jg:¬((Tw O:Int)=0):=aH
 have w1:Tu .i64 ((k:Int)+1)=((k+1:Nat):Int):=WQ
 simp only[Z3,seval,-ae,W,jJ,jg,w1];refine zF (λm vs h'=>∃(e:Nat) (x:V1) (v:PV),k+1<=e/\e<=Tw O/\m=Tw O-e/\vs=[.sl sT 0 (Tw O) (.cm (Tw O)),.ptr σ.bY 0,.sl T.bY 0 (Tw O) (.cm (Tw O)),.int .i64 k,v,.int .i64 e]/\h'=T.cb rr/\FI v x/\TT O k x/\at_ x k=1/\(∀(j:Nat) (z:V1),k<j->j<e->R[j]? = Ik (Ik z)->at_ x j=0)/\(∀N,gB O P C N->(∀(d:Nat) (y:V1),k+1<=d->R[d]? = Ik (Ik y)->N y)->(N y↔N x))) (Tw O-(k+1)) ?_ ?_
 .exact⟨k+1,y,.fz w a (Tw O) (eh y),sB _,cZ,aH,rfl,rfl,⟨w,a,by rw[e3]⟩,y1,y2,λj z J S=>aH,λ_ _ _=>Iff.rfl⟩
 rintro m vs h' ⟨e,x,v,lh,Of,rfl,rfl,rfl,hv,X,eB,cQ,hN⟩
 have xS:gS O x:=X.mono (YQ _);have du:=X.len;obtain⟨V,H,rfl⟩:=hv;have Y:FI (.fz V H (Tw x) (eh x)) x:=⟨V,H,rfl⟩;refine Tq ?_;refine Tr (λan=>?_) λaf=>?_
 .have Hy:e=Tw O:=aH
  subst Hy;have mh:=ZE jK (i:=k) (v:=.fz V H (Tw x) (eh x)) aH Y.one;rw[du]at mh Y;have yd:(T.cb rr).set T.bY (rr.set k (.fz V H (Tw O) (eh x)))=T.cb (rr.set k (.fz V H (Tw O) (eh x))):=zBC T rr _;rw[yd]at mh;simp only[Z3,seval,-ae,du,W,mh,mj];refine⟨k,YB k,k,R.set k (Ik x),rr.set k (.fz V H (Tw O) (eh x)),rfl,aH,rfl,rfl,th.put pB (by rw[<-du];exact⟨V,H,rfl⟩) du,U.put W B X eB (λj z J S=>?_) hN,λd hd=>?_⟩
  .grind
  grind
 have A:e<Tw O:=aH
 have Z:=zH jK e;have hex:e<Tw x:=aH
 have w2:Tu .i64 ((e:Int)+1)=((e+1:Nat):Int):=WQ
 rcases th.get pB (d:=e) (by rw[U.len];exact A)with ⟨f1,f2⟩|⟨w',a',r,f1,f3,f2⟩
 .rw[f1]at Z;have eY:¬((0:Int)<((0:Nat):Int)):=by decide
  simp only[Z3,seval,-ae,A,Z,w2,eY,decide_false];refine⟨_,aH,e+1,x,_,aH,aH,rfl,rfl,Y,X,eB,λj z J S h3=>?_,hN⟩;grind
 rw[f1]at Z;obtain⟨r1,r2⟩:=U.row e r aH f2;have rS:gS O r:=r1.mono (YQ _);have bx:=xS.bd e A;have bO:=s.pr e A;have aM:(0:Int)<(Tw O:Int):=aH
 by_cases hz:at_ x e=0
 .simp only[Z3,seval,-ae,A,Z,aM,decide_true,hex,lK hex,hz,w2];refine⟨_,aH,e+1,x,_,aH,aH,rfl,rfl,Y,X,eB,λj z J S h3=>?_,hN⟩;grind
 have dS:Tu .i64 (0-at_ x e)=-at_ x e:=WQ
 obtain⟨q1,q2,q3,q4⟩:=zCA s F g.cent A xS r1 r2;simp only[Z3,seval,-ae,A,Z,aM,decide_true,hex,lK hex,hz,ld,dS];refine zCP g E rS ⟨w',a',by rw[f3]⟩ (k:=-at_ x e) aH λv1 g1=>?_;rw[Int.neg_neg]at g1;simp only[Z3,seval,-ae,ld];refine zV s E xS (G.pw (G.inv_in rS).1 _) Y g1 λv2 g2=>?_;simp only[Z3,seval,-ae,w2];generalize gm O P C x (Grp.pw (gm O P C) (zv O) (mE (gS O) (gm O P C) (zv O) r) (at_ x e).toNat)=x' at *
 refine⟨_,aH,e+1,x',v2,aH,aH,rfl,rfl,g2,⟨q1.len,q1.bd,λj hj=>by rw[q3 j aH];exact X.zero j hj⟩,by rw[q3 k aH];exact eB,λj z J S h3=>?_,λN jX Ky=>(hN N jX Ky).trans ?_⟩
 .rcases YY j e with h|h
  .rw[q3 j h];exact cQ j z J h h3
  .rw[show j=e by omega];exact q4
 .have hr:=Ky e r aH f2;have hp:=jX.pw hr (at_ x e).toNat;constructor
  .intro h;rw[<-q2]at h;exact jX.quotR G hp q1 h
  .intro h;rw[<-q2];exact jX.cl h hp
end
section
open Go.Grp
variable{D R:List (Option V1)}
def ez.unsnoc{α β:Type}{R:α->β->Prop}{m:List α}{bs:List β}{b:β}(h:ez R m (bs++[b])):∃B a,m=B++[a]/\ez R B bs/\R a b:=by
 have A:=h.1;rw[cO,Yk]at A;have E:m≠[]:=λe=>by rw[e]at A;simp at A
 refine⟨m.dropLast,m.getLast E,(List.dropLast_concat_getLast E).symm,⟨by rw[List.length_dropLast];omega,λk c r H G=>?_⟩,?_⟩
 .have hk:k<Tw m.dropLast:=by
   grind
  rw[List.length_dropLast]at hk;refine h.2 k c r ?_ ?_
  .grind
  .rw[YC aH];exact G
 .refine h.2 (Tw bs) _ _ ?_ ?_
  .grind
  simp_all
def zCz{α:Type}(Q:List α):Q=[]\/∃Q' x,Q=Q'++[x]:=by
 rcases Q.eq_nil_or_concat with h|⟨l,b,h⟩
 .exact .inl h
 .exact .inr ⟨l,b,by rw[h,List.concat_eq_append]⟩
def Zt(g:LG O P C)(hR:eQ vO vP vC O P C)(hL:hK vL L)(sz:CV L)(hg:∀x∈L,gS O x)
  (hk:∀v u,hK v u->sA O (GC O P C L) u->K v σ):zA Tp 64 [.agg [vO,vP,vC],vL] σ K:=by
 have U:=hR.P.one;have V:=hR.C.one;have s:=g.s;have F:=g.F;have G:=F.g;have hC:=g.cent;have bB:=s.le;have hp:=zI.isp g.pr;have uy:=sz.l;have bp:=hR;obtain⟨⟨Z,W,rfl⟩,jU,jV⟩:=hR;refine To Tryz.func64 ?_;simp only[Z3,seval,-ae,U,V,mk24 (n:=(Tw O)) aH,zx (n:=(Tw O)) aH,hL.sb];have HV:(σ.cb [.fz Z W (Tw O) (eh O),vP,vC]).cd σ.bY=Ik [.fz Z W (Tw O) (eh O),vP,vC]:=by simp only[Z3,seval,-ae]
 have sY:(σ.cb [.fz Z W (Tw O) (eh O),vP,vC]).bY=σ.bY+1:=rfl;have kp:dq σ (σ.cb [.fz Z W (Tw O) (eh O),vP,vC]):=zB σ _;generalize σ.cb [.fz Z W (Tw O) (eh O),vP,vC]=T at *
 rw[<-sY];refine zGo hL sz λS mI rq kq pq tY=>?_;refine Tq ?_;have fM:∀{rb:List PV} {h:dj},dq (T.cb rb) h->h.rd σ.bY 0 3=Ik [.fz Z W (Tw O) (eh O),vP,vC]/\h.gv σ.bY 0=Ik (.fz Z W (Tw O) (eh O))/\h.cd T.bY=Ik rb/\T.bY<h.bY:=λ{rb h} k=>by
  have e1:∀t,t<T.bY->h.cd t=T.cd t:=λt ht=>by rw[k.cd t (by show t<T.bY+1;omega),zC,Iv aH]
  have X:=e1 σ.bY aH;rw[HV]at X;refine⟨by rw[zN X];rfl,by rw[zH X];rfl,?_,k.bY⟩
  .rw[k.cd T.bY (YB _),zC,Iu rfl]
 have xU:∀{rb rb':List PV} {h:dj},dq (T.cb rb) h->dq (T.cb rb') (h.set T.bY rb'):=λ{rb rb' h} k=>⟨k.bY,k.top,λt ht=>by
  rw[zG];split
  .rename_i e;rw[e,zC,Iu rfl]
  .rename_i e;rw[k.cd t ht,zC,zC,Iv e,Iv e]⟩
 refine zF (λm vs h'=>∃(D:List (Option V1)) (rb:List PV) (Q:V2) (S:PV) (rq:List PV),m=10*free D+Tw Q/\vs=[.ptr σ.bY 0,.int .i64 (Tw O),.sl T.bY 0 (Tw O) (.cm (Tw O)),S]/\dq (T.cb rb) h'/\PT (T.bY+1) h' S (Tw Q) rq/\ez FI rq Q/\(∀x∈Q,gS O x)/\ez (th (Tw O)) rb D/\FJ O D/\QI O P C D Q/\(∀N,gB O P C N->((InD N D/\∀q∈Q,N q)↔∀q∈L,N q))/\Tw Q+10*free D<=Tw L+10*Tw O) (10*free (Jf (Tw O) none)+Tw L) ?_ ?_
 .refine⟨Jf (Tw O) none,_,L,S,rq,rfl,rfl,kq,pq,tY,hg,th.start _ _,FJ.start _ rfl,QI.start _,λN _=>⟨λh=>h.2,λh=>⟨InD.start _,h⟩⟩,?_⟩
  have:=zAi (Jf (Tw O) none)
  rw[YT]at this;omega
 clear kq pq tY S rq mI
 rintro m vs h' ⟨D,rb,Q,S,rq,rfl,rfl,kk,pq,tY,CI,cn,J,H6,hS,CZ⟩
 obtain⟨l3,l1,lT,BK⟩:=fM kk;have hlen:=pq.nN;have Hv:=zAi D;rw[J.len]at Hv;rcases zCz Q with rfl|⟨Q,x,rfl⟩
 .have eY:¬((0:Int)<((0:Nat):Int)):=by decide
  simp only[Ov]at hlen;simp only[Z3,seval,-ae,hlen,eY,l3];refine zL3 g bp lT BK J cn λv u hv tz=>?_;refine Tq ?_;exact Gh.fin0 (kk.keepOf2 kp) (hv.bel _) (hk v u hv (tz.can s F hC J H6 λN A=>⟨λh=>(hS N A).1 ⟨h,λq hq=>(by cases hq)⟩,λh=>((hS N A).2 h).1⟩))
 have jq:(Q++[x]).length=Tw Q+1:=bj
 rw[jq]at pq hlen CZ;obtain⟨xx,c,rfl,pC,hc⟩:=ez.unsnoc tY;obtain⟨sq,off,cap,EL,rfl,dk,tU,Bs⟩:=pq.unsnoc;have hx:=CI x bj;have yV:∀q∈Q,gS O q:=λq hq=>CI q (by simp[hq]);have aM:(0:Int)<((Tw Q+1:Nat):Int):=aH
 have bV:Tu .i64 (((Tw Q+1:Nat):Int)-1)=(Tw Q:Int):=WQ
 have Aa:(Tw Q)<Tw Q+1:=YB _;rw[jq];simp only[Z3,seval,-ae,hlen,aM,bV,Aa,dk,tU,l3];refine zJ0 g bp lT BK J cn hx hc λvz z fz gz eJ fO=>?_;have nQ:=gz.len;by_cases B:fR z<Tw O;rotate_left
 .have nX:fR z=Tw O:=by have:=zDP z;omega
  have dV:=Zb gz aH;simp only[Z3,seval,-ae,nX];refine⟨_,?_,D,rb,Q,EL,xx,rfl,rfl,kk,Bs,pC,yV,cn,J,(H6.mem (Q':=x::Q) (λq hq=>by
   grind)).drop (by rw[<-dV];exact fO),λN A=>?_,aH⟩
  .omega
  .rw[<-hS N A];refine⟨λ⟨U,V⟩=>⟨U,λq hq=>?_⟩,λ⟨U,V⟩=>⟨U,λq hq=>V q (by simp[hq])⟩⟩;rcases YZ.1 hq with hq|hq
   .exact V q hq
   .rw[YW.1 hq,fO.iff F A U,dV];exact A.one
 have uW:fR z<Tw z:=aH
 have De:=hp _ (ss B);have bO:=De.bd;have bz:=gz.bd _ B;have nz:=QA uW;have eO:at_ O (fR z)=O[fR z]:=gj B;rw[eO]at bz;have nX:((fR z:Int)=(Tw O:Int))=False:=by simp;omega
 obtain⟨wz,az,rfl⟩:=fz;have fz:FI (.fz wz az (Tw z) (eh z)) z:=⟨wz,az,rfl⟩;simp only[Z3,seval,-ae,nX,l3,l1,uW,lK uW,B,lK B];refine zGp (p:=at_ O (fR z)) (by rw[eO];exact De) (by rw[eO];omega) λq q1 q2 q3=>?_;simp only[Z3,seval,-ae,nX,l3,l1];refine zC5 g bp gz fz (k:=q) (by rw[eO]at q2;omega) λvy fy=>?_;obtain⟨y1,y2⟩:=QG s F hC B (ZX gz) q.toNat;have ky:at_ (Grp.pw (gm O P C) (zv O) z q.toNat) (fR z)=1:=by
  rw[y2,Yi aH,Uh];exact q3
 have OH:∀N,gB O P C N->N z->N (Grp.pw (gm O P C) (zv O) z q.toNat):=λN A h=>A.pw h _;generalize Grp.pw (gm O P C) (zv O) z q.toNat=y at *
 have yS:gS O y:=y1.mono (YQ _);have jk:=yS.len;obtain⟨I,H,rfl⟩:=fy;have fy:FI (.fz I H (Tw y) (eh y)) y:=⟨I,H,rfl⟩;have kB:D[fR z]? = Ik none:=eJ B;have fV:=zEo (y:=y) kB;have CN:fR z<Tw rb:=by rw[cn.1,J.len];exact B
 have mh:=ZE lT (i:=fR z) (v:=.fz I H (Tw y) (eh y)) CN fy.one;have jA:=xU (rb':=rb.set (fR z) (.fz I H (Tw y) (eh y))) kk;have ni:=th.put (d:=fR z) cn fy jk;have Il:=J.put B y1 ky;obtain⟨k3,k1,kT,Na⟩:=fM jA;have Fh:=Bs.set (t:=T.bY) (YB _) (rb.set (fR z) (.fz I H (Tw y) (eh y)));have bZ:(h'.set T.bY (rb.set (fR z) (.fz I H (Tw y) (eh y)))).bY=h'.bY:=rfl;simp only[Z3,seval,-ae,B,mh];generalize h'.set T.bY (rb.set (fR z) (.fz I H (Tw y) (eh y)))=V at *
 rw[<-bZ];refine PT.push (bytes:=24) (σb:=T.cb (rb.set (fR z) (.fz I H (Tw y) (eh y)))) fz.one jA Fh aH aH λv3 h3 sM Br=>?_;obtain⟨m3,m1,mT,BJ⟩:=fM sM;simp only[Z3,seval,-ae,m3,m1,B,lK B];refine zC5 g bp yS fy (k:=at_ O (fR z)) (by rw[eO];omega) λvo fo=>?_;have Pn:gS O (Grp.pw (gm O P C) (zv O) y (at_ O (fR z)).toNat):=G.pw yS _;have ID:=fo.one;have IB:=fo.cells;simp only[Z3,seval,-ae,ID,IB,m3,m1,B,lK B];refine PT.push (bytes:=24) (σb:=T.cb (rb.set (fR z) (.fz I H (Tw y) (eh y)))) fo.one sM Br aH aH λv4 h4 sK xz=>?_;have yh:ez FI ((xx++[.fz wz az (Tw z) (eh z)])++[vo]) ((Q++[z])++[Grp.pw (gm O P C) (zv O) y (at_ O (fR z)).toNat]):=(pC.snoc fz).snoc fo;have Hr:∀q∈(Q++[z])++[Grp.pw (gm O P C) (zv O) y (at_ O (fR z)).toNat],gS O q:=λq hq=>by
  grind
 generalize xg:(Q++[z])++[Grp.pw (gm O P C) (zv O) y (at_ O (fR z)).toNat]=Q2 at *
 have Ac:(Tw Q2)=Tw Q+1+1:=by rw[<-xg];simp
 have NN:z∈Q2:=by rw[<-xg];simp
 have GQ:∀q∈Q,q∈Q2:=λq hq=>by rw[<-xg];simp[hq]
 have D5:Grp.pw (gm O P C) (zv O) y (at_ O (fR z)).toNat∈Q2:=by rw[<-xg];simp
 have Df:∀N,gB O P C N->N y->((∀q∈Q2,N q)↔(∀q∈Q,N q)/\N z):=λN A hy=>by
  rw[<-xg];refine⟨λh=>⟨λq hq=>h q (by simp[hq]),h z bj⟩,λ⟨h3,h4⟩ q hq=>?_⟩;rcases YZ.1 hq with hq|hq
  .grind
  .rw[YW.1 hq];exact A.pw hy _
 generalize (xx++[PV.fz wz az (Tw z) (eh z)])++[vo]=Mh at *
 rw[<-Ac]at xz;refine Tq ?_;refine zF (λm us h3=>∃(i:Nat) (S:PV) (E:V2) (Y:List PV),i<=Tw O/\m=Tw O-i/\us=[.ptr σ.bY 0,.int .i64 (Tw O),.sl T.bY 0 (Tw O) (.cm (Tw O)),S,.int .i64 (fR z),.fz I H (Tw y) (eh y),.int .i64 i]/\dq (T.cb (rb.set (fR z) (.fz I H (Tw y) (eh y)))) h3/\PT (T.bY+1) h3 S (Q2++E).length Y/\ez FI Y (Q2++E)/\(∀q∈E,gS O q)/\Tw E<=i/\(∀(e:Nat) (b:V1),e<i->D[e]? = Ik (Ik b)->yH O P C y b∈E)/\∀N,gB O P C N->InD N D->N y->∀q∈E,N q) (Tw O) ?_ ?_
 .exact⟨0,v4,[],_,aH,aH,rfl,sK,by rw[YL];exact xz,by rw[YL];exact yh,λq hq=>(by cases hq),sB _,λe b h=>(by omega),λN _ _ _ q hq=>(by cases hq)⟩
 clear sK xz v4 h4 sM Br v3 h3 m3 m1 mT BJ
 rintro m us h5 ⟨i,xq,E,Y,hi,rfl,rfl,oN,tH,nh,yW,OU,Ol,Eo⟩
 obtain⟨m3,m1,mT,BJ⟩:=fM oN;refine Tq ?_;refine Tr (λan=>?_) λaf=>?_
 .refine⟨10*free (D.set (fR z) (Ik y))+(Q2++E).length,?_,D.set (fR z) (Ik y),_,Q2++E,xq,Y,rfl,rfl,oN,tH,nh,?_,ni,Il,(H6.mem (Q':=x::Q) (λq hq=>by
   grind)).put fO kB (by simp[NN]) (λq hq=>by simp[GQ q hq]) (YZ.2 (.inl D5)) (λe b hb=>.inr (by
    have:=Ol e b (by
     rcases YY e (Tw D) with h|h
     .have:=J.len;omega
     .rw[YN h]at hb;cases hb) hb
    simp[this])),λN A=>?_,?_⟩
  .grind
  .grind
  .rw[<-hS N A,InD.put kB];constructor
   .rintro⟨⟨g1,g2⟩,g3⟩
    obtain⟨g4,g5⟩:=(Df N A g2).1 λq hq=>g3 q (by simp[hq]);refine⟨g1,λq hq=>?_⟩;rcases YZ.1 hq with hq|hq
    .exact g4 q hq
    .rw[YW.1 hq];exact(fO.iff F A g1).2 g5
   .rintro⟨g1,g2⟩
    have KO:=(fO.iff F A g1).1 (g2 x bj);have gy:=OH N A KO;refine⟨⟨g1,gy⟩,λq hq=>?_⟩;rcases YZ.1 hq with hq|hq
    .exact(Df N A gy).2 ⟨λq hq=>g2 q (by simp[hq]),KO⟩ q hq
    .exact Eo N A g1 gy q hq
  .simp only[cO];omega
 have ah:i<Tw O:=aH
 have w1:Tu .i64 ((i:Int)+1)=((i+1:Nat):Int):=WQ
 have eZ:=zH mT i;by_cases dd:i=fR z
 .subst dd;simp only[Z3,seval,-ae,w1];refine⟨_,aH,fR z+1,xq,E,Y,aH,rfl,rfl,oN,tH,nh,yW,aH,λe b U V=>?_,Eo⟩;grind
 have lL:¬((i:Int)=(fR z:Int)):=aH
 have rv:(rb.set (fR z) (.fz I H (Tw y) (eh y)))[i]? = rb[i]?:=by rw[Yu,Iv aH]
 rw[rv]at eZ;rcases th.get cn (d:=i) (by rw[J.len];exact ah)with ⟨e1,X⟩|⟨w,a,b,e1,e3,X⟩
 .rw[e1]at eZ;have eY:¬((0:Int)<((0:Nat):Int)):=by decide
  simp only[Z3,seval,-ae,lL,ah,eZ,eY,decide_false,w1];refine⟨_,aH,i+1,xq,E,Y,aH,rfl,rfl,oN,tH,nh,yW,aH,λe b U V=>?_,Eo⟩;grind
 rw[e1]at eZ;have bS:gS O b:=(J.row _ _ X).1.mono (YQ _);have aM:(0:Int)<(Tw O:Int):=aH
 simp only[Z3,seval,-ae,lL,ah,eZ,aM,decide_true,m3];refine zL5 s g.co bp yS bS fy ⟨w,a,by rw[e3]⟩ λvc fc=>?_;have IH:=fc.one;have IG:=fc.cells;simp only[Z3,seval,-ae,lL,ah,eZ,aM,decide_true,m3,IH,IG];refine PT.push (bytes:=24) (σb:=T.cb (rb.set (fR z) (.fz I H (Tw y) (eh y)))) fc.one oN tH (by rw[cO];omega) (by rw[cO];omega) λv6 h6 FO Fg=>?_;simp only[Z3,seval,-ae,w1];refine⟨_,aH,i+1,v6,E++[yH O P C y b],Y++[vc],aH,rfl,rfl,FO,?_,?_,?_,?_,?_,?_⟩;rotate_left
 .rw[<-YH];exact nh.snoc fc
 .intro q hq;rcases YZ.1 hq with hq|hq
  .exact yW q hq
  .rw[YW.1 hq];exact G.com_in yS bS
 .simp;omega
 .grind
 .intro N A nF hy q hq;rcases YZ.1 hq with hq|hq
  .exact Eo N A nF hy q hq
  .rw[YW.1 hq];exact A.com_in hy (nF _ _ X)
 .rw[<-YH,cO,Yk];exact Fg
end
section
open Go.Grp
variable{D R:List (Option V1)}
structure WSeq(O:V1)(u:V2):Prop where
 mem:∀y∈u,gS O y/\fR y<Tw O/\at_ y (fR y)=1
 ord:u.Pairwise λa b=>fR a<fR b
 le:(Tw u)<=Tw O
def zQR(s:kC O P C)(B:d<Tw O)(I:TT O d z)(H:TT O d y)(G:at_ y d=1)(m:Mul O (-at_ z d) y p):TT O (d+1) (gm O P C z p):=by
 obtain⟨J,N⟩:=m d B H;obtain⟨A,E⟩:=zCy s (d:=(Tw O)) (i:=0) aH (YQ _) B I J;refine⟨A.len,A.bd,λj S=>?_⟩;rcases YY j d with h|h
 .exact A.zero j h
 .rw[show j=d by omega];show at_ (mu O P C (Tw O) z p) d=0;rw[E,N,G,Uz,Int.add_emod_emod,Int.add_right_neg,Int.zero_emod]
def zSB(s:kC O P C)(A:k<Tw O)(B:k<e)(J:e<Tw O){c:Int}(S:TT O k x)(I:at_ x k=1)(N:TT O e r)(m:Mul O c r p):TT O k (gm O P C x p)/\at_ (gm O P C x p) k=1:=by
 obtain⟨E,T⟩:=m e J N;obtain⟨G,H⟩:=zCy s (d:=(Tw O)) (i:=0) aH (YQ _) A S (E.mono (Ye B))
 have:=s.pr k A
 refine⟨G,?_⟩;show at_ (mu O P C (Tw O) x p) k=1;rw[H,E.zero k B,I];exact Y5 aH aH
def get_put{m:V1}(h:∃y,D[e]? = Ik (Ik y)):∃y,(D.set d (Ik m))[e]? = Ik (Ik y):=by
 grind
def zPn{m:V1}(h:d<Tw D):∃y,(D.set d (Ik m))[d]? = Ik (Ik y):=⟨m,by rw[Yu,Iu rfl,Iu h]⟩
def zL0(s:kC O P C)(G:eQ vO vP vC O P C)(hT:σ.cd sT=Ik rb)(uu:sT<σ.bY)(X:FJ O D)(cn:ez (th (Tw O)) rb D)(hx:gS O x)(bX:FI vx x)
  (hk:∀v z,FI v z->gS O z->(fR z<Tw O->D[fR z]? = Ik none)->(D[fR x]? = Ik none->fR z=fR x)->K (.tup [.int .i64 (fR z),v]) σ):zA Tp 119 [.agg [vO,vP,vC],.sl sT 0 (Tw O) (.cm (Tw O)),vx] σ K:=by
 have S:=G.O.one;have I:=G.P.one;have J:=G.C.one;have bB:=s.le;have du:=hx.len;refine zA.gh ?_;have U:¬sT=σ.bY:=Jn uu;refine Tn Tryz.func119 ?_;simp only[Z3,seval,-ae,S,I,J];refine ownFI bX aH λv0 gV=>?_;refine Tq ?_;refine zF (λm vs h'=>∃(d:Nat) (z:V1) (v:PV),d<=Tw O/\m=Tw O-d/\vs=[.sl sT 0 (Tw O) (.cm (Tw O)),.ptr σ.bY 0,v,.int .i64 d]/\σ.cb [vO,vP,vC]=h'/\TT O d z/\FI v z/\(z=x\/D[fR x]?≠Ik none)) (Tw O) ⟨0,x,v0,aH,aH,rfl,rfl,hx,gV,.inl rfl⟩ ?_
 rintro m vs h' ⟨d,z,v,hd,rfl,rfl,rfl,A,Z,hr⟩
 have u4:gS O z:=A.mono (YQ _);have nQ:=A.len;refine Tq ?_;refine Tr (λan=>?_) λaf=>?_
 .have HH:d=Tw O:=aH
  subst HH;have B:z=zv O:=A.ext (s.zv _) λj I J=>by omega
  have uW:fR z=Tw O:=by rw[B];exact zCj s
  refine Gh.fin0 (zB σ _) ⟨Is,Z.bel _,Is⟩ ?_;grind
 have E:d<Tw O:=aH
 have uW:d<Tw z:=aH
 obtain⟨wz,V,rfl⟩:=Z;have T:FI (.fz wz V (Tw z) (eh z)) z:=⟨wz,V,rfl⟩;have w1:Tu .i64 ((d:Int)+1)=((d+1:Nat):Int):=WQ
 have bz:=u4.bd d E;have bO:=s.pr d E;by_cases B:at_ z d=0
 .simp only[Z3,seval,-ae,uW,lK uW,B,w1];refine⟨_,aH,d+1,z,_,aH,rfl,rfl,⟨A.len,A.bd,λj Y=>?_⟩,T,hr⟩;rcases YY j d with h|h
  .exact A.zero j h
  .rw[show j=d by omega];exact B
 have H:=zH hT d;have HC:fR z=d:=zFs (λj Y=>A.zero j Y) B;rcases th.get cn (d:=d) (by rw[X.len];exact E)with ⟨N,W⟩|⟨w,a,y,N,e3,W⟩
 .rw[N]at H;simp only[Z3,seval,-ae,uW,lK uW,B,E,U,H];refine Gh.fin0 (zB σ _) ⟨Is,T.bel _,Is⟩ ?_;grind
 .rw[N]at H;obtain⟨y1,y2⟩:=X.row _ _ W;have yS:gS O y:=y1.mono (YQ _);have jg:¬((Tw O:Int)=0):=aH
  have dS:Tu .i64 (0-at_ z d)=-at_ z d:=WQ
  simp only[Z3,seval,-ae,uW,lK uW,B,E,U,H,jg,S,I,J,dS];refine Z7 s G yS ⟨w,a,by rw[e3]⟩ (k:=-at_ z d) aH λv1 p f1 pS m1=>?_;simp only[Z3,seval,-ae,S,I,J];refine zV s G u4 pS T f1 λv2 f2=>?_;simp only[Z3,seval,-ae,w1];refine⟨_,aH,d+1,_,v2,aH,rfl,rfl,zQR s E A y1 y2 m1,f2,.inr λh=>?_⟩;simp_all
structure FullW(O:V1)(D R:List (Option V1))(k:Nat):Prop where
 ok:FJ O R
 dom:∀d,k<=d->d<Tw O->(∃y,D[d]? = Ik (Ik y))->∃y,R[d]? = Ik (Ik y)
def zQT(f:FullW O D R 0)(J:FJ O D):WSeq O (pj R (Tw O))/\∀d y,D[d]? = Ik (Ik y)->∃v∈pj R (Tw O),fR v=d:=by
 have lt:∀{E:List (Option V1)} {d:Nat} {y:Option V1},(Tw E)=Tw O->E[d]? = Ik y->d<Tw O:=λ{E d y} V h=>by
  grind
 refine⟨⟨λy U=>?_,?_,zBE _⟩,λd y h=>?_⟩
 .obtain⟨d,B,e⟩:=Zd.1 U;obtain⟨m,A⟩:=f.ok.row d y e;have G:=Qd m A;exact⟨m.mono (YQ _),aH,by rw[G];exact A⟩
 .have:∀k,k<=Tw O->(pj R k).Pairwise λa b=>fR a<fR b:=by
   intro k
   induction k with
   |zero=>intro _;simp[pj]
   |succ k ih=>
    intro W;have T:k<Tw R:=by rw[f.ok.len];omega
    rcases hc:R[k]? with _|_|y
    .rw[na T]at hc;cases hc
    .rw[QF hc];exact ih aH
    .rw[QE hc,Oa];obtain⟨m,A⟩:=f.ok.row k y hc;refine⟨ih aH,bj,λa N b S=>?_⟩;rw[YW.1 S,Qd m A];obtain⟨d,B,e⟩:=Zd.1 N;obtain⟨G,I⟩:=f.ok.row d a e
     have:=Qd G I;omega
  exact this _ (sB _)
 .have B:=lt J.len h;obtain⟨z,H⟩:=f.dom d (YQ _) B ⟨y,h⟩;obtain⟨m,A⟩:=f.ok.row d z H;exact⟨z,Zd.2 ⟨d,B,H⟩,Qd m A⟩
def zNq(s:kC O P C)(G:eQ vO vP vC O P C)(hT:σ.cd sT=Ik rb)(uu:sT<σ.bY)(hD:FJ O D)(cn:ez (th (Tw O)) rb D)
  (hk:∀v u,hK v u->WSeq O u->(∀d y,D[d]? = Ik (Ik y)->∃v∈u,fR v=d)->K v σ):zA Tp 122 [.agg [vO,vP,vC],.sl sT 0 (Tw O) (.cm (Tw O))] σ K:=by
 have h0:=G.O.one;have h1:=G.P.one;have h2:=G.C.one;have bB:=s.le;refine zA.gh ?_;have aj:¬sT=σ.bY:=Jn uu;have BP:Tu .i64 ((Tw O:Int)-1)=(Tw O:Int)-1:=WE;refine Tn Tryz.func122 ?_;simp only[Z3,seval,-ae,h0,h1,h2,mk24 (n:=(Tw O)) aH,zx (n:=(Tw O)) aH,BP];have mH:(σ.cb [vO,vP,vC]).rd σ.bY 0 3=Ik [vO,vP,vC]:=by simp only[Z3,seval,-ae]
 have H4:(σ.cb [vO,vP,vC]).cd sT=Ik rb:=by simp only[Z3,seval,-ae,aj];exact hT
 have sY:(σ.cb [vO,vP,vC]).bY=σ.bY+1:=rfl;have kp:dq σ (σ.cb [vO,vP,vC]):=zB σ _;generalize σ.cb [vO,vP,vC]=T at *
 rw[<-sY];have HW:DA T.bY vO/\DA T.bY vP/\DA T.bY vC:=⟨G.O.bel _,G.P.bel _,G.C.bel _⟩;refine zF (λm vs h'=>∃(k:Nat) (R:List (Option V1)) (rr:List PV),m=k/\k<=Tw O/\vs=[.sl sT 0 (Tw O) (.cm (Tw O)),.ptr σ.bY 0,.sl T.bY 0 (Tw O) (.cm (Tw O)),.int .i64 ((k:Int)-1)]/\h'=T.cb rr/\ez (th (Tw O)) rr R/\FullW O D R k) (Tw O) ?_ ?_
 .exact⟨(Tw O),Jf (Tw O) none,_,rfl,sB _,rfl,rfl,th.start _ _,FJ.start _ rfl,λd a b=>aH⟩
 rintro m vs h' ⟨k,R,rr,rfl,cZ,rfl,rfl,W,B⟩
 have jK:(T.cb rr).cd T.bY=Ik rr:=by rw[zC,Iu rfl]
 have yz:(T.cb rr).cd sT=Ik rb:=by rw[zC,Iv aH];exact H4
 have ld:(T.cb rr).rd σ.bY 0 3=Ik [vO,vP,vC]:=by rw[ZC,Iv aH];exact mH
 have GV:(Tw rr)=Tw O:=by rw[W.1];exact B.ok.len
 rcases MB m with rfl|D5
 .simp only[Z3,seval,-ae,show ¬((0:Int)<=((0:Nat):Int)-1) by omega];refine zF (λm vs h'=>∃(i:Nat) (v:PV) (cs:List PV),i<=Tw O/\m=Tw O-i/\vs=[.sl T.bY 0 (Tw O) (.cm (Tw O)),v,.int .i64 i]/\dq (T.cb rr) h'/\ft (T.cb rr).bY 1 h' v (pj R i).length cs/\ez FI cs (pj R i)) (Tw O) ?_ ?_
  .exact⟨0,_,[],aH,aH,rfl,zB _ _,ft.cb (h:=T.cb rr) (cs:=[]) (T.bY+1) 1 rfl (sB _),ez.nil _⟩
  rintro m vs h' ⟨i,v,cs,hi,rfl,rfl,kk,ps,Y⟩
  have dR:=zBE (R:=R) i;have Z:=zH (h:=h') (by rw[kk.cd _ (by show T.bY<T.bY+1;omega)];exact jK) i;refine Tq ?_;refine Tr (λan=>?_) λaf=>?_
  .have dd:i=Tw O:=aH
   subst dd;obtain⟨HU,HT⟩:=zQT B hD;have jA:=kk.keepOf2 kp;have dW:σ.bY<=(T.cb rr).bY:=by show σ.bY<=T.bY+1;omega
   have Ff:ft σ.bY 1 h' v (pj R (Tw O)).length cs:=by
    obtain⟨s1,cA,a1,a2,a3,a4,a5,a6⟩:=ps;exact⟨s1,cA,a1,a2,a3,a4,aH,a6⟩
   exact Ff.fin jA (Y.bI 0) λo cap=>hk _ _ ⟨_,_,_,rfl,Y⟩ HU HT
  have A:i<Tw O:=aH
  rcases th.get W (d:=i) (by rw[B.ok.len];exact A)with ⟨I,E⟩|⟨w,a,y,I,e3,E⟩
  .rw[I]at Z;simp only[Z3,seval,-ae,A,Z,WX A];exact⟨_,aH,i+1,v,cs,aH,rfl,rfl,kk,by rw[QF E];exact ps,by rw[QF E];exact Y⟩
  .rw[I]at Z;have X:(0:Int)<(Tw O:Int):=aH
   simp only[Z3,seval,-ae,A,Z,X];refine ft.push (bytes:=24) (σb:=T.cb rr) kk ps aH aH λv2 h2 k2 a2=>?_;simp only[Z3,seval,-ae,WX A];refine⟨_,aH,i+1,v2,cs++[.fz w a (Tw O) (eh y)],aH,rfl,rfl,k2,?_,?_⟩
   .rw[QE E,cO];exact a2
   .rw[QE E];exact Y.snoc ⟨w,a,by rw[e3]⟩
 obtain⟨k,rfl⟩:∃k,m=k+1:=⟨m-1,aH⟩
 have e:((k+1:Nat):Int)-1=(k:Int):=aH
 have J:k<Tw O:=cZ;rw[e];have jJ:=zH yz k;have Gk:=zH jK k;have mj:Tu .i64 ((k:Int)-1)=(k:Int)-1:=WE;rcases th.get cn (d:=k) (by rw[hD.len];exact J)with ⟨I,E⟩|⟨w,a,y,I,e3,E⟩
 .rw[I]at jJ;simp only[Z3,seval,-ae,J,jJ,mj];refine⟨k,YB k,k,R,rr,rfl,aH,rfl,rfl,W,B.ok,λd a b h=>?_⟩;rcases YY k d with g|g
  .exact B.dom d g b h
  grind
 rw[I]at jJ;obtain⟨y1,y2⟩:=hD.row _ _ E;have yS:gS O y:=y1.mono (YQ _);have jg:¬((Tw O:Int)=0):=aH
 have w1:Tu .i64 ((k:Int)+1)=((k+1:Nat):Int):=WQ
 simp only[Z3,seval,-ae,J,jJ,jg,w1];refine zF (λm vs h'=>∃(e:Nat) (x:V1) (v:PV),k+1<=e/\e<=Tw O/\m=Tw O-e/\vs=[.sl sT 0 (Tw O) (.cm (Tw O)),.ptr σ.bY 0,.sl T.bY 0 (Tw O) (.cm (Tw O)),.int .i64 k,v,.int .i64 e]/\h'=T.cb rr/\FI v x/\TT O k x/\at_ x k=1) (Tw O-(k+1)) ?_ ?_
 .exact⟨k+1,y,.fz w a (Tw O) (eh y),sB _,cZ,aH,rfl,rfl,⟨w,a,by rw[e3]⟩,y1,y2⟩
 rintro m vs h' ⟨e,x,v,lh,Of,rfl,rfl,rfl,hv,S,eB⟩
 have xS:gS O x:=S.mono (YQ _);have du:=S.len;obtain⟨N,H,rfl⟩:=hv;have U:FI (.fz N H (Tw x) (eh x)) x:=⟨N,H,rfl⟩;refine Tq ?_;refine Tr (λan=>?_) λaf=>?_
 .have Hy:e=Tw O:=aH
  subst Hy;have mh:=ZE jK (i:=k) (v:=.fz N H (Tw x) (eh x)) aH U.one;rw[du]at mh U;have yd:(T.cb rr).set T.bY (rr.set k (.fz N H (Tw O) (eh x)))=T.cb (rr.set k (.fz N H (Tw O) (eh x))):=zBC T rr _;rw[yd]at mh;simp only[Z3,seval,-ae,du,J,mh,mj];refine⟨k,YB k,k,R.set k (Ik x),rr.set k (.fz N H (Tw O) (eh x)),rfl,aH,rfl,rfl,th.put W (by rw[<-du];exact⟨N,H,rfl⟩) du,B.ok.put J S eB,λd a b h=>?_⟩;rcases YY k d with g|g
  .exact get_put (B.dom d g b h)
  .rw[show d=k by omega];exact zPn (by rw[B.ok.len];exact J)
 have A:e<Tw O:=aH
 have V:=zH jK e;have hex:e<Tw x:=aH
 have w2:Tu .i64 ((e:Int)+1)=((e+1:Nat):Int):=WQ
 rcases th.get W (d:=e) (by rw[B.ok.len];exact A)with ⟨f1,f2⟩|⟨w',a',r,f1,f3,f2⟩
 .rw[f1]at V;have eY:¬((0:Int)<((0:Nat):Int)):=by decide
  simp only[Z3,seval,-ae,A,V,w2,eY,decide_false];exact⟨_,aH,e+1,x,_,aH,aH,rfl,rfl,U,S,eB⟩
 rw[f1]at V;obtain⟨r1,r2⟩:=B.ok.row e r f2;have rS:gS O r:=r1.mono (YQ _);have bx:=xS.bd e A;have bO:=s.pr e A;have X:(0:Int)<(Tw O:Int):=aH
 by_cases hz:at_ x e=0
 .simp only[Z3,seval,-ae,A,V,X,decide_true,hex,lK hex,hz,w2];exact⟨_,aH,e+1,x,_,aH,aH,rfl,rfl,U,S,eB⟩
 have dS:Tu .i64 (0-at_ x e)=-at_ x e:=WQ
 simp only[Z3,seval,-ae,A,V,X,decide_true,hex,lK hex,hz,ld,dS];refine Z7 s G rS ⟨w',a',by rw[f3]⟩ (k:=-at_ x e) aH λv1 p g1 pS m1=>?_;simp only[Z3,seval,-ae,ld];refine zV s G xS pS U g1 λv2 g2=>?_;simp only[Z3,seval,-ae,w2];obtain⟨q1,q2⟩:=zSB s J aH A S eB r1 m1;exact⟨_,aH,e+1,_,v2,aH,aH,rfl,rfl,g2,q1,q2⟩
def zFY(s:kC O P C)(hp:∀o∈O,pR o)(hR:eQ vO vP vC O P C)(hL:hK vL L)(sz:CV L)(hg:∀x∈L,gS O x)
  (hk:∀v u,hK v u->WSeq O u->(∀x∈L,fR x<Tw O->∃y∈u,fR y=fR x)->K v σ):zA Tp 64 [.agg [vO,vP,vC],vL] σ K:=by
 have h1:=hR.P.one;have h2:=hR.C.one;have bB:=s.le;have uy:=sz.l;have bp:=hR;obtain⟨⟨S,J,rfl⟩,jU,jV⟩:=hR;refine To Tryz.func64 ?_;simp only[Z3,seval,-ae,h1,h2,mk24 (n:=(Tw O)) aH,zx (n:=(Tw O)) aH,hL.sb];have HV:(σ.cb [.fz S J (Tw O) (eh O),vP,vC]).cd σ.bY=Ik [.fz S J (Tw O) (eh O),vP,vC]:=by simp only[Z3,seval,-ae]
 have sY:(σ.cb [.fz S J (Tw O) (eh O),vP,vC]).bY=σ.bY+1:=rfl;have kp:dq σ (σ.cb [.fz S J (Tw O) (eh O),vP,vC]):=zB σ _;generalize σ.cb [.fz S J (Tw O) (eh O),vP,vC]=T at *
 rw[<-sY];refine zGo hL sz λI mI rq kq Z tY=>?_;refine Tq ?_;have fM:∀{rb:List PV} {h:dj},dq (T.cb rb) h->h.rd σ.bY 0 3=Ik [.fz S J (Tw O) (eh O),vP,vC]/\h.gv σ.bY 0=Ik (.fz S J (Tw O) (eh O))/\h.cd T.bY=Ik rb/\T.bY<h.bY:=λ{rb h} k=>by
  have e1:∀t,t<T.bY->h.cd t=T.cd t:=λt ht=>by rw[k.cd t (by show t<T.bY+1;omega),zC,Iv aH]
  have V:=e1 σ.bY aH;rw[HV]at V;refine⟨by rw[zN V];rfl,by rw[zH V];rfl,?_,k.bY⟩
  .rw[k.cd T.bY (YB _),zC,Iu rfl]
 have xU:∀{rb rb':List PV} {h:dj},dq (T.cb rb) h->dq (T.cb rb') (h.set T.bY rb'):=λ{rb rb' h} k=>⟨k.bY,k.top,λt ht=>by
  rw[zG];split
  .rename_i e;rw[e,zC,Iu rfl]
  .rename_i e;rw[k.cd t ht,zC,zC,Iv e,Iv e]⟩
 refine zF (λm vs h'=>∃(D:List (Option V1)) (rb:List PV) (Q:V2) (I:PV) (rq:List PV),m=10*free D+Tw Q/\vs=[.ptr σ.bY 0,.int .i64 (Tw O),.sl T.bY 0 (Tw O) (.cm (Tw O)),I]/\dq (T.cb rb) h'/\PT (T.bY+1) h' I (Tw Q) rq/\ez FI rq Q/\(∀x∈Q,gS O x)/\ez (th (Tw O)) rb D/\FJ O D/\(∀x∈L,fR x<Tw O->x∈Q\/∃y,D[fR x]? = Ik (Ik y))/\Tw Q+10*free D<=Tw L+10*Tw O) (10*free (Jf (Tw O) none)+Tw L) ?_ ?_
 .refine⟨Jf (Tw O) none,_,L,I,rq,rfl,rfl,kq,Z,tY,hg,th.start _ _,FJ.start _ rfl,λx hx _=>.inl hx,?_⟩
  have:=zAi (Jf (Tw O) none)
  rw[YT]at this;omega
 clear kq Z tY I rq mI
 rintro m vs h' ⟨D,rb,Q,I,rq,rfl,rfl,kk,Z,tY,CI,U,H,CT,CZ⟩
 obtain⟨l3,l1,lT,BK⟩:=fM kk;have hlen:=Z.nN;have Hv:=zAi D;rw[H.len]at Hv;rcases zCz Q with rfl|⟨Q,x,rfl⟩
 .have eY:¬((0:Int)<((0:Nat):Int)):=by decide
  simp only[Ov]at hlen;simp only[Z3,seval,-ae,hlen,eY,l3];refine zNq s bp lT BK H U λv u hv F0 tz=>?_;refine Tq ?_;refine Gh.fin0 (kk.keepOf2 kp) (hv.bel _) (hk v u hv F0 λx hx A=>?_);rcases CT x hx A with h|⟨y,h⟩
  .cases h
  .exact tz _ _ h
 have jq:(Q++[x]).length=Tw Q+1:=bj
 rw[jq]at Z hlen CZ;obtain⟨xx,c,rfl,pC,hc⟩:=ez.unsnoc tY;obtain⟨sq,off,cap,EL,rfl,dk,tU,Bs⟩:=Z.unsnoc;have hx:=CI x bj;have yV:∀q∈Q,gS O q:=λq hq=>CI q (by simp[hq]);have aM:(0:Int)<((Tw Q+1:Nat):Int):=aH
 have bV:Tu .i64 (((Tw Q+1:Nat):Int)-1)=(Tw Q:Int):=WQ
 have Aa:(Tw Q)<Tw Q+1:=YB _;rw[jq];simp only[Z3,seval,-ae,hlen,aM,bV,Aa,dk,tU,l3];refine zL0 s bp lT BK H U hx hc λvz z fz gz eJ fO=>?_;have nQ:=gz.len
 -- Bh stays to be found at a depth
 have wX:∀w∈L,fR w<Tw O->w∈Q\/(∃y,D[fR w]? = Ik (Ik y))\/fR z=fR w:=λw hw A=>by
  rcases CT w hw A with h|h
  .rcases YZ.1 h with h|h
   .exact .inl h
   .rw[YW.1 h]at A ⊢;rcases he:D[fR x]? with _|_|y
    .rw[na (by rw[H.len];exact A)]at he;cases he
    .exact .inr (.inr (fO he))
    .exact .inr (.inl ⟨y,rfl⟩)
  .exact .inr (.inl h)
 by_cases A:fR z<Tw O;rotate_left
 .have nX:fR z=Tw O:=by have:=zDP z;omega
  simp only[Z3,seval,-ae,nX];refine⟨_,?_,D,rb,Q,EL,xx,rfl,rfl,kk,Bs,pC,yV,U,H,λw hw h=>?_,aH⟩
  .omega
  .rcases wX w hw h with g|g|g
   .exact .inl g
   .exact .inr g
   .omega
 have uW:fR z<Tw z:=aH
 have De:=hp _ (ss A);have bO:=De.bd;have bz:=gz.bd _ A;have nz:=QA uW;have eO:at_ O (fR z)=O[fR z]:=gj A;rw[eO]at bz;have nX:((fR z:Int)=(Tw O:Int))=False:=by simp;omega
 obtain⟨wz,az,rfl⟩:=fz;have fz:FI (.fz wz az (Tw z) (eh z)) z:=⟨wz,az,rfl⟩;simp only[Z3,seval,-ae,nX,l3,l1,uW,lK uW,A,lK A];refine zGp (p:=at_ O (fR z)) (by rw[eO];exact De) (by rw[eO];omega) λq q1 q2 q3=>?_;simp only[Z3,seval,-ae,nX,l3,l1];refine Z7 s bp gz fz (k:=q) (by rw[eO]at q2;omega) λvy y X yS my=>?_;obtain⟨y1,y2⟩:=my _ A (ZX gz);have ky:at_ y (fR z)=1:=by rw[y2,Uh];exact q3
 have jk:=yS.len;obtain⟨G,B,rfl⟩:=X;have X:FI (.fz G B (Tw y) (eh y)) y:=⟨G,B,rfl⟩;have kB:D[fR z]? = Ik none:=eJ A;have fV:=zEo (y:=y) kB;have CN:fR z<Tw rb:=by rw[U.1,H.len];exact A
 have mh:=ZE lT (i:=fR z) (v:=.fz G B (Tw y) (eh y)) CN X.one;have jA:=xU (rb':=rb.set (fR z) (.fz G B (Tw y) (eh y))) kk;have ni:=th.put (d:=fR z) U X jk;have Il:=H.put A y1 ky;obtain⟨k3,k1,kT,Na⟩:=fM jA;have Fh:=Bs.set (t:=T.bY) (YB _) (rb.set (fR z) (.fz G B (Tw y) (eh y)));have bZ:(h'.set T.bY (rb.set (fR z) (.fz G B (Tw y) (eh y)))).bY=h'.bY:=rfl;simp only[Z3,seval,-ae,A,mh];generalize h'.set T.bY (rb.set (fR z) (.fz G B (Tw y) (eh y)))=h2 at *
 rw[<-bZ];refine PT.push (bytes:=24) (σb:=T.cb (rb.set (fR z) (.fz G B (Tw y) (eh y)))) fz.one jA Fh aH aH λv3 h3 sM Br=>?_;obtain⟨Y,m1,mT,BJ⟩:=fM sM;simp only[Z3,seval,-ae,Y,m1,A,lK A];refine Z7 s bp yS X (k:=at_ O (fR z)) (by rw[eO];omega) λvo y3 fo Pn _=>?_;have ID:=fo.one;have IB:=fo.cells;simp only[Z3,seval,-ae,ID,IB,Y,m1,A,lK A];refine PT.push (bytes:=24) (σb:=T.cb (rb.set (fR z) (.fz G B (Tw y) (eh y)))) fo.one sM Br aH aH λv4 h4 sK xz=>?_;have yh:ez FI ((xx++[.fz wz az (Tw z) (eh z)])++[vo]) ((Q++[z])++[y3]):=(pC.snoc fz).snoc fo;have Hr:∀q∈(Q++[z])++[y3],gS O q:=λq hq=>by
  grind
 generalize xg:(Q++[z])++[y3]=Q2 at *
 have Ac:(Tw Q2)=Tw Q+1+1:=by rw[<-xg];simp
 have GQ:∀q∈Q,q∈Q2:=λq hq=>by rw[<-xg];simp[hq]
 generalize (xx++[PV.fz wz az (Tw z) (eh z)])++[vo]=Mh at *
 rw[<-Ac]at xz;refine Tq ?_;refine zF (λm us h3=>∃(i:Nat) (I:PV) (E:V2) (N:List PV),i<=Tw O/\m=Tw O-i/\us=[.ptr σ.bY 0,.int .i64 (Tw O),.sl T.bY 0 (Tw O) (.cm (Tw O)),I,.int .i64 (fR z),.fz G B (Tw y) (eh y),.int .i64 i]/\dq (T.cb (rb.set (fR z) (.fz G B (Tw y) (eh y)))) h3/\PT (T.bY+1) h3 I (Q2++E).length N/\ez FI N (Q2++E)/\(∀q∈E,gS O q)/\Tw E<=i) (Tw O) ?_ ?_
 .exact⟨0,v4,[],_,aH,aH,rfl,sK,by rw[YL];exact xz,by rw[YL];exact yh,λq hq=>(by cases hq),sB _⟩
 clear sK xz v4 h4 sM Br v3 h3 Y m1 mT BJ
 rintro m us h5 ⟨i,xq,E,N,hi,rfl,rfl,oN,tH,nh,yW,OU⟩
 obtain⟨Y,m1,mT,BJ⟩:=fM oN;refine Tq ?_;refine Tr (λan=>?_) λaf=>?_
 .refine⟨10*free (D.set (fR z) (Ik y))+(Q2++E).length,?_,D.set (fR z) (Ik y),_,Q2++E,xq,N,rfl,rfl,oN,tH,nh,?_,ni,Il,λw hw h=>?_,?_⟩
  .grind
  .grind
  .rcases wX w hw h with g|g|g
   .exact .inl (YZ.2 (.inl (GQ w g)))
   .exact .inr (get_put g)
   grind
  .simp only[cO];omega
 have ah:i<Tw O:=aH
 have w1:Tu .i64 ((i:Int)+1)=((i+1:Nat):Int):=WQ
 have W:=zH mT i;by_cases dd:i=fR z
 .subst dd;simp only[Z3,seval,-ae,w1];exact⟨_,aH,fR z+1,xq,E,N,aH,rfl,rfl,oN,tH,nh,yW,aH⟩
 have lL:¬((i:Int)=(fR z:Int)):=aH
 have rv:(rb.set (fR z) (.fz G B (Tw y) (eh y)))[i]? = rb[i]?:=by rw[Yu,Iv aH]
 rw[rv]at W;rcases th.get U (d:=i) (by rw[H.len];exact ah)with ⟨e1,V⟩|⟨w,a,b,e1,e3,V⟩
 .rw[e1]at W;have eY:¬((0:Int)<((0:Nat):Int)):=by decide
  simp only[Z3,seval,-ae,lL,ah,W,eY,decide_false,w1];exact⟨_,aH,i+1,xq,E,N,aH,rfl,rfl,oN,tH,nh,yW,aH⟩
 rw[e1]at W;have bS:gS O b:=(H.row _ _ V).1.mono (YQ _);have aM:(0:Int)<(Tw O:Int):=aH
 simp only[Z3,seval,-ae,lL,ah,W,aM,decide_true,Y];refine zNs s bp yS bS X ⟨w,a,by rw[e3]⟩ λvc cc fc cS=>?_;have IH:=fc.one;have IG:=fc.cells;simp only[Z3,seval,-ae,lL,ah,W,aM,decide_true,Y,IH,IG];refine PT.push (bytes:=24) (σb:=T.cb (rb.set (fR z) (.fz G B (Tw y) (eh y)))) fc.one oN tH (by rw[cO];omega) (by rw[cO];omega) λv6 h6 FO Fg=>?_;simp only[Z3,seval,-ae,w1];refine⟨_,aH,i+1,v6,E++[cc],N++[vc],aH,rfl,rfl,FO,?_,?_,?_,?_⟩;rotate_left
 .rw[<-YH];exact nh.snoc fc
 .intro q hq;rcases YZ.1 hq with hq|hq
  .exact yW q hq
  .rw[YW.1 hq];exact cS
 .simp;omega
 .rw[<-YH,cO,Yk];exact Fg
end
end Go.Proofs
namespace Go.Ab
def kz.last{pre rows:List PV}{o l B G hi':Nat}{cap:nK}(h:kz B G (pre++rows))(J:B<=o)(N:o<hi')(S:G<=hi')(H:o∉lH (pre++rows)):kz B hi' (pre++[.fz Im (.sl o 0 l cap) l rows]):=by
 have A:=qg.1 h.wh;have E:=h.nd;rw[zU]at E H;by_cases I:rows=[]
 .subst I;refine⟨qg.2 λc hc=>?_,?_,λx hx=>?_⟩
  .rcases YZ.1 hc with hc|hc
   .exact A c (YZ.2 (.inl hc))
   .rw[YW.1 hc];exact .inl rfl
  .rw[zU];simpa [lH,F3]using E
  .rw[zU]at hx
   have:=h.lt x (by rw[zU];simpa [lH,F3]using hx)
   omega
 .have e:lH (pre++[PV.fz Im (.sl o 0 l cap) l rows])=lH pre++(o::lH rows):=by
   rw[zU];simp only[lH,YL];rw[zIz I]
  refine⟨qg.2 λc hc=>?_,?_,λx hx=>?_⟩
  .rcases YZ.1 hc with hc|hc
   .exact A c (YZ.2 (.inl hc))
   .rw[YW.1 hc];exact .inr ⟨rfl,rfl,qg.2 λc hc=>A c (YZ.2 (.inr hc))⟩
  .rw[e];exact(List.perm_middle (a:=o) (l₁:=lH pre) (l₂:=lH rows)).nodup_iff.2 (Q1.2 ⟨H,E⟩)
  .rw[e,YZ,Yq]at hx;have m:=h.lt x;rw[zU,YZ]at m;rcases hx with hx|rfl|hx
   .have:=m (.inl hx);omega
   .omega
   .have:=m (.inr hx);omega
end Go.Ab
namespace Go.Proofs
open Go.Ab Go.Lie Go.Grp
variable{h h' σ:dj}{v vC vO vP:PV}{K:PV->dj->Prop}{O x:V1}{P:V2}{C:V3}
def zKj{B:Nat}(bB:(Tw O)<=6)(dH:∀j,j<Tw O->2<=at_ O j/\at_ O j<=7)(N:eQ vO vP vC O P C)(df:B<=1000000)(E:∀v,FI v (vj O (Tw O) B)->K v σ):zA Tp 72 [.agg [vO,vP,vC],.int .i64 B] σ K:=by
 have U:=N.P.one;have V:=N.C.one;obtain⟨⟨w0,T,rfl⟩,jU,jV⟩:=N;have one:∀{σ:dj} {K:PV->dj->Prop},(K (.sl σ.bY 0 (Tw O) (.cm (Tw O))) (σ.cb (eh (Jf (Tw O) 0))))->zA Tp 68 [.agg [.fz w0 T (Tw O) (eh O),vP,vC]] σ K:=λ{σ K} E=>by
  refine To Tryz.func68 ?_;simp only[Z3,seval,-ae,U,V,E4 (n:=(Tw O)) aH,zx (n:=(Tw O)) aH,YT,zi];exact Gh.finS (s:=σ.bY+1) ((zB σ _).cb _) (by simp only[Z3,seval,-ae,zi]) aH (zO _ _) E
 refine To Tryz.func72 ?_;simp only[Z3,seval,-ae,U,V];refine one ?_;have ew:Tu .i64 ((Tw O:Int)-1)=(Tw O:Int)-1:=WE;simp only[Z3,seval,-ae,ew];refine zF (λm vs h'=>∃(c A:Nat) (out:V1),c<=Tw O/\m=c/\vs=[.int .i64 A,.ptr σ.bY 0,.sl (σ.bY+1) 0 (Tw O) (.cm (Tw O)),.int .i64 ((c:Int)-1)]/\h'=(σ.cb [.fz w0 T (Tw O) (eh O),vP,vC]).cb (eh out)/\Tw out=(Tw O)/\A<=B/\vj O c A++out.drop c=vj O (Tw O) B) (Tw O) ?_ ?_
 .refine⟨(Tw O),B,Jf (Tw O) 0,sB _,rfl,rfl,rfl,bj,sB _,?_⟩;rw[Yr bj,YL]
 rintro m vs h' ⟨c,A,out,Kn,rfl,rfl,rfl,Y,jN,S⟩
 rcases MB m with rfl|aM
 .simp only[Z3,seval,-ae,show ¬((0:Int)<=((0:Nat):Int)-1) by omega];have W:out=vj O (Tw O) B:=by simpa [vj]using S
  rw[<-W]at E;clear W S;rw[<-Y];exact Gh.finF (s:=σ.bY+1) ((zB σ _).cb _) (by simp only[Z3,seval,-ae]) aH (zO _ _) (by simp[kv]) λo1=>E _ ⟨_,_,rfl⟩
 .obtain⟨c,rfl⟩:∃c,m=c+1:=⟨m-1,aH⟩
  have e:((c+1:Nat):Int)-1=(c:Int):=aH
  have J:c<Tw out:=aH
  have H:c<Tw O:=aH
  have uB:Tu .i64 ((c:Int)-1)=(c:Int)-1:=WE;rw[e];have hb:=dH c H;have X:=gj H;obtain⟨q,G⟩:∃q:Nat,at_ O c=(q:Int):=⟨(at_ O c).toNat,aH⟩
  rw[G]at hb;rw[G]at X;have OG:¬(q:Int)=0:=aH
  have et:(A:Int).tmod (q:Int)=((A % q:Nat):Int):=rfl;have ed:(A:Int).tdiv (q:Int)=((A / q:Nat):Int):=rfl;have Z:A / q<=A:=Nat.div_le_self _ _;have I:∀q:Nat,q<=A->Tu .i64 (q:Int)=(q:Int):=λq G=>mn aH aH;have I:=I _ Z;have HQ:c+1<=Tw out:=J;have iT:=zq J (x:=((A % q:Nat):Int));have lO:(eh O)[c]? = Ik (.int .i64 (q:Int)):=by rw[zJ,na H,<-X];rfl
  simp only[Z3,seval,-ae,OG,et,ed,I,H,lO,HQ,zK,iT,uB];refine⟨c,YB c,c,A / q,out.set c ((A % q:Nat):Int),aH,rfl,rfl,rfl,by rw[Yx];exact Y,Yv Z jN,?_⟩;rw[<-S,vj,G,KH,YH];congr 1;rw[Pa (by rw[Yx];exact J),List.getElem_set_self,List.drop_set_of_lt aH];rfl
def Qg{m:Nat}(s:kC O P C)(B:eQ vO vP vC O P C)(A:m<=1000000)(E:∀v,FI v (vj O (Tw O) m)->K v σ):zA Tp 72 [.agg [vO,vP,vC],.int .i64 m] σ K:=zKj s.le s.pr B A E
def Z9(Z:eQ vO vP vC O P C)(sz:ti O P C)(U:∀wO wP wC,eQ wO wP wC O P C->K (.agg [wO,wP,wC]) σ):zA Tp 60 [.agg [vO,vP,vC]] σ K:=by
 have X:=Z.O.one;have Y:=Z.P.one;have At:=sz.C.l;have sG:=sz.O;obtain⟨OC,jU,jV⟩:=Z;obtain⟨w2,G,rC,rfl,pM⟩:=jV;refine To Tryz.func60 ?_;simp only[Z3,seval,-ae,X,Y];have Fk:∀{v:PV} {xs:V1} {σ:dj} {K:PV->dj->Prop},FI v xs->(Tw xs)<=4294967296->(∀J,FI J xs->K J σ)->zA Tp 66 [v] σ K:=λ{v xs σ K} hv hb U=>by
  obtain⟨w,a,rfl⟩:=hv;exact zAH rfl hb λv=>U _ ⟨_,_,rfl⟩
 refine Fk OC aH λA E=>?_;simp only[Z3,seval,-ae,X,Y,E.one,E.cells];refine Zh jU sz.P λB H=>?_;simp only[Z3,seval,-ae,X,Y,E.one,H.one,E.cells,H.cells];refine zF (λm vs h'=>∃(i:Nat) (vX:PV) (rows:List PV),i<=Tw C/\m=Tw C-i/\vs=[.ptr σ.bY 0,.ptr (σ.bY+1) 0,.ptr (σ.bY+2) 0,.int .i64 i]/\dq (((σ.cb [vO,vP,.fz w2 G (Tw C) rC]).cb [Tt,Tt,Tt]).cb [A,B,vX]) h'/\fB (σ.bY+3) 1 h' vX i rows/\ez hK rows (C.take i)) (Tw C) ?_ ?_
 .refine⟨0,Tt,[],aH,aH,rfl,⟨sB _,sB _,λt ht=>?_⟩,fB.nil _ _ _,by rw[UO];exact ez.nil _⟩;simp only[Z3,seval,-ae]
 rintro m vs h' ⟨i,vX,rows,hi,rfl,rfl,I,ha,T⟩
 have df:dq σ h':=(((zB σ _).cb _).cb _).trans I;have ob:h'.cd (σ.bY+2)=Ik [A,B,vX]:=by rw[I.cd (σ.bY+2) (show σ.bY+2<σ.bY+1+1+1 by omega)];simp only[Z3,seval,-ae]
 have cM:h'.cd (σ.bY+1)=Ik [Tt,Tt,Tt]:=by rw[I.cd (σ.bY+1) (show σ.bY+1<σ.bY+1+1+1 by omega)];simp only[Z3,seval,-ae]
 have bK:h'.cd σ.bY=Ik [vO,vP,.fz w2 G (Tw C) rC]:=by rw[I.cd σ.bY (show σ.bY<σ.bY+1+1+1 by omega)];simp only[Z3,seval,-ae]
 have V:h'.gv σ.bY 2=Ik (.fz w2 G (Tw C) rC):=by rw[zH bK];rfl
 have r2:h'.gv (σ.bY+2) 2=Ik vX:=by rw[zH ob];rfl
 have r3:h'.rd (σ.bY+2) 0 3=Ik [A,B,vX]:=by rw[zN ob];rfl
 have bZ:σ.bY+3<=h'.bY:=I.bY;simp only[Z3,seval,-ae,V];refine Tr (λan=>?_) λN=>?_
 .have dd:i=Tw C:=aH
  subst dd;rw[YP]at T;have No:h'.wr (σ.bY+1) 0 [A,B,vX]=Ik (h'.set (σ.bY+1) [A,B,vX]):=by
   rw[zL cM,Iu ⟨bj,by simp[E.one,H.one,ha.one]⟩];rfl
  simp only[Z3,seval,-ae,r3,No];have J7:dq σ (h'.set (σ.bY+1) [A,B,vX]):=df.set (Yb _) _;have b0:=E.bel σ.bY;have b1:=H.bel σ.bY;rcases ha with ⟨rfl,h1,S⟩|⟨t,cap,rfl,Oi,V,q3,q4,q5⟩
  .subst S;have Ba:C=[]:=YM h1;exact Gh.fin0 J7 ⟨b0,b1,Is,Is⟩ (U A B _ ⟨E,H,⟨Im,.cU,[],by rw[Ba];rfl,by rw[Ba];exact ez.nil _⟩⟩)
  .refine Gh.freeze (s:=t) (cs:=rows) (by rw[zG,Iv aH];exact V) aH (T.bL 0) λo ho hc hv=>?_;have s0:sb t o rows A=A:=E.sb _ _ _;have s1:sb t o rows B=B:=H.sb _ _ _;simp only[sb,nD,s0,s1,Oi.ok,and_self,if_true];exact Gh.fin0 ((J7.kill (show σ.bY<=t by omega)).up (by simp only[dj.kill,dj.set];omega)) ⟨b0,b1,Is,Is⟩ (U A B _ ⟨E,H,⟨Im,_,rows,rfl,T⟩⟩)
 obtain⟨w4,a4,tF,hr,gI⟩:=pM.rowL N;simp only[Z3,seval,-ae,N,hr,V,r2];refine Zh ⟨w4,a4,tF,rfl,gI⟩ (sz.C.r _ (ss N)) λv5 W=>?_;have nn:¬σ.bY+2=h'.bY:=aH
 simp only[Z3,seval,-ae,r2,nn,W.one,W.cells];refine fB.push (bytes:=24) I ha aH aH λJ S k2 G=>?_;have mj:S.wr (σ.bY+2) 2 [J]=Ik (S.set (σ.bY+2) [A,B,J]):=by
  have eA:S.cd (σ.bY+2)=Ik [A,B,vX]:=by rw[k2.cd (σ.bY+2) (show σ.bY+2<σ.bY+1+1+1 by omega)];simp only[Z3,seval,-ae]
  rw[zL eA,Iu ⟨bj,by simp[G.acc.one]⟩];rfl
 simp only[Z3,seval,-ae,mj,G.acc.cells,WX N];exact⟨_,aH,i+1,J,rows++[v5],aH,rfl,rfl,k2.setN _,G.acc.setX (show σ.bY+2<σ.bY+1+1+1 by omega),by rw[YV N];exact T.snoc W⟩
def iV(O:V1):Nat:=(jW O (Tw O)).toNat
def regAt(O:V1)(P:V2)(C:V3)(i t:Nat):Int:=ja O (mu O P C (Tw O) (vj O (Tw O) t) (Grp.unit O i)) (Tw O)
def zBp(O:V1)(P:V2)(C:V3)(i:Nat):V1:=(Iw (iV O)).map (regAt O P C i)
def FY(O:V1)(P:V2)(C:V3):V2:=(Iw (Tw O)).map (zBp O P C)
def ZN(s:kC O P C):jW O (Tw O)=(iV O:Int)/\1<=iV O:=by
 have m:=ZJ s.pr (i:=(Tw O)) (sB _);unfold iV;omega
section
variable{rows:List SR}
def tV.finU{H:dj}(a:tV H h v rows)(E:dq σ H)(k:∀z t,hK z (rows.map SR.x)->Own σ.top t z->σ.top<=t->K z (σ.up t)):Gh σ K v h:=by
 have B:=E.trans a.c7;have ok:∀q∈rows,q.ok h σ.bY:=λq m=>⟨(a.ok q m).1,(a.ok q m).2.1,Yv E.bY (a.ok q m).2.2.1,(a.ok q m).2.2.2⟩
 rcases a.acc with ⟨rfl,A,G⟩|⟨s,cap,rfl,N,S,X,U,V⟩
 .have h0:rows=[]:=YM A;exact Gh.fin0T B B.top trivial λ_=>k _ σ.top ⟨Im,.cU,[],by rw[h0];rfl,by rw[h0];exact ez.nil _⟩ (Own.empty _ _ _ _ _) (sB _)
 .have hn:s∉zBn rows:=λI=>a.ne s I 0 _ cap rfl;have J:TR.ok h σ.bY (TR.rows s cap rows):=TR.rows_ok N S (Yv E.bY U) V ok
  have:=Gh.treeO (K:=K) B J (by
   simp only[TR.cY,TR.rows,TR.rows_slots];exact Q1.2 ⟨hn,a.nd⟩) λW T A G=>k _ T TR.rows_FII A G
  simpa only[TR.pv,TR.rows,Yj]using this
def zIU(hp:zI O P C)(hc:Cons O P C)(N:eQ vO vP vC O P C)(hN:jW O (Tw O)<=128)(hk:∀v t,hK v (FY O P C)->σ.top<=t->K v (σ.up t)):zA Tp 61 [.agg [vO,vP,vC]] σ K:=by
 have s:=hp.shp;have F:=Cons.full s hc;have bB:=s.le;obtain⟨A6,jX⟩:=ZN s;have SS:iV O<=128:=aH
 have g1:=N.P.one;have g2:=N.C.one;have I:=N;obtain⟨⟨B,A,rfl⟩,jU,jV⟩:=N;refine To Tryz.func61 ?_;simp only[Z3,seval,-ae,g1,g2];have Z:(σ.cb [.fz B A (Tw O) (eh O),vP,vC]).cd σ.bY=Ik [.fz B A (Tw O) (eh O),vP,vC]:=by simp only[Z3,seval,-ae]
 have ie:σ.bY<(σ.cb [.fz B A (Tw O) (eh O),vP,vC]).bY:=YB _;have kD:dq σ (σ.cb [.fz B A (Tw O) (eh O),vP,vC]):=zB _ _;have bZ:(σ.cb [.fz B A (Tw O) (eh O),vP,vC]).bY=σ.bY+1:=rfl;rw[<-bZ];generalize σ.cb [.fz B A (Tw O) (eh O),vP,vC]=H0 at *
 have X:∀{g:dj},dq H0 g->g.gv σ.bY 0=Ik (.fz B A (Tw O) (eh O)):=λk=>by rw[zH ((k.cd _ ie).trans Z)];rfl
 have J:∀{g:dj},dq H0 g->g.rd σ.bY 0 3=Ik [.fz B A (Tw O) (eh O),vP,vC]:=λk=>by rw[zN ((k.cd _ ie).trans Z)];rfl
 refine zF (λm vs h'=>∃(i:Nat) (vL:PV) (rows:List SR),i<=Tw O/\m=Tw O-i/\vs=[.ptr σ.bY 0,vL,.int .i64 i]/\tV H0 h' vL rows/\rows.map SR.x=(Iw i).map (zBp O P C)) (Tw O) ⟨0,_,[],aH,aH,rfl,tV.cb H0,rfl⟩ ?_
 rintro m vs h' ⟨i,vL,rows,hi,rfl,rfl,G,T⟩
 have dR:(Tw rows)=i:=by have:=congrArg Nh T;simpa using this
 simp only[Z3,seval,-ae,X G.c7];refine Tr (λan=>?_) λH=>?_
 .have dd:i=Tw O:=aH
  subst dd;exact tV.finU G kD λz t hz _ ht=>hk z t (by rw[show rows.map SR.x=FY O P C from T]at hz;exact hz) ht
 simp only[Z3,seval,-ae,X G.c7];refine Qq aH H λvG hG=>?_;refine Tq ?_;refine zF (λm vs E=>∃(t:Nat) (vX:PV),t<=iV O/\m=iV O-t/\vs=[.ptr σ.bY 0,vL,.int .i64 i,vG,vX,.int .i64 t]/\dq h' E/\fB h'.bY 1 E vX t (eh ((Iw t).map (regAt O P C i)))) (iV O) ⟨0,_,aH,aH,rfl,zB _ _,(ft.cb _ 1 rfl (sB _)).acc⟩ ?_
 rintro m vs E ⟨t,vX,ht,rfl,rfl,U,Y⟩
 have S:dq H0 E:=G.c7.trans U;simp only[Z3,seval,-ae,J S];refine zb s I ?_;rw[A6];refine Tq ?_;refine Tr (λlP=>?_) λaX=>?_
 .have Ns:t=iV O:=aH
  subst Ns;obtain⟨sX,Ap,rfl,Hu,oX,lX,gX,FH⟩:=Y.pos aH;have W:(zBp O P C i).length=iV O:=by simp[zBp]
  refine Tq ?_;have key:=λK k=>tV.push (K:=K) (t:=sX) (h:=E) (cap:=Ap) (x:=zBp O P C i) G U gX FH oX (by rw[W];exact Hu) aH k;rw[W]at key;refine key _ λV h4 r4 k4 l4=>?_;simp only[Z3,seval,-ae,WX H];refine⟨_,aH,i+1,V,_,aH,rfl,rfl,r4,?_⟩;rw[YI,T,Om,YI];rfl
 have fP:t<iV O:=aH
 simp only[Z3,seval,-ae,J S];refine Qg s I aH λv1 f1=>?_;simp only[Z3,seval,-ae,J S];refine zV s I (Za s t) (s.unit H (YQ _)) f1 hG λv2 f2=>?_;simp only[Z3,seval,-ae,J S];have AP:gS O (gm O P C (vj O (Tw O) t) (Grp.unit O i)):=F.g.cl (Za s t) (s.unit H (YQ _));refine qU s I AP f2 ?_;refine Tq ?_;refine fB.push (bytes:=8) (σb:=h') (n:=t) (cs:=eh ((Iw t).map (regAt O P C i))) U Y aH aH λV h4 k4 a4=>?_;simp only[Z3,seval,-ae,WX fP];refine⟨_,aH,t+1,V,aH,rfl,rfl,k4,?_⟩;have e:eh ((Iw (t+1)).map (regAt O P C i))=eh ((Iw t).map (regAt O P C i))++[.int .i64 (regAt O P C i t)]:=by
  rw[Om,YI,<-qh];rfl
 rw[e];exact a4.acc
def zIT(H:zI O P C)(E:Cons O P C)(B:eQ vO vP vC O P C)(A:jW O (Tw O)<=128)(G:∀v,hK v (FY O P C)->K v σ):zA Tp 61 [.agg [vO,vP,vC]] σ K:=
 zA.notop (p:=λv _=>hK v (FY O P C)) (λK' J=>zIU H E B A λv t m I=>J v t (m.bel _) m I) λv t m=>G v m
end
end Go.Proofs
namespace Go.Grp
open Go.Ab Go.Lie
def zKH{x:V1}:∀{c t:Nat},wf x t (c+1)=wf x t c++Jf (nx x (t+c)) (t+c)
 |0,t=>by simp[wf]
 |c+1,t=>by
  rw[wf,zKH (c:=c) (t:=t+1),wf,YH,show t+1+c=t+(c+1) by omega]
def zCJ{O x:V1}(m:(Tw x)=Tw O):Mx.nw x=(gT O x).map λ(a:Nat)=>(a:Int)+1:=by
 have key:∀i,Mx.gT x i=(wf x 0 i).map λ(a:Nat)=>(a:Int)+1:=by
  intro i
  induction i with
  |zero=>rfl
  |succ i ih=>rw[Mx.gT,ih,zKH,YI,List.map_replicate,Y4]
 show Mx.gT x (Tw x)=_;rw[m];exact key _
end Go.Grp
namespace Go.Proofs
open Go.Ab Go.Lie
variable{L bs cs r8 r9 rb:List PV}{b d i j k n nC nP t:Nat}{h h' σ:dj}{c v v8 v9 vC vL vO vP vU vV vX vx:PV}{K:PV->dj->Prop}{O a w x xs y:V1}{P u:V2}{C:V3}
section
open Go.Grp
def zCL:∀{c:Nat},(∀j,j<c->at_ x j=at_ y j)->ja O x c=ja O y c
 |0,_=>rfl
 |c+1,h=>by rw[ja,ja,zCL λj m=>h j aH,h c aH]
def zIC(h:∀j,j<Tw O->2<=at_ O j/\at_ O j<=7):∀{c k:Nat},c<=Tw O->(k:Int)<jW O c->ja O (vj O c k) c=k
 |0,k,_,hk=>by simp only[jW]at hk;simp only[ja];omega
 |c+1,k,hc,hk=>by
  have I:=h c aH;have H:=(ZJ h (i:=c) aH).1;obtain⟨o,ho⟩:∃o:Nat,at_ O c=o:=⟨(at_ O c).toNat,aH⟩
  have G:((k / o:Nat):Int)<jW O c:=by
   rw[jW,ho]at hk;obtain⟨q,hq⟩:∃q:Nat,jW O c=q:=⟨(jW O c).toNat,aH⟩
   rw[hq]at hk ⊢
   have:k<q*o:=by exact_mod_cast hk
   exact_mod_cast (Nat.div_lt_iff_lt_mul aH).2 this
  have E:=zIC h (c:=c) (k:=k / o) aH G;rw[ja,vj,ho,KH];have m:ja O (vj O c (k / o)++[((k % o:Nat):Int)]) c=((k / o:Nat):Int):=by
   rw[<-E];exact zCL λj B=>by rw[zA5,ZU,Iu B]
  have A:at_ (vj O c (k / o)++[((k % o:Nat):Int)]) c=((k % o:Nat):Int):=by
   rw[zA5,ZU,Iv aH,Yh];rfl
  rw[m,A]
  have:=Nat.div_add_mod k o
  rw[Nat.mul_comm]at this;exact_mod_cast this
def zFP(s:kC O P C)(A:gS O x):(ja O x (Tw O)).toNat<iV O/\(((ja O x (Tw O)).toNat:Nat):Int)=ja O x (Tw O):=by
 have h:=ZK s.pr (λj m=>A.bd j m) (i:=(Tw O)) (sB _)
 have:=ZN s
 omega
def zFR(s:kC O P C)(m:t<iV O):ja O (vj O (Tw O) t) (Tw O)=t:=zIC s.pr (sB _) (by have:=ZN s;omega)
def zIx(s:kC O P C)(m:gS O x):vj O (Tw O) (ja O x (Tw O)).toNat=x:=by
 have h:=zFP s m;refine zCK s (Za s _) m ?_;rw[zFR s h.1,h.2]
def zSI(s:kC O P C){t':Nat}(B:t<iV O)(m:t'<iV O)(h:vj O (Tw O) t=vj O (Tw O) t'):t=t':=by
 have A:=zFR s B;have E:=zFR s m;rw[h]at A;omega
def Lts(n:Nat)(w:V1):Prop:=∀l∈w,l≠0/\-(n:Int)<=l/\l<=(n:Int)
def Lps(n:Nat)(w:V1):Prop:=∀l∈w,1<=l/\l<=(n:Int)
def Ad(w:V1):V1:=(w.map λl=>-l).reverse
def zCv{c:V1}(m:TT O t c)(E:t<=Tw O):Lps (Tw O) (Mx.nw c):=λl A=>by
 rw[zCJ m.len]at A;obtain⟨a,B,rfl⟩:=YD.1 A
 have:=Bq m E a B
 omega
def GA(O:V1)(P:V2)(i:Nat):V1:=Jf (nx O i) ((i:Int)+1)++Ad (Mx.nw (jt P i))
def Ho(C:V3)(i k:Nat):V1:=[-((i:Int)+1),((i+k:Nat):Int)+2,(i:Int)+1]++Ad (Mx.nw (iD C i (i+(1+k))))
def zOq(s:kC O P C)(A:i<Tw O):Lts (Tw O) (GA O P i):=λl B=>by
 rcases YZ.1 B with h|h
 .rw[UZ h];omega
 .unfold Ad at h;rw[Ul]at h;obtain⟨a,m,rfl⟩:=YD.1 h
  have:=zCv (s.pw i A) aH a m
  omega
def zP5(s:kC O P C)(A:i+(1+k)<Tw O):Lts (Tw O) (Ho C i k):=λl B=>by
 rcases YZ.1 B with h|h
 .simp only[Yq,Ya,or_false]at h;omega
 .unfold Ad at h;rw[Ul]at h;obtain⟨a,m,rfl⟩:=YD.1 h
  have:=zCv (s.cj i (i+(1+k)) aH A) aH a m
  omega
end
section
open Go.Grp
def zMk{v:PV}(m:i<Tw L):O0 i L++[v]++Kf (i+1) L=L.set i v:=by
 rw[KL,Iu m];simp
end
section
open Go.Grp
def inb{i n:Nat}(h:i<n):((i:Int)<(n:Int))/\(0:Int)<=(i:Int):=⟨aH,aH⟩
end
section
open Go.Grp
def TT.nw_hyp(s:kC O P C){i:Nat}(h:TT O i x):(∀j,0<=at_ x j/\at_ x j<=7)/\Tw x<=6:=by
 refine⟨λj=>?_,by rw[h.len];exact s.le⟩;rcases YY j (Tw O) with g|g
 .have:=h.bd j g
  have:=s.pr j g
  omega
 .rw[Hm (by rw[h.len];exact g)];omega
def zGc(s:kC O P C){i:Nat}(h:TT O i x):(gT O x).length<=42:=by
 have e:=zCJ h.len;have m:=Mx.tP (x:=x) (b:=7) (λj=>by have:=(TT.nw_hyp s h).1 j;show(at_ x j).toNat<=7;omega) (Tw x);have A:(Mx.nw x).length=(gT O x).length:=by rw[e,Yj]
 have B:=(TT.nw_hyp s h).2;have E:(Mx.nw x).length<=Tw x*7:=m;omega
end
def zFb{xs B:V2}(Y:hK vU xs)(Z:hK vV B)(hx:(Tw xs)<=1048576)(X:∀x∈xs,(Tw x)<=1048576)(J:∀t:Bool,(t=Im↔xs=B)->K (.bool t) σ):zA Tp 218 [vU,vV] σ K:=by
 have N:=@Ts
 obtain⟨wA,V,rA,rfl,yo⟩:=Y;obtain⟨wB,W,rB,rfl,U⟩:=Z;refine Tn Tryz.func218 ?_;by_cases S:(Tw xs)=Tw B;rotate_left
 .have I:¬(Tw xs:Int)=(Tw B:Int):=aH
  simp only[Z3,seval,-ae,I];exact J _ (N λh=>S (by rw[h]))
 have I:(Tw xs:Int)=(Tw B:Int):=aH
 simp only[Z3,seval,-ae,eq_true I];refine zF (λm vs h'=>∃i:Nat,i<=Tw xs/\m=Tw xs-i/\vs=[.fz wA V (Tw xs) rA,.fz wB W (Tw B) rB,.int .i64 i]/\σ=h'/\xs.take i=B.take i) (Tw xs) ?_ ?_
 .exact⟨0,aH,aH,rfl,rfl,rfl⟩
 rintro m vs h' ⟨i,hi,rfl,rfl,rfl,heq⟩
 refine Tq ?_;refine Tr (λan=>?_) λE=>?_
 .have dd:i=Tw xs:=aH
  subst dd;rw[YP,S,YP]at heq;exact J _ ⟨λ_=>heq,λ_=>rfl⟩
 have H:i<Tw B:=aH
 obtain⟨w4,a4,hr⟩:=yo.rowI E;obtain⟨w5,a5,T⟩:=U.rowI H;have hb:=X _ (ss E);simp only[Z3,seval,-ae,E,H,hr,T];refine qi rfl rfl aH ?_;by_cases G:xs[i]=B[i]
 .simp only[Z3,seval,-ae,G,WX E];refine⟨_,aH,i+1,aH,rfl,rfl,?_⟩;rw[YV E,YV H,heq,G]
 .simp only[Z3,seval,-ae,G];refine J _ (N λh=>G ?_);subst h;rfl
section
open Go.Grp
variable{L:V2}
def zh(O:V1)(P:V2)(C:V3)(u:V2):Prop:=(∀x∈u,gS O x)/\sA O (GC O P C u) u
def zh.len(h:zh O P C u):(Tw u)<=Tw O:=h.2.len
def zPc(g:LG O P C){H:V1->Prop}(m:gB O P C H)(A:sA O H u){x z:V1}(S:gS O x)(E:gS O z)(I:∀v∈u,at_ z (fR v)=0)(B:∀N,gB O P C N->(∀v∈u,N v)->(N x↔N z)):z=zv O↔H x:=by
 have s:=g.s;constructor
 .rintro rfl
  exact(B H m A.mem).2 m.one
 .intro h;have G:=(B H m A.mem).1 h;rcases YY (fR z) (Tw O) with hd|hd
  .obtain⟨v,J,e⟩:=A.all z G hd;exact absurd (by rw[<-e];exact I v J) (QA (by rw[E.len];exact hd))
  .exact Zb E hd
def zBw(E:eQ vO vP vC O P C)(sG:(Tw O)<=1048576)(V:∀o∈O,pR o)(hL:hK vL L)(sz:CV L)(J:∀t:Bool,(t=Im↔∀x∈L,wJ O x)->K (.bool t) σ):zA Tp 117 [.agg [vO,vP,vC],vL] σ K:=by
 have X:=@Ts
 have Y:=E.O.one;have Z:=E.P.one;have h2:=E.C.one;have du:=sz.l;obtain⟨wl,al,rl,rfl,W⟩:=hL;refine To Tryz.func117 ?_;simp only[Z3,seval,-ae,Y,Z,h2];have I:dq σ (σ.cb [vO,vP,vC]):=zB σ _;have ld:(σ.cb [vO,vP,vC]).rd σ.bY 0 3=Ik [vO,vP,vC]:=by simp only[Z3,seval,-ae]
 generalize σ.cb [vO,vP,vC]=H at *
 refine zF (λm S h'=>∃i:Nat,i<=Tw L/\m=Tw L-i/\S=[.fz wl al (Tw L) rl,.ptr σ.bY 0,.int .i64 i]/\H=h'/\∀x∈L.take i,wJ O x) (Tw L) ⟨0,aH,aH,rfl,rfl,bj⟩ ?_
 rintro m S h' ⟨i,hi,rfl,rfl,rfl,G⟩
 refine Tq ?_;refine Tr (λan=>?_) λB=>?_
 .have dd:i=Tw L:=aH
  subst dd;rw[YP]at G;exact Gh.fin0 I trivial (J _ ⟨λ_=>G,λ_=>rfl⟩)
 obtain⟨w4,U,hr⟩:=W.rowI B;have T:=sz.r _ (ss B);simp only[Z3,seval,-ae,B,hr,ld];refine zC6 E sG V ⟨w4,U,rfl⟩ T λt N=>?_;cases t with
 |false=>
  refine Tq ?_;exact Gh.fin0 I trivial (J _ (X λh=>by have:=N.2 (h _ (ss B));cases this))
 |true=>
 have h3:=N.1 rfl;simp only[Z3,seval,-ae,WX B];refine⟨_,aH,i+1,aH,rfl,rfl,λx hx=>?_⟩;rw[YV B,YZ,YW]at hx;rcases hx with hx|hx
 .exact G x hx
 .rw[hx];exact h3
def zPh(g:LG O P C)(E:eQ vO vP vC O P C)(Y:hK vU u)(S:CV u)(J:∀t:Bool,(t=Im↔zh O P C u)->K (.bool t) σ):zA Tp 200 [.agg [vO,vP,vC],vU] σ K:=by
 have V:=@Ts
 have W:=E.P.one;have X:=E.C.one;have s:=g.s;have F:=g.F;have bB:=s.le;have iu:=S.l;have T:=Y;have U:=E;obtain⟨⟨w0,Z,rfl⟩,_,_⟩:=E;obtain⟨wu,au,ru,rfl,AJ⟩:=Y;refine To Tryz.func200 ?_;have I:dq σ (σ.cb [.fz w0 Z (Tw O) (eh O),vP,vC]):=zB σ _;by_cases hlen:(Tw u)<=Tw O;rotate_left
 .have N:¬((Tw u:Int)<=(Tw O:Int)):=aH
  simp only[Z3,seval,-ae,W,X,hlen,N,decide_false];exact Gh.fin0 I trivial (J _ (V λh=>hlen h.len))
 have N:(Tw u:Int)<=(Tw O:Int):=aH
 simp only[Z3,seval,-ae,W,X,hlen,N,decide_true];refine zBw U aH (zI.isp g.pr) T S λt G=>?_;cases t with
 |false=>
  refine Tq ?_;exact Gh.fin0 I trivial (J _ (V λh=>by have:=G.2 λx m=>zR9.2 (h.1 x m);cases this))
 |true=>
 have H:∀x∈u,gS O x:=λx m=>(G.1 rfl x m).gS;refine Tq ?_;refine Zt g U T S H λv z hv B=>?_;refine Tq ?_;have nQ:=B.len;refine zFb hv T aH (λx m=>by have:=(B.one x m).1.len;omega) λt G=>?_;refine Tq ?_;exact Gh.fin0 I trivial (J _ (G.trans ⟨λe=>⟨H,by rw[e]at B;exact B⟩,λh=>B.unique s F (GC.sub F H) h.2⟩))
end
section
open Go.Grp
variable{D:List (Option V1)}
def zNw{l:Nat}{w:Bool}{a:AV}{xs:V1}(H:l=Tw xs)(I:(Tw xs)<=1048576)(G:K (.int .i64 (fR xs)) σ):zA Tp 216 [.fz w a l (eh xs)] σ K:=by
 subst H;refine Tn Tryz.func216 ?_;refine Tq ?_;refine zF (λm vs h'=>∃i:Nat,i<=fR xs/\m=fR xs-i/\vs=[.fz w a (Tw xs) (eh xs),.int .i64 i]/\σ=h') (fR xs) ?_ ?_
 .exact⟨0,aH,aH,rfl,rfl⟩
 rintro m vs h' ⟨i,J,rfl,rfl,rfl⟩
 have N:=zDP xs;by_cases A:i<Tw xs
 .simp only[Z3,seval,-ae,A,zJ,gi A];by_cases B:xs[i]=0
  .have hid:i<fR xs:=by
    rcases YY i (fR xs)with x|x
    .exact x
    .have:i=fR xs:=aH
     subst this;exact absurd (by rw[gj A];exact B) (QA A)
   simp only[Z3,seval,-ae,B,WX A];exact⟨_,aH,i+1,aH,rfl,rfl⟩
  .have hid:i=fR xs:=by
    rcases YY i (fR xs)with x|x
    .exact absurd (by rw[<-gj A];exact qW x) B
    .omega
   simp_all
 .have hid:i=fR xs:=aH
  have E:(Tw xs)=fR xs:=aH
  simp only[Z3,seval,-ae,A];rw[E];exact G
def QP{l:Nat}{w:Bool}{a:AV}(B:l=Tw x)(m:(Tw x)<=1048576)(A:K (.int .i64 (fR x)) σ):zA Tp 197 [.fz w a l (eh x)] σ K:=by
 refine Tn Tryz.func197 ?_;refine Tq ?_;refine zNw B m ?_;refine Tq ?_;exact A
structure TabD(O:V1)(u:V2)(D:List (Option V1)):Prop where
 ok:FJ O D
 sub:∀(d:Nat) (b:V1),D[d]? = Ik (Ik b)->b∈u/\fR b=d
 all:∀v∈u,D[fR v]? = Ik (Ik v)
def TabD.ind{N:V1->Prop}(t:TabD O u D):InD N D↔∀v∈u,N v:=
 ⟨λh v A=>h _ v (t.all v A),λh d b m=>h b (t.sub d b m).1⟩
def zJz(hn:(Tw O)<=6)(N:eQ vO vP vC O P C)(hU:hK vU u)(iu:(Tw u)<=1000)(one:∀v∈u,gS O v/\fR v<Tw O/\at_ v (fR v)=1)(asc:u.Pairwise λa b=>fR a<fR b)
  (hk:∀a rb D,ez (th (Tw O)) rb D->TabD O u D->K (.fz Im a (Tw O) rb) σ):zA Tp 166 [.agg [vO,vP,vC],vU] σ K:=by
 have h1:=N.P.one;have h2:=N.C.one;obtain⟨⟨w0,Z,rfl⟩,jU,jV⟩:=N;obtain⟨wu,au,ru,rfl,W⟩:=hU;refine To Tryz.func166 ?_;simp only[Z3,seval,-ae,h1,h2,mk24 (n:=(Tw O)) aH,zx (n:=(Tw O)) aH];refine zF (λm vs h'=>∃(i:Nat) (rb:List PV) (D:List (Option V1)),i<=Tw u/\m=Tw u-i/\vs=[.fz wu au (Tw u) ru,.sl (σ.bY+1) 0 (Tw O) (.cm (Tw O)),.int .i64 i]/\h'=(σ.cb [.fz w0 Z (Tw O) (eh O),vP,vC]).cb rb/\ez (th (Tw O)) rb D/\TabD O (u.take i) D) (Tw u) ?_ ?_
 .refine⟨0,_,Jf (Tw O) none,aH,aH,rfl,rfl,th.start _ _,⟨FJ.start _ rfl,λd b G=>?_,λv E=>by simp at E⟩⟩;exact(zEc G).elim
 rintro m vs h' ⟨i,rb,D,hi,rfl,rfl,rfl,I,A⟩
 refine Tq ?_;refine Tr (λan=>?_) λB=>?_
 .have dd:i=Tw u:=aH
  subst dd;rw[YP]at A;exact Gh.finF (s:=σ.bY+1) ((zB σ _).cb _) (by simp only[Z3,seval,-ae]) aH (th.bels I 0) (by simp[kv]) λo=>hk _ rb D I A
 obtain⟨J,H,U⟩:=W.rowI B;obtain⟨V,S,u3⟩:=one _ (ss B);have Y:=V.len;simp only[Z3,seval,-ae,B,U];refine QP rfl aH ?_;have hlen:(Tw rb)=Tw O:=by rw[I.1];exact A.ok.len
 have X:fR u[i] + 1<=Tw rb:=aH
 simp only[Z3,seval,-ae,S,X,WX B];have fV:D[fR u[i]]? = Ik none:=by
  have T:fR u[i] < (Tw D):=by rw[A.ok.len];exact S
  rw[na T];cases hc:D[fR u[i]]with
  |none=>rfl
  |some b=>
   exfalso;obtain⟨mH,jS⟩:=A.sub _ b (by rw[na T,hc]);obtain⟨k,bm,rfl⟩:=UQ.1 mH
   have:=List.pairwise_iff_getElem.1 asc k i aH B aH
   omega
 have iT:O0 (fR u[i]) rb++[PV.fz J H u[i].length (eh u[i])]++Kf (fR u[i] + 1) rb=rb.set (fR u[i]) (.fz J H u[i].length (eh u[i])):=by
  rw[KL,Iu aH,YH];rfl
 rw[iT];refine⟨U,_,aH,i+1,rb.set (fR u[i]) (.fz J H u[i].length (eh u[i])),D.set (fR u[i]) (Ik u[i]),aH,rfl,rfl,rfl,th.put I ⟨J,H,rfl⟩ Y,?_⟩
 .have JQ:∀{v:V1},v∈u.take (i+1)↔v∈u.take i\/v=u[i]:=λ{v}=>by
   rw[YV B,YZ,YW]
  refine⟨A.ok.put S (ZX V) u3,λd b G=>?_,λv E=>?_⟩
  .rw[Yu]at G;split at G
   .simp_all
   .obtain⟨p1,p2⟩:=A.sub d b G;exact⟨JQ.2 (.inl p1),p2⟩
  .rcases JQ.1 E with E|rfl
   .have dx:=E;obtain⟨k,bm,rfl⟩:=UQ.1 E
    have:=List.pairwise_iff_getElem.1 asc k i aH B aH
    rw[Yu,Iv aH];exact A.all _ dx
   grind
def zIR(g:LG O P C)(I:eQ vO vP vC O P C){wT:Bool}{Y:AV}(cn:ez (th (Tw O)) rb D)(V:FJ O D)(hx:gS O x)(Z:FI vx x)
  (hk:∀v z,FI v z->gS O z->(∀(d:Nat) (b:V1),D[d]? = Ik (Ik b)->at_ z d=0)->(∀N,gB O P C N->InD N D->(N x↔N z))->K v σ):zA Tp 165 [.agg [vO,vP,vC],.fz wT Y (Tw O) rb,vx] σ K:=by
 have h0:=I.O.one;have h1:=I.P.one;have h2:=I.C.one;have s:=g.s;have F:=g.F;have G:=F.g;have bB:=s.le;have du:=hx.len;refine To Tryz.func165 ?_;simp only[Z3,seval,-ae,h0,h1,h2,Z.one];obtain⟨Ru,Tl,rfl⟩:=Z;refine zAH rfl aH λax=>?_;have ld:(σ.cb [vO,vP,vC]).rd σ.bY 0 3=Ik [vO,vP,vC]:=by simp only[Z3,seval,-ae]
 refine Tq ?_;refine zF (λm vs h'=>∃(i:Nat) (z:V1) (w:Bool) (a:AV),i<=Tw O/\m=Tw O-i/\vs=[.fz wT Y (Tw O) rb,.ptr σ.bY 0,.fz w a (Tw O) (eh z),.int .i64 i]/\h'=σ.cb [vO,vP,vC]/\gS O z/\(∀(d:Nat) (b:V1),d<i->D[d]? = Ik (Ik b)->at_ z d=0)/\∀N,gB O P C N->InD N D->(N x↔N z)) (Tw O) ⟨0,x,Im,ax,aH,aH,by rw[du];rfl,rfl,hx,λd b W=>aH,λ_ _ _=>Iff.rfl⟩ ?_
 rintro m vs h' ⟨i,z,w,a,hi,rfl,rfl,rfl,B,hzero,T⟩
 have nQ:=B.len;refine Tq ?_;refine Tr (λan=>?_) λaf=>?_
 .have dd:i=Tw O:=aH
  exact Gh.fin0 (zB σ _) trivial (hk _ z ⟨w,a,by rw[nQ]⟩ B (λd b J=>hzero d b (by
   rw[dd,<-V.len];grind) J) T)
 have A:i<Tw O:=aH
 have E:i<Tw z:=aH
 have bz:=B.bd i A;have bO:=s.pr i A;rw[gj E]at bz;have d0:decide ((0:Int)<((0:Nat):Int))=false:=rfl;rcases th.get cn (d:=i) (by rw[V.len];exact A)with ⟨S,U⟩|⟨w4,a4,y,S,e3,U⟩
 .simp only[Z3,seval,-ae,A,S,d0,WX A];refine⟨_,aH,i+1,z,w,a,aH,rfl,rfl,B,λd b W J=>?_,T⟩;grind
 have dp:((0:Int)<((Tw O:Nat):Int))=True:=by simp;omega
 by_cases dV:z[i]=0
 .simp only[Z3,seval,-ae,A,S,dp,E,zJ,gi E,dV,WX A];refine⟨_,aH,i+1,z,w,a,aH,rfl,rfl,B,λd b W J=>?_,T⟩;grind
 obtain⟨y1,y2⟩:=V.row _ _ U;have yS:gS O y:=y1.mono (YQ _);have dS:Tu .i64 (0-z[i])=-z[i]:=WQ
 simp only[Z3,seval,-ae,A,S,dp,E,zJ,gi E,dV,ld,dS];refine zCP g I yS ⟨w4,a4,by rw[e3]⟩ aH λv1 f1=>?_;simp only[Z3,seval,-ae,ld];obtain⟨q1,q2,q3,q4⟩:=zCA s F g.cent A B y1 y2;have ek:(-(-z[i])).toNat=(at_ z i).toNat:=by rw[Int.neg_neg,gj E]
 rw[ek]at f1;have ib:=(G.inv_in yS).1;have pS:=G.pw ib (at_ z i).toNat;refine zV s I B pS ⟨w,a,by rw[nQ]⟩ f1 λv2 f2=>?_;obtain⟨w5,a5,rfl⟩:=f2;have My:=q1.len;simp only[Z3,seval,-ae,WX A];refine⟨_,aH,i+1,_,w5,a5,aH,rfl,by rw[My],q1,λd b W J=>?_,λN H h4=>(T N H h4).trans ?_⟩
 .by_cases e:d=i
  .subst e;exact q4
  .rw[q3 d aH];exact hzero d b aH J
 .have nb:N y:=h4 i y U;refine⟨λX=>?_,λX=>?_⟩
  .exact H.cl X (H.pw (H.inv nb) _)
  .have:=H.cl X (H.pw nb (at_ z i).toNat)
   rwa[q2]at this
def zC4(g:LG O P C)(m:eQ vO vP vC O P C){H:V1->Prop}(hH:gB O P C H)(U:hK vU u)(B:sA O H u)(W:gS O x)(G:FI vx x)(V:∀t:Bool,(t=Im↔H x)->K (.bool t) σ):zA Tp 63 [.agg [vO,vP,vC],vU,vx] σ K:=by
 have I:=m.O.one;have J:=m.P.one;have S:=m.C.one;have Z:=g.s.le;have iu:=B.len;have X:∀{σ:dj} {K:PV->dj->Prop},(∀v z,FI v z->gS O z->(z=zv O↔H x)->K v σ)->zA Tp 118 [.agg [vO,vP,vC],vU,vx] σ K:=λ{σ K} V=>by
  refine To Tryz.func118 ?_;simp only[Z3,seval,-ae,I,J,S,G.one,U.one];refine zJz Z m U aH B.one B.asc λa rb D cn T=>?_;simp only[Z3,seval,-ae,I,J,S];refine zIR g m cn T.ok W G λv z E A dV hN=>?_;refine Tq ?_;refine Gh.fin0 (zB σ _) (E.bel _) (V v z E A (zPc g hH B W A (λw hw=>dV _ _ (T.all w hw)) λN h3 h4=>hN N h3 (T.ind.2 h4)))
 refine To Tryz.func63 ?_;simp only[Z3,seval,-ae,I,J,S,G.one,U.one];refine X λv z E A Y=>?_;obtain⟨wx,ax,rfl⟩:=E;have nQ:=A.len;refine Tq ?_;refine zAc rfl aH ?_;refine Tq ?_;refine Gh.fin0 (zB σ _) trivial (V _ ?_);rw[decide_eq_true_iff,<-Y];constructor
 .intro h;refine A.ext (g.s.zv _) λj _ _=>?_;rw[zR6 h];exact(ZV _ j).symm
 .rintro rfl y hy
  exact UZ hy
end
section
open Go.Grp
variable{s:BS}
def ft.pushB{σb h:dj}{b n:Nat}{v c:PV}{rows:List PV}{K:PV×dj->Prop}(H:dq σb h)(G:σb.bY<=b)(T:b<=h.bY)(a:ft b 1 h v n rows)(E:(n+1)*24<=140737488355328)
  (k:∀m h',dq σb h'->ft b 1 h' m (n+1) (rows++[c])->(∀t,t<h.bY->(∀off l c,v≠.sl t off l c)->h'.cd t=h.cd t)->(∀t,t<h.bY->∀off l c,m≠.sl t off l c)->h.bY<h'.bY->K (m,h')):iU (zW 1 24 (h.cb [c]) v (.sl h.bY 0 1 (.cm 1))) K:=
 fB.pushS H ((ft.acc a).low G) rfl E aH λm h' I B N A J=>k m h' I (B.high λt S=>A t aH) N A J
structure WS(σ:dj)(vO vP vC:PV)(O:V1)(s:BS)(v8 v9:PV)(bs r8 r9:List PV)(h:dj):Prop where
 c7:dq σ h
 box:h.cd σ.bY=Ik [vO,vP,vC]
 seen:h.cd (σ.bY+1)=Ik bs
 bl:(Tw bs)=(jW O (Tw O)).toNat
 be:ko 0 bs
 bv:∀y,gS O y->bs[(ja O y (Tw O)).toNat]? = Ik (.bool (decide (y∈s.1)))
 p8:ft (σ.bY+2) 1 h v8 (Tw s.1) r8
 p9:ft (σ.bY+2) 1 h v9 (Tw s.2) r9
 ne:∀t off l c dZ l' c',v8=.sl t off l c->v9≠.sl t dZ l' c'
 a8:ez FI r8 s.1
 a9:ez FI r9 s.2
 nx:σ.bY+2<=h.bY
def zNf(B:kC O P C)(G:gS O y)(S:(Tw bs)=(jW O (Tw O)).toNat)(H:∀z,gS O z->bs[(ja O z (Tw O)).toNat]? = Ik (.bool (decide (z∈s.1))))(w:V1)(I:y∉s.1):
  ∀z,gS O z->(bs.set (ja O y (Tw O)).toNat (.bool Im))[(ja O z (Tw O)).toNat]? = Ik (.bool (decide (z∈(vst s y w).1))):=λz A=>by
 have J:=ZK B.pr (λj m=>G.bd j m) (sB (Tw O));have N:=ZK B.pr (λj m=>A.bd j m) (sB (Tw O));have e:(vst s y w).1=s.1++[y]:=by unfold vst;rw[Iv I]
 rw[Yu];by_cases E:(ja O y (Tw O)).toNat=(ja O z (Tw O)).toNat
 .have:y=z:=zCK B G A aH
  subst this;rw[Iu rfl,Iu aH,e];simp
 .rw[Iv E,H z A,e]
  have:z≠y:=λx=>E (by rw[x])
  simp[this]
def zRz{h:dj}{t i:Nat}{cs:List PV}{v:PV}(A:h.cd t=Ik cs)(m:i<Tw cs)(B:v.one=Im):h.wr t i [v]=Ik (h.set t (cs.set i v)):=by
 unfold dj.wr;rw[A];simp only[YG,YF,Ov,List.all_cons,List.all_nil,B,Bool.and_self,and_true];rw[Iu aH,KL,Iu m,YH];rfl
def ko.setB{b:Nat}{cs:List PV}{v:PV}(h:ko b cs)(A:DA b v)(i:Nat):ko b (cs.set i v):=Zl.2 λc m=>(O3 m).elim (Zl.1 h c) λe=>by rw[e];exact A
end
section
open Go.Grp
variable{s:Nat}{L L':Nat->Nat}{Q:Nat->Prop}{len:Nat->Nat}
def zNl{v:PV}(h:uV v)(n:Nat):DA n v:=by
 cases v<;>simp only[uV]at h<;>trivial
mutual
def ql:∀{t:TR},t.ok h b->t.okF h b
 | .leaf v,a=>zNl a 0
 | .nil,_=>trivial
 | .lst s cap kids,a=>⟨a.1,zAg a.2⟩
 | .cut _ _ _ _ _,a=>a.elim
 | .agg kids,a=>zAg (ts:=kids) a
 | .tup kids,a=>zAg (ts:=kids) a
def zAg:∀{ts:List TR},TR.oks h b ts->TR.okFs h b ts
 |[],_=>trivial
 |t::ts,a=>⟨ql a.1,zAg a.2⟩
end
mutual
def QL{b':Nat}(m:b'<=b):∀{t:TR},t.okF h b->t.okF h b'
 | .leaf v,a=>a
 | .nil,_=>trivial
 | .lst s cap kids,a=>⟨⟨a.1.1,a.1.2.1,Yv m a.1.2.2.1,a.1.2.2.2⟩,zBj m a.2⟩
 | .cut s off l cap kids,a=>⟨⟨a.1.1,a.1.2.1,Yv m a.1.2.2.1,a.1.2.2.2⟩,zBj m a.2⟩
 | .agg kids,a=>zBj (ts:=kids) m a
 | .tup kids,a=>zBj (ts:=kids) m a
def zBj{b':Nat}(m:b'<=b):∀{ts:List TR},TR.okFs h b ts->TR.okFs h b' ts
 |[],_=>trivial
 |t::ts,a=>⟨QL m a.1,zBj m a.2⟩
end
def kI(L:Nat->Nat)(h:dj)(b k:Nat)(x:V1)(v:PV):Prop:=∃s cap,v=.sl s 0 (Tw x) cap/\full 1 cap (Tw x)/\h.cd s=Ik (eh x)/\b<=s/\s<h.bY/\L s=k
def gw(L:Nat->Nat)(h:dj)(b:Nat)(Q:Nat->Prop)(v:PV):Prop:=∃x,Q (Tw x)/\kI L h b 1 x v
def gD(L:Nat->Nat)(h:dj)(b:Nat)(Q:Nat->Prop)(k n:Nat)(v:PV):Prop:=∃s cap cs,v=.sl s 0 n cap/\full 1 cap n/\h.cd s=Ik cs/\Tw cs=n/\b<=s/\s<h.bY/\L s=k/\∀c∈cs,gw L h b Q c
def CX(L:Nat->Nat)(h:dj)(b:Nat)(Q:Nat->Prop)(n:Nat)(len:Nat->Nat)(v:PV):Prop:=∃s cap cs,v=.sl s 0 n cap/\full 1 cap n/\h.cd s=Ik cs/\Tw cs=n/\b<=s/\s<h.bY/\L s=4/\∀i c,cs[i]? = Ik c->gD L h b Q 3 (len i) c
def MatO(L:Nat->Nat)(h:dj)(b:Nat)(Q:Nat->Prop)(n:Nat)(v:PV):Prop:=(n=0/\v=Tt)\/gD L h b Q 2 n v
def TenO(L:Nat->Nat)(h:dj)(b:Nat)(Q:Nat->Prop)(n:Nat)(len:Nat->Nat)(v:PV):Prop:=(n=0/\v=Tt)\/CX L h b Q n len v
def kI.one(a:kI L h b k x v):v.one=Im:=by obtain⟨s,cap,rfl,_⟩:=a;rfl
def kI.cells(a:kI L h b k x v):v.cells=[v]:=by obtain⟨s,cap,rfl,_⟩:=a;rfl
def gw.one(a:gw L h b Q v):v.one=Im:=by obtain⟨x,_,a⟩:=a;exact a.one
def gD.one(a:gD L h b Q k n v):v.one=Im:=by obtain⟨s,cap,cs,rfl,_⟩:=a;rfl
def gD.cells(a:gD L h b Q k n v):v.cells=[v]:=by obtain⟨s,cap,cs,rfl,_⟩:=a;rfl
def MatO.one(a:MatO L h b Q n v):v.one=Im:=by rcases a with ⟨_,rfl⟩|a;rfl;exact a.one
def MatO.cells(a:MatO L h b Q n v):v.cells=[v]:=by rcases a with ⟨_,rfl⟩|a;rfl;exact a.cells
def TenO.one(a:TenO L h b Q n len v):v.one=Im:=by rcases a with ⟨_,rfl⟩|⟨s,cap,cs,rfl,_⟩<;>rfl
def TenO.cells(a:TenO L h b Q n len v):v.cells=[v]:=by rcases a with ⟨_,rfl⟩|⟨s,cap,cs,rfl,_⟩<;>rfl
def MatO.nN(a:MatO L h b Q n v):nN v=Ik (.int .i64 n):=by rcases a with ⟨rfl,rfl⟩|⟨s,cap,cs,rfl,_⟩<;>rfl
def TenO.nN(a:TenO L h b Q n len v):nN v=Ik (.int .i64 n):=by rcases a with ⟨rfl,rfl⟩|⟨s,cap,cs,rfl,_⟩<;>rfl
def kI.c7(a:kI L h b k x v)(J:h.bY<=h'.bY)(I:∀t,b<=t->t<h.bY->h'.cd t=h.cd t)(H:∀t,t<h.bY->L' t=L t):kI L' h' b k x v:=by
 obtain⟨s,cap,rfl,B,E,m,A,G⟩:=a;exact⟨s,cap,rfl,B,by rw[I s m A];exact E,m,aH,by rw[H s A];exact G⟩
def gw.c7(a:gw L h b Q v)(B:h.bY<=h'.bY)(E:∀t,b<=t->t<h.bY->h'.cd t=h.cd t)(A:∀t,t<h.bY->L' t=L t):gw L' h' b Q v:=by
 obtain⟨x,m,a⟩:=a;exact⟨x,m,a.c7 B E A⟩
def gD.c7(a:gD L h b Q k n v)(T:h.bY<=h'.bY)(E:∀t,b<=t->t<h.bY->h'.cd t=h.cd t)(B:∀t,t<h.bY->L' t=L t):gD L' h' b Q k n v:=by
 obtain⟨s,cap,cs,rfl,G,H,I,m,A,J,N⟩:=a;exact⟨s,cap,cs,rfl,G,by rw[E s m A];exact H,I,m,aH,by rw[B s A];exact J,λc S=>(N c S).c7 T E B⟩
def CX.c7(a:CX L h b Q n len v)(T:h.bY<=h'.bY)(E:∀t,b<=t->t<h.bY->h'.cd t=h.cd t)(B:∀t,t<h.bY->L' t=L t):CX L' h' b Q n len v:=by
 obtain⟨s,cap,cs,rfl,G,H,I,m,A,J,N⟩:=a;exact⟨s,cap,cs,rfl,G,by rw[E s m A];exact H,I,m,aH,by rw[B s A];exact J,λi c S=>(N i c S).c7 T E B⟩
structure PW(L:Nat->Nat)(b:Nat)(h:dj)(Q:Nat->Prop)(O:V1)(nP nC:Nat)(len:Nat->Nat)(vO vP vC:PV):Prop where
 hO:kI L h b 5 O vO
 hP:MatO L h b Q nP vP
 hC:TenO L h b Q nC len vC
variable{nP nC:Nat}
def PW.keepL(a:PW L b h Q O nP nC len vO vP vC)(A:h.bY<=h'.bY)(B:∀t,b<=t->t<h.bY->h'.cd t=h.cd t)(m:∀t,t<h.bY->L' t=L t):PW L' b h' Q O nP nC len vO vP vC:=
 ⟨a.hO.c7 A B m,a.hP.imp id λa=>a.c7 A B m,a.hC.imp id λa=>a.c7 A B m⟩
def PW.mv(a:PW L b h Q O nP nC len vO vP vC)(hs:s<b)(m:Mv h s h'):PW L b h' Q O nP nC len vO vP vC:=a.keepL (by rw[m.bY];exact sB _) (λt A _=>m.cd aH) λ_ _=>rfl
def PW.set(a:PW L b h Q O nP nC len vO vP vC)(hs:s<b)(m:List PV):PW L b (h.set s m) Q O nP nC len vO vP vC:=a.keepL (sB _) (λt A _=>by rw[zG,Iv aH]) λ_ _=>rfl
def kI.tree(a:kI L h b k x v):∃t:TR,t.ok h b/\t.pv=v/\∀m,FI (t.fz m) x:=by
 obtain⟨s,cap,rfl,A,B,E,G,H⟩:=a;exact⟨TR.row s cap x,TR.row_ok A B E G,TR.row_pv,λm=>TR.row_FI⟩
def trees{α:Type}{R:PV->α->Prop}:∀{cs:List PV},(∀c∈cs,∃(t:TR) (x:α),t.ok h b/\t.pv=c/\∀m,R (t.fz m) x)->∃(ts:List TR) (xs:List α),TR.oks h b ts/\TR.pvs ts=cs/\∀m,ez R (TR.fzs m ts) xs
 |[],_=>⟨[],[],Is,rfl,λ_=>ez.nil _⟩
 |c::cs,hc=>by
  obtain⟨t,x,N,S,T⟩:=hc c (Yp ..);obtain⟨ts,xs,H,I,J⟩:=trees λG h'=>hc G (Yc _ h');refine⟨t::ts,x::xs,⟨N,H⟩,by simp only[TR.pvs,S,I],λm=>?_⟩;have U:=T m;have E:=J m;refine⟨by simp only[TR.fzs,YF,E.1],λi v y A B=>?_⟩;cases i with
  |zero=>simp only[TR.fzs,Og,YR]at A B;rw[<-A,<-B];exact U
  |succ i=>simp only[TR.fzs,IU]at A B;exact E.2 i v y A B
def Zf:∀ts:List TR,(TR.pvs ts).length=Tw ts
 |[]=>rfl
 |t::ts=>by simp only[TR.pvs,YF,Zf ts]
def RowQ(Q:Nat->Prop)(v:PV)(x:V1):Prop:=FI v x/\Q (Tw x)
def MatQ(Q:Nat->Prop)(v:PV)(M:V2):Prop:=hK v M/\∀r∈M,Q (Tw r)
def zJI{cs:List PV}{xs:V2}(a:ez (RowQ Q) cs xs):ez FI cs xs/\∀r∈xs,Q (Tw r):=by
 refine⟨⟨a.1,λi v y B E=>(a.2 i v y B E).1⟩,λr A=>?_⟩;obtain⟨i,m,rfl⟩:=YE.1 A;exact(a.2 i _ _ (na (by rw[a.1];exact m)) (na m)).2
def gD.tree(a:gD L h b Q k n v):∃(t:TR) (M:V2),(t.ok h b/\t.pv=v/\∀m,MatQ Q (t.fz m) M)/\Tw M=n:=by
 obtain⟨s,cap,cs,rfl,I,J,N,S,T,h6,U⟩:=a;obtain⟨ts,xs,H,E,G⟩:=trees (R:=RowQ Q) (cs:=cs) (h:=h) (b:=b) λc V=>by
  obtain⟨x,q,a⟩:=U c V;obtain⟨t,W,X,Y⟩:=a.tree;exact⟨t,x,W,X,λm=>⟨Y m,q⟩⟩
 have A:(Tw ts)=n:=by rw[<-N,<-E,Zf]
 have B:(Tw xs)=n:=by
  have:=(G λ_=>0).1
  rw[TR.fzs_length]at this;omega
 refine⟨.lst s cap ts,xs,⟨⟨⟨by rw[A];exact I,by rw[E];exact J,S,T⟩,H⟩,by simp only[TR.pv,A],λm=>?_⟩,B⟩;obtain⟨Z,q2⟩:=zJI (G m);exact⟨⟨Im,.sl (m s) 0 (Tw ts) cap,TR.fzs m ts,by simp only[TR.fz,A,B],Z⟩,q2⟩
structure GP(Q:Nat->Prop)(P:V2)(C:V3)(nP nC:Nat)(len:Nat->Nat):Prop where
 pl:(Tw P)=nP
 cl:(Tw C)=nC
 pq:∀r∈P,Q (Tw r)
 row:∀i,i<nC->(C.getD i []).length=len i
 cq:∀q∈C,∀r∈q,Q (Tw r)
def MatO.tree(a:MatO L h b Q n v):∃(t:TR) (M:V2),(t.ok h b/\t.pv=v/\∀m,MatQ Q (t.fz m) M)/\Tw M=n:=by
 rcases a with ⟨rfl,rfl⟩|a
 .exact⟨.nil,[],⟨Is,rfl,λm=>⟨⟨Im,.cU,[],rfl,ez.nil _⟩,λr A=>by cases A⟩⟩,rfl⟩
 .exact a.tree
def TenO.tree(a:TenO L h b Q n len v):∃(t:TR) (C:V3),(t.ok h b/\t.pv=v/\∀A,DB (t.fz A) C)/\Tw C=n/\(∀i,i<n->(C.getD i []).length=len i)/\∀q∈C,∀r∈q,Q (Tw r):=by
 rcases a with ⟨rfl,rfl⟩|⟨s,cap,cs,rfl,h1,h2,h3,h4,h5,h6,h7⟩
 .exact⟨.nil,[],⟨Is,rfl,λA=>⟨Im,.cU,[],rfl,ez.nil _⟩⟩,rfl,λi H=>aH,λq hq=>by cases hq⟩
 .have key:∀(m:Nat) (B:List PV),(∀i c,B[i]? = Ik c->gD L h b Q 3 (len (m+i)) c)->∃(ts:List TR) (xs:V3),TR.oks h b ts/\TR.pvs ts=B/\(∀A,ez hK (TR.fzs A ts) xs)/\(∀i,i<Tw xs->(xs.getD i []).length=len (m+i))/\∀q∈xs,∀r∈q,Q (Tw r):=by
   intro m B
   induction B generalizing m with
   |nil=>exactλ_=>⟨[],[],Is,rfl,λ_=>ez.nil _,λi H=>(by simp at H),λq hq=>by cases hq⟩
   |cons d B ih=>
    intro W;obtain⟨t,M,⟨k1,k2,Y⟩,k4⟩:=(W 0 d rfl).tree;obtain⟨ts,xs,S,G,E,Z,T⟩:=ih (m+1) λi c U=>by
     have:=W (i+1) c (by simpa using U)
     rw[show m+1+i=m+(i+1) by omega];exact this
    refine⟨t::ts,M::xs,⟨k1,S⟩,by simp only[TR.pvs,k2,G],λA=>⟨by simp only[TR.fzs,YF,(E A).1],λi w y I J=>?_⟩,λi H=>?_,λq hq r X=>?_⟩
    .cases i with
     |zero=>simp only[TR.fzs,Og,YR]at I J;rw[<-I,<-J];exact(Y A).1
     |succ i=>simp only[TR.fzs,IU]at I J;exact(E A).2 i w y I J
    .grind
    .rcases Yq.1 hq with rfl|hq
     .exact(Y λ_=>0).2 r X
     .exact T q hq r X
  obtain⟨ts,xs,S,G,E,Z,T⟩:=key 0 cs λi c U=>by rw[Y4];exact h7 i c U
  have N:(Tw ts)=n:=by rw[<-h3,<-G,Zf]
  have V:(Tw xs)=n:=by
   have:=(E λ_=>0).1
   rw[TR.fzs_length]at this;omega
  exact⟨.lst s cap ts,xs,⟨⟨⟨by rw[N];exact h1,by rw[G];exact h2,h4,h5⟩,S⟩,by simp only[TR.pv,N],λA=>⟨Im,.sl (A s) 0 (Tw ts) cap,TR.fzs A ts,by simp only[TR.fz,N,V],E A⟩⟩,V,λi H=>by simp_all,T⟩
def PW.fin(a:PW L b h Q O nP nC len vO vP vC)(hk:dq σ h)(A:σ.bY<=b)(k:∀J N I P C,eQ J N I O P C->GP Q P C nP nC len->K (.agg [J,N,I]) σ):Gh σ K (.agg [vO,vP,vC]) h:=by
 obtain⟨B,S,rfl,T⟩:=a.hO.tree;obtain⟨E,P,⟨b1,rfl,H⟩,U⟩:=a.hP.tree;obtain⟨G,C,⟨V,rfl,W⟩,X,Y,Z⟩:=a.hC.tree;have et:(TR.agg [B,E,G]).pv=.agg [B.pv,E.pv,G.pv]:=by simp only[TR.pv,TR.pvs]
 rw[<-et];refine Gh.treeF hk ⟨QL A (ql S),QL A (ql b1),QL A (ql V),Is⟩ λm=>?_
 have:=k (B.fz m) (E.fz m) (G.fz m) P C ⟨T m,(H m).1,W m⟩ ⟨U,X,(H m).2,Y,Z⟩
 simpa only[TR.fz,TR.fzs]using this
def l6(L:Nat->Nat)(s k:Nat):Nat->Nat:=λt=>if t=s then k else L t
def zAm{i:Nat}{y:Int}(A:h.cd s=Ik (eh x))(m:i<Tw x):h.wr s i [.int .i64 y]=Ik (h.set s (eh (x.set i y))):=by
 rw[zL A,Iu ⟨by rw[zK];simp;omega,rfl⟩];congr 2;exact zq m
def kI.wr{y:V1}{j:Nat}(a:kI L h b j y v)(J:L s=k)(N:j≠k):kI L (h.set s cs) b j y v:=by
 obtain⟨A,cap,rfl,E,G,H,I,m⟩:=a;have B:A≠s:=λe=>N (by rw[<-m,e,J]);exact⟨A,cap,rfl,E,by rw[zG,Iv B];exact G,H,I,m⟩
def gw.wrR{y:V1}(a:gw L h b Q v)(S:h.cd s=Ik (eh x))(N:(Tw y)=Tw x):gw L (h.set s (eh y)) b Q v:=by
 obtain⟨z,J,B,cap,rfl,E,A,G,H,I⟩:=a;by_cases e:B=s
 .subst e;rw[S]at A;have T:(Tw x)=Tw z:=by rw[<-zK x,<-zK z];exact congrArg Nh (Option.some.inj A)
  have m:(Tw y)=Tw z:=N.trans T;exact⟨y,by rw[m];exact J,B,cap,by rw[m],by rw[m];exact E,by rw[zG,Iu rfl],G,H,I⟩
 .exact⟨z,J,B,cap,rfl,E,by rw[zG,Iv e];exact A,G,H,I⟩
def gw.wrN(a:gw L h b Q v)(m:L s≠1):gw L (h.set s cs) b Q v:=by
 obtain⟨z,A,a⟩:=a;exact⟨z,A,a.wr rfl (Ne.symm m)⟩
def gD.wrR{y:V1}(a:gD L h b Q k n v)(W:h.cd s=Ik (eh x))(V:(Tw y)=Tw x)(S:L s=1)(U:k≠1):gD L (h.set s (eh y)) b Q k n v:=by
 obtain⟨A,cap,cs,rfl,E,G,H,I,J,m,N⟩:=a;have B:A≠s:=λe=>U (by rw[<-m,e,S]);exact⟨A,cap,cs,rfl,E,by rw[zG,Iv B];exact G,H,I,J,m,λc T=>(N c T).wrR W V⟩
def PW.setRow(a:PW L b h Q O nP nC len vO vP vC){i:Nat}{y:Int}(B:h.cd s=Ik (eh x))(V:i<Tw x)(m:L s=1):
  h.wr s i [.int .i64 y]=Ik (h.set s (eh (x.set i y)))/\PW L b (h.set s (eh (x.set i y))) Q O nP nC len vO vP vC:=by
 refine⟨zAm B V,a.hO.wr m Tx,a.hP.imp id λa=>a.wrR B (Yx ..) m Tx,a.hC.imp id λa=>?_⟩;obtain⟨E,cap,cs,rfl,H,I,J,N,S,A,T⟩:=a;have G:E≠s:=λe=>by rw[e,m]at A;cases A
 exact⟨E,cap,cs,rfl,H,by rw[zG,Iv G];exact I,J,N,S,A,λj c U=>(T j c U).wrR B (Yx ..) m Tx⟩
def gD.wrL{i:Nat}(a:gD L h b Q k n v){j:Nat}(X:h.cd s=Ik cs)(U:L s=j)(W:j≠1)(V:gw L h b Q c):gD L (h.set s (cs.set i c)) b Q k n v:=by
 obtain⟨E,cap,T,rfl,G,B,H,I,J,N,S⟩:=a;have A:L s≠1:=by rw[U];exact W
 by_cases e:E=s
 .subst e;rw[X]at B;cases B;refine⟨E,cap,cs.set i c,rfl,G,by rw[zG,Iu rfl],by rw[Yx];exact H,I,J,N,λd m=>?_⟩;rcases O3 m with m|rfl
  .exact(S d m).wrN A
  .exact V.wrN A
 .exact⟨E,cap,T,rfl,G,by rw[zG,Iv e];exact B,H,I,J,N,λd m=>(S d m).wrN A⟩
def PW.putRow(a:PW L b h Q O nP nC len vO vP vC){i:Nat}(A:h.cd s=Ik cs)(X:i<Tw cs)(Y:L s=2\/L s=3)(m:gw L h b Q c):
  h.wr s i [c]=Ik (h.set s (cs.set i c))/\PW L b (h.set s (cs.set i c)) Q O nP nC len vO vP vC:=by
 have E:L s≠1:=aH
 refine⟨ZE A X m.one,a.hO.wr rfl aH,a.hP.imp id λa=>a.wrL A rfl E m,a.hC.imp id λa=>?_⟩;obtain⟨G,cap,I,rfl,J,N,S,T,U,B,V⟩:=a;have H:G≠s:=λe=>by rw[e]at B;omega
 exact⟨G,cap,I,rfl,J,by rw[zG,Iv H];exact N,S,T,U,B,λj d W=>(V j d W).wrL A rfl E m⟩
def PW.powers(a:PW L b h Q O nP nC len vO vP vC)(J:0<nP):∃s cap cs,vP=.sl s 0 nP cap/\h.cd s=Ik cs/\Tw cs=nP/\L s=2/\b<=s/\s<h.bY/\∀c∈cs,gw L h b Q c:=by
 rcases a.hP with ⟨e,_⟩|⟨s,cap,cs,rfl,I,m,A,B,E,G,H⟩
 .omega
 .exact⟨s,cap,cs,rfl,m,A,G,B,E,H⟩
def PW.conj(a:PW L b h Q O nP nC len vO vP vC){i:Nat}(Z:i<nC):∃s cap t m,vC=.sl s 0 nC cap/\h.gv s i=Ik (.sl t 0 (len i) m)/\b<=s/\s<h.bY/\∃cs,h.cd t=Ik cs/\Tw cs=len i/\L t=3/\b<=t/\t<h.bY/\∀c∈cs,gw L h b Q c:=by
 rcases a.hC with ⟨e,_⟩|⟨s,cap,cs,rfl,W,N,X,S,T,Y,U⟩
 .omega
 .obtain⟨t,m,A,e,V,B,E,G,H,I,J⟩:=U i _ (na aH);exact⟨s,cap,t,m,rfl,by rw[zH N,na aH,e],S,T,A,B,E,I,G,H,J⟩
end
section
open Go.Grp
variable{s:Nat}{L L':Nat->Nat}{Q:Nat->Prop}{len:Nat->Nat}
def zk(hs:h.bY<=s):∀t,t<h.bY->l6 L s k t=L t:=λt m=>Iv aH
def qG:l6 L s k s=k:=Iu rfl
def kI.keepK{j:Nat}(a:kI L h b j x v)(J:j≠k)(S:h.bY<=h'.bY)(N:∀t,b<=t->t<h.bY->L t≠k->h'.cd t=h.cd t)(I:∀t,t<h.bY->L t≠k->L' t=L t):kI L' h' b j x v:=by
 obtain⟨s,cap,rfl,G,H,A,B,E⟩:=a;have m:L s≠k:=by rw[E];exact J
 exact⟨s,cap,rfl,G,by rw[N s A B m];exact H,A,aH,by rw[I s B m];exact E⟩
def gw.keepK(a:gw L h b Q v)(B:1≠k)(E:h.bY<=h'.bY)(G:∀t,b<=t->t<h.bY->L t≠k->h'.cd t=h.cd t)(A:∀t,t<h.bY->L t≠k->L' t=L t):gw L' h' b Q v:=by
 obtain⟨x,m,a⟩:=a;exact⟨x,m,a.keepK B E G A⟩
def gD.keepK{j:Nat}(a:gD L h b Q j n v)(V:j≠k)(I:1≠k)(W:h.bY<=h'.bY)(H:∀t,b<=t->t<h.bY->L t≠k->h'.cd t=h.cd t)(G:∀t,t<h.bY->L t≠k->L' t=L t):gD L' h' b Q j n v:=by
 obtain⟨s,cap,cs,rfl,J,N,S,A,B,E,T⟩:=a;have m:L s≠k:=by rw[E];exact V
 exact⟨s,cap,cs,rfl,J,by rw[H s A B m];exact N,S,A,aH,by rw[G s B m];exact E,λc U=>(T c U).keepK I W H G⟩
def CX.keepK(a:CX L h b Q n len v)(J:1≠k)(N:3≠k)(I:4≠k)(X:h.bY<=h'.bY)(H:∀t,b<=t->t<h.bY->L t≠k->h'.cd t=h.cd t)(G:∀t,t<h.bY->L t≠k->L' t=L t):CX L' h' b Q n len v:=by
 obtain⟨s,cap,cs,rfl,S,T,U,A,B,E,V⟩:=a;have m:L s≠k:=by rw[E];exact I
 exact⟨s,cap,cs,rfl,S,by rw[H s A B m];exact T,U,A,aH,by rw[G s B m];exact E,λi c W=>(V i c W).keepK N J X H G⟩
def PW.keepK(a:PW L b h Q O nP nC len vO vP vC)(E:6<=k)(A:h.bY<=h'.bY)(B:∀t,b<=t->t<h.bY->L t≠k->h'.cd t=h.cd t)(m:∀t,t<h.bY->L t≠k->L' t=L t):PW L' b h' Q O nP nC len vO vP vC:=
 ⟨a.hO.keepK aH A B m,a.hP.imp id λa=>a.keepK aH aH A B m,a.hC.imp id λa=>a.keepK aH aH aH A B m⟩
def DF(L:Nat->Nat)(h:dj)(b:Nat)(Q:Nat->Prop)(k n:Nat)(v:PV):Prop:=(n=0/\v=Tt)\/gD L h b Q k n v
def DF.acc(a:DF L h b Q k n v):∃cs,fB b 1 h v n cs/\(∀c∈cs,gw L h b Q c)/\∀t off l c,v=.sl t off l c->L t=k:=by
 rcases a with ⟨rfl,rfl⟩|⟨s,cap,cs,rfl,m,A,J,B,E,G,H⟩
 .exact⟨[],fB.nil _ _ _,λc I=>(by cases I),λt off l c e=>by cases e⟩
 .exact⟨cs,.inr ⟨s,cap,rfl,m,A,aH,B,E⟩,H,λt off l c e=>by simp only[PV.sl.injEq]at e;rw[<-e.1];exact G⟩
def DF.push{G:PV×dj->Prop}(a:DF L h b Q k n v)(V:k≠1)(hc:gw L h b Q c)(hk:dq σ h)(hb:σ.bY<=b)(nZ:b<=h.bY)(hn:n<=1048576)
  (kk:∀E h' L',dq σ h'->gD L' h' b Q k (n+1) E->h.bY<h'.bY->(∀t,t<h.bY->L' t=L t)->(∀t,t<h.bY->L t≠k->h'.cd t=h.cd t)->(∀t,t<b->h'.cd t=h.cd t)->G (E,h')):iU (zW 1 24 (h.cb [c]) v (.sl h.bY 0 1 (.cm 1))) G:=by
 obtain⟨cs,acc,eX,hL⟩:=a.acc;refine fB.pushS hk (acc.low hb) rfl aH aH λE h' k1 S J n1 l1=>?_;obtain⟨A,T,rfl,W,X,Y,g4,Z⟩:=S;have H:h.bY<=A:=by
  grind
 have N:∀t,t<h.bY->L t≠k->h'.cd t=h.cd t:=λt m B=>J t m λoff l c e=>B (hL t off l c e);have U:h.bY<=h'.bY:=aH
 have oQ:∀{d:PV},gw L h b Q d->gw (l6 L A k) h' b Q d:=λ{d} I=>I.keepK (k:=k) (Ne.symm V) U (λt _ m B=>N t m B) λt m _=>zk H t m;refine kk _ h' (l6 L A k) k1 ⟨A,T,cs++[c],rfl,W,X,by simpa using Y,aH,Z,qG,λd I=>?_⟩ l1 (zk H) N λt m=>?_
 .grind
 .refine J t aH λoff l c e=>?_;rcases acc with ⟨rfl,_,_⟩|⟨s,cap,rfl,q1,q2,q3,q4,q5⟩
  .cases e
  .simp only[PV.sl.injEq]at e;omega
def PW.pushP{H:PV×dj->Prop}(a:PW L b h Q O nP nC len vO vP vC)(J:gw L h b Q c)(N:dq σ h)(I:σ.bY<=b)(X:b<=h.bY)(S:nP<=1048576)
  (U:∀A h' L',dq σ h'->PW L' b h' Q O (nP+1) nC len vO A vC->h.bY<h'.bY->(∀t,t<b->h'.cd t=h.cd t)->(∀t,t<h.bY->7<=L t->h'.cd t=h.cd t/\L' t=L t)->H (A,h')):iU (zW 1 24 (h.cb [c]) vP (.sl h.bY 0 1 (.cm 1))) H:=by
 refine DF.push (k:=2) a.hP Tx J N I X S λA h' L' T W V E G Y=>U A h' L' T ⟨?_,.inr W,?_⟩ V Y λt m Z=>⟨G t m aH,E t m⟩
 .exact a.hO.keepK (k:=2) Tx aH (λt _ m B=>G t m B) λt m _=>E t m
 .exact a.hC.imp id λa=>a.keepK (k:=2) Tx Tx Tx aH (λt _ m B=>G t m B) λt m _=>E t m
def PW.pushC{Y:PV×dj->Prop}{m:Nat}(a:PW L b h Q O nP nC len vO vP vC)(E:gD L h b Q 6 m c)(hm:len nC=m)(hk:dq σ h)(hb:σ.bY<=b)(nZ:b<=h.bY)(hn:nC<=1048576)
  (kk:∀X h' L',dq σ h'->PW L' b h' Q O nP (nC+1) len vO vP X->h.bY<h'.bY->(∀t,t<b->h'.cd t=h.cd t)->(∀t,t<h.bY->7<=L t->h'.cd t=h.cd t/\L' t=L t)->Y (X,h')):iU (zW 1 24 (h.cb [c]) vC (.sl h.bY 0 1 (.cm 1))) Y:=by
 obtain⟨J,nJ,IP,rfl,z1,z2,z3,z4,z5,z6,z7⟩:=E;have acc:∃cs,fB b 1 h vC nC cs/\(∀i c,cs[i]? = Ik c->gD L h b Q 3 (len i) c)/\∀t off l c,vC=.sl t off l c->L t=4:=by
  rcases a.hC with ⟨rfl,rfl⟩|⟨s,cap,cs,rfl,T,U,h3,h4,h5,h6,Z⟩
  .exact⟨[],fB.nil _ _ _,λi c E=>(by simp at E),λt off l c e=>by cases e⟩
  .exact⟨cs,.inr ⟨s,cap,rfl,T,U,aH,h4,h5⟩,Z,λt off l c e=>by simp only[PV.sl.injEq]at e;rw[<-e.1];exact h6⟩
 obtain⟨cs,acc,eX,hL⟩:=acc;have csl:(Tw cs)=nC:=by
  rcases acc with ⟨_,T,U⟩|⟨_,_,_,_,_,h,_⟩
  .rw[T,U];rfl
  .omega
 refine fB.pushS hk (acc.low hb) rfl aH aH λX h' k1 a1 o1 n1 l1=>?_;obtain⟨I,aq,rfl,g1,g2,g3,g4,g5⟩:=a1;have bW:h.bY<=I:=by
  grind
 have H:∀t,t<h.bY->L t≠4->h'.cd t=h.cd t:=λt B N=>o1 t B λoff l c e=>N (hL t off l c e);have bZ:h.bY<=h'.bY:=aH
 -- xr marks: xr FJ slot bears 4, xr new FF 3
 have S:∀t,t<h.bY->L t≠6->l6 (l6 L I 4) J 3 t=L t:=λt B N=>by
  unfold l6;grind
 have RW:∀t,b<=t->t<h.bY->L t≠4->h'.cd t=h.cd t:=λt _ B N=>H t B N;have kR:∀{d:PV},gw L h b Q d->gw (l6 (l6 L I 4) J 3) h' b Q d:=λ{d} ⟨x,q,s,cap,e,r1,r2,r3,G,A⟩=>
  ⟨x,q,s,cap,e,r1,by rw[H s G (by rw[A];decide)];exact r2,r3,aH,by rw[S s G (by rw[A];decide)];exact A⟩
 have kM:∀{j m:Nat} {d:PV},j≠4->j≠6->gD L h b Q j m d->gD (l6 (l6 L I 4) J 3) h' b Q j m d:=λ{j m d} Hi Hh ⟨s,cap,cs,e,r1,r2,r3,G,A,W,r7⟩=>
  ⟨s,cap,cs,e,r1,by rw[H s A (by rw[W];exact Hi)];exact r2,r3,G,aH,by rw[S s A (by rw[W];exact Hh)];exact W,λc E=>kR (r7 c E)⟩
 refine kk _ h' (l6 (l6 L I 4) J 3) k1 ⟨?_,a.hP.imp id (kM Tx Tx),.inr ⟨I,aq,cs++[_],rfl,g1,g2,by simpa using g3,aH,g5,?_,λi d V=>?_⟩⟩ l1 (λt B=>?_) λt B Z=>⟨H t B aH,S t B aH⟩
 .obtain⟨s,cap,e,r1,r2,r3,G,A⟩:=a.hO;exact⟨s,cap,e,r1,by rw[H s G (by rw[A];decide)];exact r2,r3,aH,by rw[S s G (by rw[A];decide)];exact A⟩
 .unfold l6;rw[Iv aH,Iu rfl]
 .rcases YY i (Tw cs) with hi|hi
  .grind
  .rw[Yz hi]at V;obtain rfl:i=Tw cs:=by
    grind
   rw[Yh,Og]at V;cases V;rw[csl,hm];exact⟨J,nJ,IP,rfl,z1,by rw[H J z5 (by rw[z6];decide)];exact z2,z3,z4,aH,qG,λc E=>kR (z7 c E)⟩
 .refine o1 t aH λoff l c e=>?_;rcases acc with ⟨rfl,_,_⟩|⟨s,cap,rfl,q1,q2,q3,q4,q5⟩
  .cases e
  .simp only[PV.sl.injEq]at e;omega
def PW.set7(a:PW L b h Q O nP nC len vO vP vC)(A:7<=L s)(cs:List PV):PW L b (h.set s cs) Q O nP nC len vO vP vC:=
 a.keepK (k:=L s) aH (sB _) (λt _ _ m=>by rw[zG,Iv (λe=>m (by rw[e]))]) λ_ _ _=>rfl
def gw.fresh{cap:nK}(m:b<=h.bY)(B:Q (Tw x))(A:full 1 cap (Tw x)):gw (l6 L h.bY 1) (h.cb (eh x)) b Q (.sl h.bY 0 (Tw x) cap):=
 ⟨x,B,h.bY,cap,rfl,A,by rw[zC,Iu rfl],m,YB _,qG⟩
def PW.fresh(a:PW L b h Q O nP nC len vO vP vC)(cs:List PV)(k:Nat):PW (l6 L h.bY k) b (h.cb cs) Q O nP nC len vO vP vC:=a.keepL (Yb _) (λt _ m=>by rw[zC,Iv aH]) (zk (sB _))
def zE9{m:PV}{bs:V1}{σ':dj}(q:dq σ' h)(B:So h s m bs)(hs:s<σ'.bY):So σ' s m bs:=by
 obtain⟨a,A,S⟩:=B;exact⟨a,A,by rw[<-q.cd s hs];exact S.cd,hs,S.fb,S.byt,S.le,S.sd⟩
def kmSo{A:PV}{bs:V1}(km:KM σ s h)(B:So h s A bs)(hs:s<σ.bY):∃σ',Mv σ s σ'/\So σ' s A bs/\dq σ' h/\σ'.bY=σ.bY:=by
 obtain⟨σ',m,q⟩:=km;exact⟨σ',m,zE9 q B (by rw[m.bY];exact hs),q,m.bY⟩
def QY{E:PV}{bs:V1}{cap:nK}(N:So σ s E bs)(G:s≠t)(J:σ.cd t=Ik (eh xs))(S:0<Tw xs/\Tw xs<=1000)(I:∀x h,x∈xs->Mv σ s h->So h s E bs->K (.int .i64 x) h):zA Tp 36 [.ptr s 0,.sl t 0 (Tw xs) cap] σ K:=by
 refine Tn Tryz.func36 ?_;refine Tq ?_;refine zQ N aH λx h B m H=>?_;obtain⟨i,rfl⟩:∃i:Nat,x=(i:Int):=⟨x.toNat,by have:=B.1;omega⟩
 have A:i<Tw xs:=by have:=B.lt aH;omega
 have r1:h.gv t i=Ik (.int .i64 xs[i]):=by rw[zH (by rw[m.cd (Ne.symm G)];exact J),zJ,gi A];rfl
 simp only[Z3,seval,-ae,A,r1];exact I _ h (ss A) m H
def zBx{cap:nK}(H:σ.cd s=Ik (eh xs))(hs:s<σ.bY)(J:(Tw xs)<=1048576)(G:∀cap,full 1 cap (Tw xs)->K (.sl σ.bY 0 (Tw xs) cap) (σ.cb (eh xs))):zA Tp 66 [.sl s 0 (Tw xs) cap] σ K:=by
 refine zA.gh ?_;have B:¬s=σ.bY:=Jn hs;refine Tn Tryz.func66 ?_;refine Tq ?_;refine ft.app (b:=0) (news:=eh xs) (m:=(Tw xs)) (zB σ _) (YQ _) (ft.cb _ 1 rfl (sB _)) rfl (λE=>?_) (by rw[zK,KE]) aH aH λN h' I A=>?_
 .rw[qO];simp only[E,if_false,sB,if_true,KE,ZC,B];rw[zN H,Iu (by rw[zK];omega),J0,YU (by rw[zK];exact sB _)]
 .simp only[Z3,seval,-ae]at A ⊢;exact A.out I (zO _ _) G
def Qp{n k:Nat}(B:n<=1048576)(m:k<n)(A:∀cap,full 1 cap n->K (.sl σ.bY 0 n cap) (σ.cb (eh (iS n k)))):zA Tp 71 [.int .i64 n,.int .i64 k] σ K:=by
 refine To Tryz.func71 ?_;simp only[Z3,seval,-ae,m,zK,YT,zi,E4 (n:=n) aH,Go.Ab.zx (n:=n) aH,UH m];rw[zq (by simpa using m)];exact Gh.finS (s:=σ.bY) (cs:=eh (iS n k)) (zB σ _) (by refine Tq ?_;rfl) (sB _) (zO _ _) (A _ (.inr rfl))
end
section
open Go.Grp
variable{s:Nat}{L L':Nat->Nat}{Q:Nat->Prop}{len:Nat->Nat}
structure FT(σ h:dj)(Q:Nat->Prop)(O:V1)(L:Nat->Nat)(nP nC:Nat)(len:Nat->Nat)(r s:Nat)(vO vP vC:PV):Prop where
 c7:dq σ h
 res:h.cd r=Ik [Tt,Tt,Tt]
 ob:h.cd s=Ik [vO,vP,vC]
 pw:PW L σ.bY h Q O nP nC len vO vP vC
 lr:L r=7
 ls:L s=7
 ne:r≠s
 nr:σ.bY<=r/\r<h.bY
 ns:σ.bY<=s/\s<h.bY
variable{r:Nat}
def FT.r1(a:FT σ h Q O L nP nC len r s vO vP vC):h.gv s 1=Ik vP:=by rw[zH a.ob];rfl
def FT.r2(a:FT σ h Q O L nP nC len r s vO vP vC):h.gv s 2=Ik vC:=by rw[zH a.ob];rfl
def FT.r3(a:FT σ h Q O L nP nC len r s vO vP vC):h.rd s 0 3=Ik [vO,vP,vC]:=by rw[zN a.ob];rfl
def FT.fin(a:FT σ h Q O L nP nC len r s vO vP vC):h.wr r 0 [vO,vP,vC]=Ik (h.set r [vO,vP,vC])/\(h.set r [vO,vP,vC]).rd r 0 3=Ik [vO,vP,vC]/\dq σ (h.set r [vO,vP,vC])/\PW L σ.bY (h.set r [vO,vP,vC]) Q O nP nC len vO vP vC:=by
 refine⟨by rw[zL a.res,Iu ⟨bj,by simp[a.pw.hO.one,a.pw.hP.one,a.pw.hC.one]⟩];rfl,by rw[zZ,Iu rfl];rfl,a.c7.set a.nr.1 _,a.pw.set7 (by rw[a.lr];exact sB _) _⟩
def FT.keepL(a:FT σ h Q O L nP nC len r s vO vP vC)(B:dq σ h')(E:h.bY<=h'.bY)(A:∀t,σ.bY<=t->t<h.bY->h'.cd t=h.cd t)(m:∀t,t<h.bY->L' t=L t):FT σ h' Q O L' nP nC len r s vO vP vC:=
 ⟨B,by rw[A r a.nr.1 a.nr.2];exact a.res,by rw[A s a.ns.1 a.ns.2];exact a.ob,a.pw.keepL E A m,by rw[m r a.nr.2];exact a.lr,by rw[m s a.ns.2];exact a.ls,a.ne,⟨a.nr.1,by have:=a.nr.2;omega⟩,⟨a.ns.1,by have:=a.ns.2;omega⟩⟩
def FT.fresh(a:FT σ h Q O L nP nC len r s vO vP vC)(cs:List PV)(k:Nat):FT σ (h.cb cs) Q O (l6 L h.bY k) nP nC len r s vO vP vC:=a.keepL (a.c7.cb cs) (Yb _) (λt _ m=>by rw[zC,Iv aH]) (zk (sB _))
def FT.step(a:FT σ h Q O L nP nC len r s vO vP vC){I J:Nat}{A B m:PV}(N:dq σ h')(S:PW L' σ.bY h' Q O I J len A B m)(T:h.bY<=h'.bY)(E:∀t,t<h.bY->7<=L t->h'.cd t=h.cd t/\L' t=L t):FT σ (h'.set s [A,B,m]) Q O L' I J len r s A B m:=by
 have hs:=E s a.ns.2 (by rw[a.ls];exact sB _);have G:=E r a.nr.2 (by rw[a.lr];exact sB _);have H:L' s=7:=by rw[hs.2];exact a.ls
 have:=a.nr.2
 have:=a.ns.2
 exact⟨N.set a.ns.1 _,by rw[zG,Iv a.ne,G.1];exact a.res,by rw[zG,Iu rfl],S.set7 (by rw[H];exact sB _) _,by rw[G.2];exact a.lr,H,a.ne,⟨a.nr.1,by show r<h'.bY;omega⟩,⟨a.ns.1,by show s<h'.bY;omega⟩⟩
def FT.old(a:FT σ h Q O L nP nC len r s vO vP vC)(m:∀t,t<h.bY->7<=L t->h'.cd t=h.cd t/\L' t=L t):h'.cd s=Ik [vO,vP,vC]:=by
 rw[(m s a.ns.2 (by rw[a.ls];exact sB _)).1];exact a.ob
def FT.keepK(a:FT σ h Q O L nP nC len r s vO vP vC)(H:6<=k)(E:k≠7)(J:dq σ h')(I:h.bY<=h'.bY)(A:∀t,t<h.bY->L t≠k->h'.cd t=h.cd t)(m:∀t,t<h.bY->L' t=L t):FT σ h' Q O L' nP nC len r s vO vP vC:=
 ⟨J,by rw[A r a.nr.2 (by rw[a.lr];exact Ne.symm E)];exact a.res,by rw[A s a.ns.2 (by rw[a.ls];exact Ne.symm E)];exact a.ob,a.pw.keepK H I (λt _ B G=>A t B G) λt B _=>m t B,by rw[m r a.nr.2];exact a.lr,by rw[m s a.ns.2];exact a.ls,a.ne,⟨a.nr.1,by have:=a.nr.2;omega⟩,⟨a.ns.1,by have:=a.ns.2;omega⟩⟩
def zC7(hlen:nN vX=Ik (.int .i64 (Tw O)))(hb:(Tw O)<=1000)
  (dD:∀{g:dj} {K':PV->dj->Prop},dq σ g->(∀cap,full 1 cap (Tw O)->K' (.sl g.bY 0 (Tw O) cap) (g.cb (eh O)))->zA Tp 66 [vX] g K')
  (hk:∀L h vO vP vC,dq σ h->PW L σ.bY h (λm=>m=Tw O) O (Tw O) (Tw O) (λj=>(Tw O)-1-j) vO vP vC->K (.agg [vO,vP,vC]) h):zA Tp 57 [vX] σ K:=by
 refine Tn Tryz.func57 ?_;simp only[Z3,seval,-ae,hlen];refine dD (zB _ _) λcap V=>?_;refine Tq ?_;generalize hn:(Tw O)=n at *
 refine zF (λm vs h=>∃(i:Nat) (L:Nat->Nat) (vO vP vC:PV),i<=n/\m=n-i/\vs=[.ptr σ.bY 0,.int .i64 n,.ptr (σ.bY+2) 0,.int .i64 i]/\FT σ h (λm=>m=n) O L i i (λj=>n-1-j) σ.bY (σ.bY+2) vO vP vC) n ?_ ?_
 .refine⟨0,λt=>if t=σ.bY+1 then 5 else 7,.sl (σ.bY+1) 0 n cap,_,_,YQ _,rfl,rfl,((zB _ _).cb _).cb _,by simp only[Z3,seval,-ae],by simp only[Z3,seval,-ae],⟨⟨σ.bY+1,cap,by rw[hn],by rw[hn];exact V,by simp only[Z3,seval,-ae],aH,by show σ.bY+1<σ.bY+3;omega,Iu rfl⟩,.inl ⟨rfl,rfl⟩,.inl ⟨rfl,rfl⟩⟩,Iv aH,Iv aH,aH,⟨sB _,by show σ.bY<σ.bY+3;omega⟩,⟨aH,by show σ.bY+2<σ.bY+3;omega⟩⟩
 rintro m vs h ⟨i,L,vO,vP,vC,hi,rfl,rfl,a⟩
 have jg:=a.ns.2;refine Tq ?_;refine Tr (λan=>?_) λaf=>?_
 .have e:i=n:=aH
  subst e;obtain⟨e1,e2,e3,e4⟩:=a.fin;simp only[Z3,seval,-ae,a.r3,e1,e2];exact hk L _ vO vP vC e3 e4
 have n1:¬σ.bY+2=h.bY:=aH
 have n2:¬σ.bY+2=h.bY+1:=aH
 simp only[Z3,seval,-ae,a.r1,n1,n2,zi,E4 (n:=n) aH,Go.Ab.zx (n:=n) aH];have A:=a.fresh (eh (Jf n 0)) 1;have N:gw (l6 L h.bY 1) (h.cb (eh (Jf n 0))) σ.bY (λm=>m=n) (.sl h.bY 0 n (.cm n)):=by
  have:=gw.fresh (L:=L) (h:=h) (b:=σ.bY) (Q:=λm=>m=n) (x:=Jf n 0) (cap:=.cm n) aH bj (by simp[full])
  simpa using this
 refine PW.pushP A.pw N A.c7 (sB _) (by show σ.bY<=h.bY+1;omega) aH λG E L1 k1 S X o1 m1=>?_;have iI:=A.old m1;have w1:E.wr (σ.bY+2) 1 [G]=Ik (E.set (σ.bY+2) [vO,G,vC]):=by rw[zL iI,Iu ⟨bj,by simp[S.hP.one]⟩];rfl
 have J:=A.step k1 S (Ye X) m1;simp only[Z3,seval,-ae,w1,S.hP.cells];have xR:h.bY+1<E.bY:=X;have wi:Tu .i64 ((i:Int)+1)=((i+1:Nat):Int):=WQ
 rw[wi];generalize Z:E.set (σ.bY+2) [vO,G,vC]=g2 at *
 rw[show E.bY=g2.bY by rw[<-Z];rfl];have jS:σ.bY+2<g2.bY:=by rw[<-Z];show _<E.bY;omega
 clear iI w1 m1 o1 S k1 N A a;have a3:=J.fresh [] 6;have B:gD (l6 L1 g2.bY 6) (g2.cb []) σ.bY (λm=>m=n) 6 0 (.sl g2.bY 0 0 (.cm 0)):=⟨g2.bY,.cm 0,[],rfl,.inr rfl,by rw[zC,Iu rfl],rfl,aH,YB _,qG,λc V=>by cases V⟩
 refine zF (λm vs h=>∃(j:Nat) (L:Nat->Nat) (vR:PV),i+1<=j/\j<=n/\m=n-j/\vs=[.ptr σ.bY 0,.int .i64 n,.ptr (σ.bY+2) 0,.int .i64 i,vR,.int .i64 j]/\FT σ h (λm=>m=n) O L (i+1) i (λj=>n-1-j) σ.bY (σ.bY+2) vO G vC/\gD L h σ.bY (λm=>m=n) 6 (j-(i+1)) vR) (n-(i+1)) ?_ ?_
 .exact⟨i+1,_,_,sB _,af,rfl,rfl,a3,by rw[Yh];exact B⟩
 clear a3 B J Z X xR
 rintro m vs h ⟨j,L,vR,tu,hj,rfl,rfl,a,B⟩
 have jg:=a.ns.2;have n1:¬σ.bY+2=h.bY:=aH
 refine Tq ?_;refine Tr (λan=>?_) λjO=>?_
 .have e:j=n:=aH
  subst e;simp only[Z3,seval,-ae,a.r2,B.one,B.cells];refine PW.pushC (m:=j-(i+1)) a.pw B aH a.c7 (sB _) aH aH λI U T W H Y o2 m2=>?_;have w2:U.wr (σ.bY+2) 2 [I]=Ik (U.set (σ.bY+2) [vO,G,I]):=by rw[zL (a.old m2),Iu ⟨bj,by simp[H.hC.one]⟩];rfl
  have J:=a.step W H (Ye Y) m2;simp only[Z3,seval,-ae,w2,H.hC.cells,wi];exact⟨_,aH,i+1,T,vO,G,I,aH,rfl,rfl,J⟩
 refine Tq ?_;refine Qp aH jO λbG cK=>?_;have A:=a.fresh (eh (iS n j)) 1;have N:gw (l6 L h.bY 1) (h.cb (eh (iS n j))) σ.bY (λm=>m=n) (.sl h.bY 0 n bG):=by
  have:=gw.fresh (L:=L) (h:=h) (b:=σ.bY) (Q:=λm=>m=n) (x:=iS n j) (cap:=bG) aH (zg n j) (by rw[zg];exact cK)
  rw[zg]at this;exact this
 refine Tq ?_;refine DF.push (k:=6) (.inr (B.c7 (L':=l6 L h.bY 1) (h':=h.cb (eh (iS n j))) (Yb _) (λt _ ht=>by rw[zC,Iv aH]) (zk (sB _)))) Tx N A.c7 (sB _) (by show σ.bY<=h.bY+1;omega) aH λI U T W H Y lQ vK _=>?_;have wj:Tu .i64 ((j:Int)+1)=((j+1:Nat):Int):=WQ
 simp only[Z3,seval,-ae,wj];refine⟨_,aH,j+1,T,I,aH,aH,rfl,rfl,A.keepK (k:=6) (sB _) Tx W (Ye Y) vK lQ,?_⟩;rw[show j+1-(i+1)=j-(i+1)+1 by omega];exact H
end
end Go.Proofs
