/- . -/
import Derived.Test.YtjcghjopopohiaaGreatDoorQP8
import Derived.Lib.ItoaNum
import Derived.IntWalk
import Derived.Lib.AppendIntMem
set_option linter.all false
set_option linter.defProp false
open Go.IntKind renaming wrap->Tu
open List renaming length->Tw
open Go.Proofs.Tryz renaming prog->Tp
open Bool renaming not_eq_true'->Ng,true->Im
open Int renaming pow_succ->S1,tdiv_nonneg->Tg,tmod_lt_of_pos->Sn,tmod_nonneg->Th,toNat_natCast->KH,toNat_zero->OD
open List renaming all_append->MQ,all_eq_true->Mi,any_eq_true->Nz,drop->Kf,drop_eq_getElem_cons->Pa,drop_eq_nil_of_le->Kz,drop_zero->J0,ext_getElem?->Kr,filter_append->P0,flatten_cons->LY,getElem?_cons_succ->IU,getElem?_cons_zero->Og,getElem?_range->O6,getElem?_replicate->RR,length->Nh,length_nil->Ov,map_congr_left->JI,map_singleton->PG,mem_append_left->Ni,mem_filter->ND,nodup_append->LD,nodup_cons->Q1,nodup_nil->LC,pairwise_map->N0,pairwise_singleton->Ob,range->Iw,range_succ->Om,replicate->Jf,replicate_succ'->Oj,replicate_zero->RP,take->O0
open Nat renaming add_mul->La,eq_zero_or_pos->MB,lt_trichotomy->Je,min_eq_left->Oh,mod_eq_of_lt->L0,mul_one->KE,not_lt_zero->Jv,pow_le_pow_right->O9,pow_lt_pow_right->Pk,testBit_one_eq_true_iff_self_eq_zero->Px
open Option renaming getD_some->NP,map_some->Kc,some->Ik
open True renaming intro->Is
open Int renaming reduceNatCast'->ae
set_option maxRecDepth 100000
namespace Go.Proofs
open Go.Ab Go.Lie Go.Grp Go.Lat
variable{bF:List Nat}{N a b d e i k m t:Nat}{h σ:dj}{vC vG vO vP vT:PV}{K:PV->dj->Prop}{O v v' x y z:V1}{P w:V2}{C:V3}
section
variable{a b:V1}{H:V1->Prop}
abbrev el(O:V1)(t:Nat):V1:=vj O (Tw O) t
abbrev nu(O:V1)(x:V1):Nat:=(ja O x (Tw O)).toNat
def HO(O:V1)(P:V2)(C:V3)(a b:Nat):Nat:=nu O (gm O P C (el O a) (el O b))
def HF(s:kC O P C)(A:t<iV O):nu O (el O t)=t:=by unfold nu el;rw[zFR s A];rfl
def FV(s:kC O P C)(A:gS O x):el O (nu O x)=x:=zIx s A
def nu_lt(s:kC O P C)(A:gS O x):nu O x<iV O:=(zFP s A).1
def nu_zv(O:V1):nu O (zv O)=0:=by unfold nu;rw[zDj];rfl
def zDp(s:kC O P C):el O 0=zv O:=by rw[<-nu_zv O];exact FV s (s.zv _)
def zRi(g:LG O P C)(A:gS O x)(D:gS O y):HO O P C (nu O x) (nu O y)=nu O (gm O P C x y):=by
 unfold HO;rw[FV g.s A,FV g.s D]
def tb(g:LG O P C):Tb (iV O) (HO O P C):=by
 have s:=g.s;have G:=g.F.g;have A:=Za (O:=O) s;refine⟨(ZN s).2,λD I=>nu_lt s (G.cl (A _) (A _)),λD I J=>?_,λD=>?_,λD=>?_⟩
 .show nu O (gm O P C (el O (nu O _)) _)=nu O (gm O P C _ (el O (nu O _)));rw[FV s (G.cl (A _) (A _)),FV s (G.cl (A _) (A _)),G.as (A _) (A _) (A _)]
 .show nu O (gm O P C (el O 0) _)=_;rw[zDp s,G.l1 (A _)];exact HF s D
 .show nu O (gm O P C _ (el O 0))=_;rw[zDp s,G.r1 (A _)];exact HF s D
def pw_pw(g:LG O P C)(A:gS O x)(j:Nat):∀k,pw (gm O P C) (zv O) (pw (gm O P C) (zv O) x j) k=pw (gm O P C) (zv O) x (j*k)
 |0=>rfl
 |k+1=>by
  have M:=g.F.g.toMon;show gm O P C (pw (gm O P C) (zv O) (pw (gm O P C) (zv O) x j) k) _=_;rw[pw_pw g A j k,Nat.mul_succ,M.pw_add A]
def per(g:LG O P C):∀(n:Nat) {x:V1},gS O x->(Tw O)-fR x<=n->∃k,0<k/\pw (gm O P C) (zv O) x k=zv O:=by
 have s:=g.s;have M:=g.F.g.toMon;intro n
 induction n with
 |zero=>
  intro x A h;refine⟨1,aH,?_⟩;rw[Zb A aH];exact M.l1 M.one
 |succ n ih=>
  intro x A h;rcases YY (fR x) (Tw O) with hd|hd
  .obtain⟨D,I⟩:=QG s g.F g.cent hd (ZX A) (at_ O (fR x)).toNat;have V:=s.pr _ hd;rw[Yi aH,Int.mul_emod_right]at I;have U:=M.pw A (at_ O (fR x)).toNat;have J:TT O (fR x+1) (pw (gm O P C) (zv O) x (at_ O (fR x)).toNat):=⟨D.len,D.bd,λj W=>by
    rcases YY j (fR x)with q|q
    .exact D.zero j q
    .rw[show j=fR x by omega];exact I⟩
   obtain⟨k,Q,S⟩:=ih U (by have:=Grp.AX J aH;omega);refine⟨(at_ O (fR x)).toNat*k,Nat.mul_pos aH Q,?_⟩;rw[<-pw_pw g A];exact S
  .refine⟨1,aH,?_⟩;rw[Zb A hd];exact M.l1 M.one
def HM(O:V1)(m:Nat)(x:V1):Prop:=gS O x/\m.testBit (nu O x)=Im
def HM.gB(g:LG O P C)(h:SubM (iV O) (HO O P C) m):gB O P C (HM O m):=by
 have s:=g.s;have G:=g.F.g;have J:∀{x y},HM O m x->HM O m y->HM O m (gm O P C x y):=λ{x y} A D=>
  ⟨G.cl A.1 D.1,by rw[<-zRi g A.1 D.1];exact h.mul _ _ A.2 D.2⟩
 have one:HM O m (zv O):=⟨s.zv _,by rw[nu_zv];exact h.zero⟩
 refine⟨λh=>h.1,one,J,λ{x} A=>?_⟩;obtain⟨k,S,Q⟩:=per g _ A.1 (sB _);obtain⟨k,rfl⟩:∃j,k=j+1:=⟨k-1,aH⟩
 have I:∀j,HM O m (pw (gm O P C) (zv O) x j):=λj=>by
  induction j with
  |zero=>exact one
  |succ j ih=>exact J ih A
 have e:gm O P C x (pw (gm O P C) (zv O) x k)=zv O:=by rw[<-G.toMon.pw_comm A.1 k];exact Q
 rw[<-G.inv_eq A.1 (I k).1 e];exact I k
def HM.inj(s:kC O P C){A:Nat}(h:m<2 ^ iV O)(h':A<2 ^ iV O)(e:∀x,HM O m x↔HM O A x):m=A:=by
 refine zJB λi=>?_;rcases YY i (iV O)with hi|hi
 .have:=e (el O i)
  unfold HM at this;rw[HF s hi]at this;have D:=Za (O:=O) s i;exact⟨λq=>(this.1 ⟨D,q⟩).2,λq=>(this.2 ⟨D,q⟩).2⟩
 .exact⟨λq=>absurd (zAP h q) aH,λq=>absurd (zAP h' q) aH⟩
def Dp(O:V1)(H:V1->Prop)(d:Nat):Prop:=d<Tw O/\∃x,H x/\fR x=d
def Fit(O:V1)(H:V1->Prop)(d:Nat)(x:V1):Prop:=H x/\fR x=d/\at_ x d=1/\∀e,d<e->Dp O H e->at_ x e=0
def zRB{p c:Int}(A:pR p)(I:0<c)(J:c<p):∃k:Nat,((k:Int)*c) % p=1:=by
 have key:∀p∈[2,3,5,7],∀c<p,0<c->∃k<7,(k*c) % p=1:=by decide
 obtain⟨p,rfl⟩:∃q:Nat,p=q:=⟨p.toNat,by have:=A.bd;omega⟩
 obtain⟨c,rfl⟩:∃q:Nat,c=q:=⟨c.toNat,aH⟩
 obtain⟨k,_,D⟩:=key p (by unfold pR at A;simp only[Yq,Ya,or_false];omega) c aH aH;exact⟨k,by exact_mod_cast D⟩
def clr(g:LG O P C){e:Nat}(A:e<Tw O)(D:gS O x)(V:gS O y)(U:fR y=e)(S:at_ y e=1):
  ∃k:Nat,(∀j,j<e->at_ (gm O P C x (pw (gm O P C) (zv O) y k)) j=at_ x j)/\at_ (gm O P C x (pw (gm O P C) (zv O) y k)) e=0:=by
 have s:=g.s;subst U;have J:=D.bd _ A;refine⟨(at_ O (fR y)-at_ x (fR y)).toNat,?_⟩;obtain⟨W,I⟩:=QG s g.F g.cent A (ZX V) (at_ O (fR y)-at_ x (fR y)).toNat;rw[S,Uz,Yi aH]at I;obtain⟨X,Y⟩:=qd s (d:=(Tw O)) (b:=x) (a:=pw (gm O P C) (zv O) y (at_ O (fR y)-at_ x (fR y)).toNat) (t:=fR y) (sB _) aH A (by rw[Yh];exact D) W;refine⟨X,?_⟩;have Q:at_ (gm O P C x (pw (gm O P C) (zv O) y (at_ O (fR y)-at_ x (fR y)).toNat)) (fR y)=_:=Y;rw[Q,I,zCS J ⟨UE _ aH,UP _ aH⟩,Int.add_emod_emod];rw[show at_ x (fR y)+(at_ O (fR y)-at_ x (fR y))=at_ O (fR y) by omega,Int.emod_self]
def Fit.ex1(g:LG O P C)(J:gB O P C H)(U:Dp O H d):∃x,H x/\fR x=d/\at_ x d=1:=by
 obtain⟨A,x,Q,rfl⟩:=U;have s:=g.s;have I:=J.inS Q;have S:=I.bd _ A;have Y:at_ x (fR x)≠0:=QA (by rw[I.len];exact A);have W:pR (at_ O (fR x)):=by rw[gj A];exact g.pr.isp _ (ss A)
 obtain⟨k,V⟩:=zRB (c:=at_ x (fR x)) W aH S.2;obtain⟨X,D⟩:=QG s g.F g.cent A (ZX I) k;rw[V]at D;have pS:=g.F.g.toMon.pw I k;refine⟨_,J.pw Q k,?_,D⟩;have Z:=Grp.AX X aH;rcases YY (fR x) (fR (pw (gm O P C) (zv O) x k))with q|q
 .rw[qW q]at D;cases D
 .omega
def zSJ{x:V1}{d:Nat}(A:∀j,j<d->at_ x j=0)(J:d<Tw x)(D:at_ x d≠0):fR x=d:=by
 have I:d<=fR x:=Go.Lie.AX aH A;rcases YY d (fR x)with q|q
 .exact absurd (qW q) D
 .omega
def Fit.ex(g:LG O P C)(I:gB O P C H)(Y:Dp O H d):∃x,Fit O H d x:=by
 have hl:=Y.1;have key:∀e,∃x,H x/\fR x=d/\at_ x d=1/\∀e',d<e'->e'<e->Dp O H e'->at_ x e'=0:=by
  intro e
  induction e with
  |zero=>
   obtain⟨x,A,Q,D⟩:=Fit.ex1 g I Y;exact⟨x,A,Q,D,λe' _ q=>aH⟩
  |succ e ih=>
   obtain⟨x,A,Q,D,U⟩:=ih;by_cases J:d<e/\Dp O H e
   .obtain⟨y,y1,y2,y3⟩:=Fit.ex1 g I J.2;obtain⟨k,S,c2⟩:=clr g J.2.1 (I.inS A) (I.inS y1) y2 y3;have Z:=I.cl A (I.pw y1 k);refine⟨_,Z,zSJ (λj hj=>?_) (by rw[(I.inS Z).len];exact hl) ?_,?_,λe' V q2 W=>?_⟩
    .rw[S j aH];exact qW aH
    .rw[S d J.1,D];decide
    .rw[S d J.1,D]
    .rcases YY e' e with q|q
     .rw[S e' q];exact U e' V q W
     .rw[show e'=e by omega];exact c2
   .refine⟨x,A,Q,D,λe' V q2 W=>?_⟩;rcases YY e' e with q|q
    .exact U e' V q W
    .obtain rfl:e'=e:=aH
     exact absurd ⟨V,W⟩ J
 obtain⟨x,A,Q,D,U⟩:=key (Tw O);exact⟨x,A,Q,D,λe J X=>U e J X.1 X⟩
def Fit.one(g:LG O P C)(D:gB O P C H)(X:d<Tw O)(h:Fit O H d v)(h':Fit O H d v'):v=v':=by
 have s:=g.s;have G:=g.F.g;have A:=D.inS h.1;have b1:=D.inS h'.1;have S:=G.inv_in A;have Q:H (gm O P C (mE (gS O) (gm O P C) (zv O) v) v'):=D.cl (D.inv h.1) h'.1;have e:gm O P C v (gm O P C (mE (gS O) (gm O P C) (zv O) v) v')=v':=by rw[<-G.as A S.1 b1,S.2,G.l1 b1]
 generalize gm O P C (mE (gS O) (gm O P C) (zv O) v) v'=z at *
 have I:=D.inS Q;rcases YY (fR z) (Tw O) with uW|uW
 .exfalso;obtain⟨V,J⟩:=qd s (d:=(Tw O)) (b:=v) (a:=z) (t:=fR z) (sB _) aH uW (by rw[Yh];exact A) (ZX I);have e':mu O P C (Tw O) v z=v':=e;rw[e']at V J;have U:at_ z (fR z)≠0:=QA (by rw[I.len];exact uW);have W:at_ v' (fR z)=at_ v (fR z):=by
   rcases Je (fR z) d with h1|h1|h1
   .rw[qW (by rw[h'.2.1];exact h1),qW (by rw[h.2.1];exact h1)]
   .rw[h1,h.2.2.1,h'.2.2.1]
   .have hD:Dp O H (fR z):=⟨uW,z,Q,rfl⟩
    rw[h.2.2.2 _ h1 hD,h'.2.2.2 _ h1 hD]
  exact U (zA7 (A.bd _ uW) (I.bd _ uW) (J.symm.trans W))
 .rw[Zb I uW,G.r1 A]at e;exact e
open Classical in
noncomputable def BQ(O:V1)(m:Nat):V2:=
 (Iw (Tw O)).flatMap λd=>(((Iw (iV O)).map (el O)).filter λx=>decide (Fit O (HM O m) d x))
def zAu(s:kC O P C):v∈BQ O m↔∃d,d<Tw O/\Fit O (HM O m) d v:=by
 unfold BQ;simp only[UY,Yd,ND,YD,decide_eq_true_eq];constructor
 .rintro⟨d,D,_,A⟩;exact⟨d,D,A⟩
 .rintro⟨d,D,A⟩
  exact⟨d,D,⟨nu O v,nu_lt s A.1.1,FV s A.1.1⟩,A⟩
def zCc{α:Type}{p:α->Bool}:∀{L:List α},L.Nodup->(∀x∈L,∀y∈L,p x=Im->p y=Im->x=y)->(L.filter p).length<=1
 |[],_,_=>by simp
 |a::L,hn,h=>by
  rw[Q1]at hn;rw[List.filter_cons];split
  .rename_i D
   have:L.filter p=[]:=List.filter_eq_nil_iff.2 λx A I=>hn.1 (by
    rw[h a bj x (by simp[A]) D I];exact A)
   simp[this]
  .exact zCc hn.2 λx A y J=>h x (by simp[A]) y (by simp[J])
def zP1(s:kC O P C):((Iw (iV O)).map (el O)).Nodup:=by
 rw[List.Nodup,N0]
 have:=List.nodup_range (n:=iV O)
 rw[List.Nodup]at this;refine List.Pairwise.imp_of_mem ?_ this;intro a b D I A e;exact A (zSI s (Yd.1 D) (Yd.1 I) e)
def zET(g:LG O P C)(h:SubM (iV O) (HO O P C) m):sA O (HM O m) (BQ O m):=by
 have s:=g.s;have U:=HM.gB g h;have Y:∀{v d},Fit O (HM O m) d v->d<Tw O->Dp O (HM O m) (fR v):=λ{v d} f A=>⟨by rw[f.2.1];exact A,v,f.1,rfl⟩
 refine⟨?_,λv I=>?_,λv I=>?_,λv I w hw aj=>?_,λx Q A=>?_⟩
 .unfold BQ;rw[List.pairwise_flatMap];refine⟨λd A=>?_,List.Pairwise.imp_of_mem ?_ List.pairwise_lt_range⟩
  .have J:=zCc (p:=λx=>@decide (Fit O (HM O m) d x) (Classical.propDecidable _)) (zP1 s) λx Q y S Z hq=>Fit.one g U (Yd.1 A) (@of_decide_eq_true _ (_) Z) (@of_decide_eq_true _ (_) hq)
   revert J
   generalize ((Iw (iV O)).map (el O)).filter (λx=>@decide (Fit O (HM O m) d x) (Classical.propDecidable _))=L;intro J
   match L,J with
   |[],_=>exact List.Pairwise.nil
   |[a],_=>exact Ob _ _
   |a::b::r,J=>simp at J
  .intro d W A V af x Q y S;simp only[ND,decide_eq_true_eq]at Q S;rw[Q.2.2.1,S.2.2.1];exact af
 .obtain⟨d,A,D⟩:=(zAu s).1 I;exact D.1
 .obtain⟨d,A,D⟩:=(zAu s).1 I;exact⟨D.1.1,by rw[D.2.1];exact A,by rw[D.2.1];exact D.2.2.1⟩
 .obtain⟨d,A,D⟩:=(zAu s).1 I;obtain⟨W,V,X⟩:=(zAu s).1 hw;rcases YY (fR v) (fR w)with q|q
  .exact D.2.2.2 _ (by rw[<-D.2.1];exact q) (Y X V)
  .exact qW aH
 .obtain⟨v,I⟩:=Fit.ex g U ⟨A,x,Q,rfl⟩;exact⟨v,(zAu s).2 ⟨_,A,I⟩,I.2.1⟩
def zCE(g:LG O P C)(h:SubM (iV O) (HO O P C) m):zh O P C (BQ O m)/\∀x,GC O P C (BQ O m) x↔HM O m x:=by
 have A:=zET g h;have I:=HM.gB g h;have e:∀x,GC O P C (BQ O m) x↔HM O m x:=λx=>⟨λD=>D _ I A.mem,zI8 g I A x⟩
 exact⟨⟨λx D=>(A.one x D).1,A.congr λx=>(e x).symm⟩,e⟩
def zOn(g:LG O P C){A:Nat}(h:SubM (iV O) (HO O P C) m)(h':SubM (iV O) (HO O P C) A)(e:BQ O m=BQ O A):m=A:=by
 refine HM.inj g.s h.lt h'.lt λx=>?_;rw[<-(zCE g h).2,<-(zCE g h').2,e]
end
section
variable{x:Nat}{T:Nat->Nat->Nat}
def bt(m a:Nat):Int:=if m.testBit a=Im then 1 else 0
def zRP(m a:Nat):(((m / 2 ^ a % 2:Nat)):Int)=bt m a:=by
 unfold bt;rw[Nat.testBit_eq_decide_div_mod_eq];by_cases h:m / 2 ^ a % 2=1
 .rw[Iu (by simpa using h),h];rfl
 .rw[Iv (by simpa using h),show m / 2 ^ a % 2=0 by omega];rfl
def or_bit(m x i:Nat):(m ||| 2 ^ x).testBit i=Im↔m.testBit i=Im\/i=x:=by
 rw[Nat.testBit_or,UF,Nat.testBit_two_pow];simp only[decide_eq_true_eq];exact or_congr Iff.rfl eq_comm
def tabL(N:Nat)(T:Nat->Nat->Nat):V2:=(Iw N).map λa=>(Iw N).map λb=>((T a b:Nat):Int)
def zER:(tabL N T).length=N:=by simp[tabL]
def zOj(A:a<N):(tabL N T)[a]'(by rw[zER];exact A)=(Iw N).map λb=>((T a b:Nat):Int):=by simp[tabL]
def zOk{rows:List PV}(D:ez FI rows (tabL N T))(A:a<N):∃w o,rows[a]? = Ik (.fz w o N (eh ((Iw N).map λb=>((T a b:Nat):Int)))):=by
 obtain⟨w,o,h⟩:=D.rowI (k:=a) (by rw[zER];exact A);rw[zOj A]at h;exact⟨w,o,by rw[h];simp⟩
def zQU(A:b<N):(eh ((Iw N).map λb=>((T a b:Nat):Int)))[b]? = Ik (.int .i64 ((T a b:Nat):Int)):=by
 rw[zJ,Yl,O6 A];rfl
end
abbrev tbR(N:Nat)(T:Nat->Nat->Nat)(a:Nat):V1:=(Iw N).map λb=>((T a b:Nat):Int)
def zQN(g:LG O P C)(D:a<iV O)(I:b<iV O):ja O (gm O P C (el O a) (el O b)) (Tw O)=((HO O P C a b:Nat):Int):=by
 have A:=Za (O:=O) g.s;exact(zFP g.s (g.F.g.cl (A a) (A b))).2.symm
set_option maxHeartbeats 1600000 in
def zLt(g:LG O P C)(A:eQ vO vP vC O P C)(hb:iV O<=32)(hk:∀v t,hK v (tabL (iV O) (HO O P C))->σ.top<=t->K v (σ.up t)):zA Tp 201 [.agg [vO,vP,vC]] σ K:=by
 have s:=g.s;have F:=g.F;have bB:=s.le;obtain⟨X,jX⟩:=ZN s;have V:=Za (O:=O) s;have D:=A.O.one;have I:=A.P.one;have J:=A.C.one;obtain⟨N,eN⟩:∃N,N=iV O:=⟨_,rfl⟩
 refine To Tryz.func201 ?_;simp only[Z3,seval,-ae,D,I,J];have fI:(σ.cb [vO,vP,vC]).cd σ.bY=Ik [vO,vP,vC]:=by simp only[Z3,seval,-ae]
 have ie:σ.bY<(σ.cb [vO,vP,vC]).bY:=YB _;have kD:dq σ (σ.cb [vO,vP,vC]):=zB _ _;have bZ:(σ.cb [vO,vP,vC]).bY=σ.bY+1:=rfl;rw[<-bZ];generalize σ.cb [vO,vP,vC]=H0 at *
 have Q:∀{g:dj},dq H0 g->g.rd σ.bY 0 3=Ik [vO,vP,vC]:=λk=>by rw[zN ((k.cd _ ie).trans fI)];rfl
 rw[<-eN]at hb jX X hk;refine zF (λm vs h'=>∃(i:Nat) (vL:PV) (rows:List SR),i<=N/\m=N-i/\vs=[.ptr σ.bY 0,vL,.int .i64 i]/\tV H0 h' vL rows/\rows.map SR.x=(Iw i).map (tbR N (HO O P C))) N ⟨0,_,[],aH,rfl,rfl,tV.cb H0,rfl⟩ ?_
 rintro m vs h' ⟨i,vL,rows,hi,rfl,rfl,W,Y⟩
 have dR:(Tw rows)=i:=by have:=congrArg Nh Y;simpa using this
 simp only[Z3,seval,-ae,Q W.c7,D,I,J];refine zb s A ?_;rw[X];by_cases af:i<N;rotate_left
 .obtain rfl:i=N:=aH
  simp only[Z3,seval,-ae,af];exact tV.finU W kD λz t hz _ ht=>hk z t (by rw[Y]at hz;exact hz) ht
 have ah:(i:Int)<(N:Int):=aH
 have wi:Tu .i64 ((i:Int)+1)=((i+1:Nat):Int):=lG (show i<1000 by omega) aH;simp only[Z3,seval,-ae,af,ah];refine zF (λm vs S=>∃(t:Nat) (vX:PV),t<=N/\m=N-t/\vs=[.ptr σ.bY 0,vL,.int .i64 i,vX,.int .i64 t]/\dq h' S/\fB h'.bY 1 S vX t (eh ((Iw t).map λb=>((HO O P C i b:Nat):Int)))) N ⟨0,_,aH,rfl,rfl,zB _ _,(ft.cb _ 1 rfl (sB _)).acc⟩ ?_
 rintro m vs S ⟨t,vX,ht,rfl,rfl,uh,ha⟩
 have U:dq H0 S:=W.c7.trans uh;simp only[Z3,seval,-ae,Q U,D,I,J];refine zb s A ?_;rw[X];by_cases aX:t<N;rotate_left
 .obtain rfl:t=N:=aH
  obtain⟨sX,Ap,rfl,Hu,oX,lX,gX,FH⟩:=ha.pos aH;have du:(tbR t (HO O P C) i).length=t:=by simp[tbR]
  simp only[Z3,seval,-ae,aX];have key:=λK k=>tV.push (K:=K) (t:=sX) (h:=S) (cap:=Ap) (x:=tbR t (HO O P C) i) W uh gX FH oX (by rw[du];exact Hu) aH k;rw[du]at key;refine key _ λv' h4 r4 k4 l4=>?_;simp only[Z3,seval,-ae,wi];refine⟨_,aH,i+1,v',_,aH,rfl,rfl,r4,?_⟩;rw[YI,Y,Om,YI];rfl
 have fP:(t:Int)<(N:Int):=aH
 have wt:Tu .i64 ((t:Int)+1)=((t+1:Nat):Int):=lG (show t<1000 by omega) aH;simp only[Z3,seval,-ae,aX,fP,Q U,D,I,J];refine Qg s A aH λv1 f1=>?_;have Z:=f1.one;simp only[Z3,seval,-ae,Q U,D,I,J,Z];refine Qg s A aH λv2 f2=>?_;have q2:=f2.one;simp only[Z3,seval,-ae,Q U,D,I,J,Z,q2];refine zV s A (V i) (V t) f1 f2 λv3 f3=>?_;have q3:=f3.one;have AP:gS O (gm O P C (el O i) (el O t)):=F.g.cl (V i) (V t);simp only[Z3,seval,-ae,Q U,D,I,J,Z,q2,q3];refine qU s A AP f3 ?_;rw[zQN g aH aH];refine Tq ?_;refine fB.push (bytes:=8) (σb:=h') uh ha aH aH λv' h4 k4 a4=>?_;simp only[Z3,seval,-ae,wt];refine⟨_,aH,t+1,v',aH,rfl,rfl,k4,?_⟩;have e:eh ((Iw (t+1)).map λb=>((HO O P C i b:Nat):Int))=eh ((Iw t).map λb=>((HO O P C i b:Nat):Int))++[.int .i64 ((HO O P C i t:Nat):Int)]:=by
  rw[Om,YI,<-qh];rfl
 rw[e];exact a4.acc
def zJv(g:LG O P C)(D:eQ vO vP vC O P C)(I:iV O<=32)(J:∀v,hK v (tabL (iV O) (HO O P C))->K v σ):zA Tp 201 [.agg [vO,vP,vC]] σ K:=
 zA.notop (p:=λv _=>hK v (tabL (iV O) (HO O P C))) (λK' S=>zLt g D I λv t A Q=>S v t (A.bel _) A Q) λv t A=>J v A
section
variable{x y:Nat}{T:Nat->Nat->Nat}{q:List Nat}
abbrev nl(L:List Nat):V1:=L.map λ(t:Nat)=>(t:Int)
def zCx{L:List Nat}{i:Nat}(h:i<Tw L):(eh (nl L))[i]? = Ik (.int .i64 ((L[i]:Nat):Int)):=by
 rw[zJ,Yl,na h];rfl
def zGF(L:List Nat)(y:Nat):eh (nl (L++[y]))=eh (nl L)++[.int .i64 (y:Int)]:=by
 unfold nl;rw[YI,<-qh];rfl
def zRR{m y:Nat}(S:m<2 ^ 32)(I:y<32)(h:¬m.testBit y=Im):m+2 ^ y=m ||| 2 ^ y:=by
 have U:(2:Nat) ^ y<2 ^ 32:=Pk aH I;have J:(2:Nat) ^ 32=4294967296:=by decide
 have Q:(2:Nat) ^ 64=18446744073709551616:=by decide
 have e:=BitVec.add_eq_or_of_and_eq_zero (w:=64) (BitVec.ofNat 64 m) (BitVec.ofNat 64 (2 ^ y)) (by
  refine BitVec.eq_of_toNat_eq ?_;rw[BitVec.toNat_and,BitVec.toNat_ofNat,BitVec.toNat_ofNat,L0 aH,L0 aH];show m &&& 2 ^ y=0;refine Nat.eq_of_testBit_eq λi=>?_;rw[Nat.testBit_and,Nat.testBit_two_pow,Nat.zero_testBit];by_cases D:y=i
  .subst D;rw[Bool.eq_false_iff.2 h,Bool.false_and]
  .simp[D])
 have A:=congrArg BitVec.toNat e;rw[BitVec.toNat_add,BitVec.toNat_or,BitVec.toNat_ofNat,BitVec.toNat_ofNat,L0 (show m<2 ^ 64 by omega),L0 (show 2 ^ y<2 ^ 64 by omega),L0 aH]at A;exact A
def shr_i(D:m<2 ^ 32)(A:a<=64):mR .shr .other (.int .i64 (m:Int)) (.int .u64 (a:Int))=Ik (.int .i64 ((m / 2 ^ a:Nat):Int)):=by
 have e:Zo .shr .i64 (m:Int) (a:Int)=Ik (.int .i64 ((m / 2 ^ a:Nat):Int)):=by
  unfold Zo;rw[Iv aH];simp only[KH,show IntKind.i64.bits=64 from rfl,Oh A];congr 2;rw[Int.fdiv_eq_ediv_of_nonneg _ (by exact_mod_cast YQ _)];exact_mod_cast rfl
 show(Zo .shr .i64 (m:Int) (a:Int)).map mQ=_
 rw[e];rfl
def zF8(m a:Nat):((m / 2 ^ a:Nat):Int).tmod 2=bt m a:=by
 rw[<-zRP];exact_mod_cast rfl
def wrapI{c:Nat}(D:c<2 ^ 32):Tu .i64 (c:Int)=(c:Int):=by
 have A:(2:Nat) ^ 32=4294967296:=by decide
 exact mn aH aH
def shl_i(D:x<32):mR .shl .other (.int .i64 1) (.int .u64 (x:Int))=Ik (.int .i64 ((2 ^ x:Nat):Int)):=by
 have e:Zo .shl .i64 1 (x:Int)=Ik (.int .i64 ((2 ^ x:Nat):Int)):=by
  unfold Zo;rw[Iv aH];simp only[KH,show IntKind.i64.bits=64 from rfl,Oh (show x<=64 by omega)];congr 2;rw[Ur];have A:((2:Int) ^ x)=((2 ^ x:Nat):Int):=by exact_mod_cast rfl
  rw[A];exact wrapI (Pk aH D)
 show(Zo .shl .i64 1 (x:Int)).map mQ=_
 rw[e];rfl
def wrapV{c:Nat}(A:c<=4294967296):IntKind.u64.wrap (c:Int)=(c:Int):=by
 show(_:Int) % 18446744073709551616=_
 omega
structure SI(N:Nat)(T:Nat->Nat->Nat)(bF:List Nat)(m:Nat)(q:List Nat)(Q:Nat->Nat->Prop):Prop where
 lt:m<2 ^ N
 bit:∀i,m.testBit i=Im↔i∈q
 nd:q.Nodup
 cl:∀y∈q,Cl T (λj=>j∈bF) y
 zero:0∈q
 pr:∀j g y z,Q j g->q[j]? = Ik y->bF[g]? = Ik z->T y z∈q
def SI.len{Q:Nat->Nat->Prop}(h:SI N T bF m q Q):(Tw q)<=N:=zCw _ _ h.nd λy A=>zAP h.lt ((h.bit y).2 A)
def SI.imp{Q Q':Nat->Nat->Prop}(h:SI N T bF m q Q)(J:∀j g,j<Tw q->g<Tw bF->Q' j g->Q j g):SI N T bF m q Q':=
 ⟨h.lt,h.bit,h.nd,h.cl,h.zero,λj g y z I A D=>h.pr j g y z (J j g (Yg.1 A).1 (Yg.1 D).1 I) A D⟩
def SI.old{Q Q':Nat->Nat->Prop}(h:SI N T bF m q Q){j g:Nat}(W:j<Tw q)(V:g<Tw bF)(U:T q[j] bF[g]∈q)(X:∀D A,Q' D A->Q D A\/(D=j/\A=g)):SI N T bF m q Q':=
 ⟨h.lt,h.bit,h.nd,h.cl,h.zero,λD A y z S I J=>by
  rcases X D A S with S|⟨rfl,rfl⟩
  .exact h.pr D A y z S I J
  .rw[na W]at I;rw[na V]at J;cases I;cases J;exact U⟩
def SI.cb(t:Tb N T){Q Q':Nat->Nat->Prop}(kD:∀g∈bF,g<N)(h:SI N T bF m q Q){j g:Nat}(W:j<Tw q)(V:g<Tw bF)(cD:T q[j] bF[g]∉q)(Y:∀A D,Q' A D->A<Tw q)(hq:∀A D,Q' A D->Q A D\/(A=j/\D=g)):
  SI N T bF (m ||| 2 ^ T q[j] bF[g]) (q++[T q[j] bF[g]]) Q':=by
 have Z:=zAP h.lt ((h.bit _).2 (ss W));have bN:=kD _ (ss V);refine⟨Nat.or_lt_two_pow h.lt (Pk aH (t.lt Z bN)),λi=>?_,LD.2 ⟨h.nd,bj,λa ha b X=>?_⟩,λy S=>?_,Ni _ h.zero,λA D y z J I U=>?_⟩
 .rw[or_bit,h.bit,YZ,YW]
 .simp only[YW]at X;subst X;exactλe=>cD (e ▸ ha)
 .simp only[YZ,YW]at S;rcases S with S|rfl
  .exact h.cl y S
  .exact .mul (h.cl _ (ss W)) (ss V)
 .rw[YC (Y _ _ J)]at I;rcases hq A D J with J|⟨rfl,rfl⟩
  .exact Ni _ (h.pr A D y z J I U)
  .rw[na W]at I;rw[na V]at U;cases I;cases U;simp
def SI.done{Q:Nat->Nat->Prop}(h:SI N T bF m q Q)(J:∀j g,j<Tw q->g<Tw bF->Q j g):DC N T (λj=>j∈bF) m:=by
 refine⟨h.lt,λi=>⟨λA=>h.cl i ((h.bit i).1 A),λA=>(h.bit i).2 ?_⟩⟩
 induction A with
 |one=>exact h.zero
 |mul h1 h2 ih=>
  obtain⟨j,I⟩:=List.mem_iff_getElem?.1 ih;obtain⟨g,D⟩:=List.mem_iff_getElem?.1 h2;exact h.pr j g _ _ (J j g (Yg.1 I).1 (Yg.1 D).1) I D
set_option maxHeartbeats 1600000 in
def zLu(t:Tb N T)(hN:N<=32)(hT:hK vT (tabL N T))(hG:FI vG (nl bF))(hg:∀g∈bF,g<N)(Hp:(Tw bF)<=4611686018427387903)(hk:∀m,DC N T (λj=>j∈bF) m->K (.int .i64 (m:Int)) σ):
  zA Tp 202 [vT,vG] σ K:=by
 obtain⟨wT,aT,rows,rfl,dh⟩:=hT;obtain⟨wG,aG,rfl⟩:=hG;rw[zER];have ie:(nl bF).length=Tw bF:=bj
 rw[ie];have Ax:∀{m':Nat},m'<2 ^ N->m'<2 ^ 32:=λh=>YO h (O9 aH hN);have P7:(2:Nat) ^ 32=4294967296:=by decide
 have Pc:∀i,Nat.testBit 1 i=Im↔i=0:=λi=>by simp[Px]
 refine To Tryz.func202 ?_;refine Tq ?_;refine zF (λr vs h'=>∃(k m:Nat) (q:List Nat) (I:PV),k<=Tw q/\r=N-k/\vs=[.fz wT aT N rows,.fz wG aG (Tw bF) (eh (nl bF)),.int .i64 (m:Int),I,.int .i64 k]/\dq σ h'/\ft σ.bY 1 h' I (Tw q) (eh (nl q))/\SI N T bF m q (λj _=>j<k)) N ?_ ?_
 .refine⟨0,1,[0],_,bj,rfl,rfl,zB _ _,ft.cb _ 1 rfl (sB _),Nat.one_lt_two_pow (by have:=t.pos;omega),λi=>by rw[Pc,YW],bj,λy hy=>?_,bj,λj g y z hj=>absurd hj aH⟩;simp only[YW]at hy;subst hy;exact .one
 rintro r vs h' ⟨k,m,q,I,Q,rfl,rfl,U,S,A⟩
 have yq:=A.len;have pl:=S.nN;by_cases D:k<Tw q;rotate_left
 .simp only[Z3,seval,-ae,pl,D];exact Gh.fin0 U trivial (hk m (A.done λj g hj _=>aH))
 have V:(k:Int)<(Tw q:Int):=aH
 have wk:Tu .i64 ((k:Int)+1)=((k+1:Nat):Int):=lG (show k<1000 by omega) aH;simp only[Z3,seval,-ae,pl,D,V];refine zF (λr vs Z=>∃(g m:Nat) (q:List Nat) (I:PV),g<=Tw bF/\k<Tw q/\r=Tw bF-g/\vs=[.fz wT aT N rows,.fz wG aG (Tw bF) (eh (nl bF)),.int .i64 (m:Int),I,.int .i64 k,.int .i64 g]/\dq σ Z/\ft σ.bY 1 Z I (Tw q) (eh (nl q))/\SI N T bF m q (λj J=>j<k\/(j=k/\J<g))) (Tw bF) ?_ ?_
 .exact⟨0,m,q,I,aH,D,rfl,rfl,U,S,A.imp λj J _ _ h=>aH⟩
 clear A S pl yq D V Q U
 rintro r vs Z ⟨g,m,q,I,N4,Q,rfl,rfl,U,S,A⟩
 have yq:=A.len;by_cases D:g<Tw bF;rotate_left
 .simp only[Z3,seval,-ae,D,wk];exact⟨_,aH,k+1,m,q,I,aH,rfl,rfl,U,S,A.imp λj J _ _ h=>aH⟩
 have V:(g:Int)<(Tw bF:Int):=aH
 have wg:Tu .i64 ((g:Int)+1)=((g+1:Nat):Int):=lG (show g<4611686018427387904 by omega) aH;have j9:=S;obtain⟨sq,cq,rfl,fq,oq,lq,bq,nq⟩:=S;have X:=zAP A.lt ((A.bit _).2 (ss Q));have Y:=hg _ (ss D);have kj:=inb Q;have r1:Z.gv sq k=Ik (.int .i64 ((q[k]:Nat):Int)):=by rw[zH oq];exact zCx Q
 have gg:=zCx D;obtain⟨wr,ar,hr⟩:=zOk dh X;have cn:=zQU (T:=T) (a:=q[k]) Y;have tN:=t.lt X Y;have aI:((q[k]:Nat):Int)<(N:Int):=aH
 have bI:((bF[g]:Nat):Int)<(N:Int):=aH
 have Aq:=Ax A.lt;obtain⟨y,ey⟩:∃y,y=T q[k] bF[g]:=⟨_,rfl⟩
 rw[<-ey]at cn tN;have wy:=wrapV (c:=y) aH;have s1:=shr_i Aq (a:=y) aH;have s2:=zF8 m y;by_cases W:m.testBit y=Im
 .have e1:bt m y=1:=Iu W;rw[e1]at s2;simp only[Z3,seval,-ae,D,V,kj,r1,gg,hr,cn,aI,bI,X,Y,wy,s1,s2,wg];exact⟨_,aH,g+1,m,q,_,aH,Q,rfl,rfl,U,j9,A.old Q D (by rw[<-ey];exact(A.bit y).1 W) λj J h=>aH⟩
 .have e0:bt m y=0:=Iv W;rw[e0]at s2;have s3:=shl_i (x:=y) aH;have ab:=zRR Aq aH W;have yv:m ||| 2 ^ y<2 ^ 32:=Nat.or_lt_two_pow Aq (Pk aH aH);have wa:Tu .i64 ((m:Int)+((2 ^ y:Nat):Int))=((m ||| 2 ^ y:Nat):Int):=by
   rw[<-ab];rw[<-ab]at yv;rw[<-Int.natCast_add];exact mn aH aH
  simp only[Z3,seval,-ae,D,V,kj,r1,gg,hr,cn,aI,bI,X,Y,wy,s1,s2,s3,wa,wg];refine ft.push (σb:=σ) (bytes:=8) U j9 aH aH λv' h4 k4 a4=>?_;simp only[Z3,seval,-ae,wg];have hn:T q[k] bF[g]∉q:=by rw[<-ey];exactλh=>W ((A.bit y).2 h)
  have Kw:=A.cb t hg Q D hn (Q':=λj J=>j<k\/(j=k/\J<g+1)) (λj J h=>aH) λj J h=>by omega
  rw[<-ey]at Kw;refine⟨_,aH,g+1,m ||| 2 ^ y,q++[y],v',aH,by rw[cO];omega,rfl,rfl,k4,?_,Kw⟩;rw[zGF,cO];exact a4
end
def H9(m t:Nat):List Nat:=(Iw t).filter λj=>decide (0<j) && m.testBit j
def zHc(m t:Nat):H9 m (t+1)=H9 m t++if 0<t/\m.testBit t=Im then [t]else []:=by
 unfold H9;rw[Om,P0];congr 1;by_cases h:0<t/\m.testBit t=Im
 .rw[Iu h];simp[h.1,h.2]
 .rw[Iv h];simp only[List.filter_cons,List.filter_nil];rw[Iv];simpa using h
def zAh{j:Nat}:j∈H9 m t↔j<t/\0<j/\m.testBit j=Im:=by
 unfold H9;rw[ND,Yd];simp only[Yt,decide_eq_true_eq]
def dB(O:V1)(L:List Nat)(d:Nat):Bool:=L.any λj=>fR (el O j) == d
def dpL(O:V1)(L:List Nat):List PV:=(Iw (Tw O)).map λd=>.bool (dB O L d)
def zSL{L:List Nat}:dB O L d=Im↔∃j∈L,fR (el O j)=d:=by
 unfold dB;rw[Nz];simp only[beq_iff_eq]
def zDq{L:List Nat}(A:d<Tw O):(dpL O L)[d]? = Ik (.bool (dB O L d)):=by
 unfold dpL;rw[Yl,O6 A];rfl
def zB3(O:V1)(L:List Nat):(dpL O L).length=Tw O:=by simp[dpL]
def zRO(O:V1):dpL O []=Jf (Tw O) (.bool false):=by
 refine Kr λd=>?_;rcases YY d (Tw O) with h|h
 .rw[zDq h,RR,Iu h];rfl
 .rw[YN (by rw[zB3];exact h),YN (by simpa using h)]
def zRN(O:V1)(L:List Nat)(j:Nat):(dpL O L).set (fR (el O j)) (.bool Im)=dpL O (L++[j]):=by
 refine Kr λd=>?_;rcases YY d (Tw O) with h|h
 .rw[zDq h,Yu,zDq h,zB3];have e:dB O (L++[j]) d=(dB O L d || (fR (el O j) == d)):=by
   unfold dB;rw[List.any_append];simp
  by_cases c:fR (el O j)=d
  .rw[Iu c,Iu aH,e,c];simp
  .rw[Iv c,e,show(fR (el O j) == d)=false by simpa using c,Bool.or_false]
 .rw[YN (by rw[Yx,zB3];exact h),YN (by rw[zB3];exact h)]
def zSK(s:kC O P C)(A:t<iV O)(D:0<t):fR (el O t)<Tw O:=by
 rcases YY (fR (el O t)) (Tw O) with h|h
 .exact h
 .have e:=Zb (Za s t) h
  have:=HF s A
  rw[show el O t=zv O from e,nu_zv]at this;omega
def vq(O:V1)(L:List Nat)(d:Nat)(x:V1)(e:Nat):Bool:=(fR x == d && at_ x d == 1) && (Iw e).all λe'=>!(decide (d<e')) || (!(dB O L e') || at_ x e' == 0)
def zOB{L:List Nat}{e:Nat}:vq O L d x (e+1)=(vq O L d x e && (!(decide (d<e)) || (!(dB O L e) || at_ x e == 0))):=by
 unfold vq;rw[Om,MQ];simp[Bool.and_assoc]
def zIr(s:kC O P C)(hm:m<2 ^ iV O)(hd:d<Tw O)(Z:t∈H9 m (iV O)):vq O (H9 m (iV O)) d (el O t) (Tw O)=Im↔Fit O (HM O m) d (el O t):=by
 obtain⟨W,h2,X⟩:=zAh.1 Z;have V:∀{e},e<Tw O->(dB O (H9 m (iV O)) e=Im↔Dp O (HM O m) e):=λ{e} A=>by
  rw[zSL];constructor
  .rintro⟨j,Y,rfl⟩
   obtain⟨j1,j2,j3⟩:=zAh.1 Y;exact⟨A,el O j,⟨Za s j,by rw[HF s j1];exact j3⟩,rfl⟩
  .rintro⟨_,y,D,rfl⟩
   refine⟨nu O y,zAh.2 ⟨nu_lt s D.1,?_,D.2⟩,by rw[FV s D.1]⟩;rcases MB (nu O y)with q|q
   .have e2:=FV s D.1;rw[q,zDp s]at e2;rw[<-e2,zCj s]at A;omega
   .exact q
 unfold vq Fit;simp only[Yt,beq_iff_eq,Mi,Yd,UF,Ng,decide_eq_false_iff_not];constructor
 .rintro⟨⟨J,Q⟩,S⟩
  refine⟨⟨Za s t,by rw[HF s W];exact X⟩,J,Q,λe A I=>?_⟩;rcases S e I.1 with q|q|q
  .exact absurd A q
  .rw[(V I.1).2 I]at q;cases q
  .exact q
 .rintro⟨q0,J,Q,S⟩
  refine⟨⟨J,Q⟩,λe A=>?_⟩;by_cases c:d<e
  .right;by_cases U:dB O (H9 m (iV O)) e=Im
   .exact .inr (S e c ((V A).1 U))
   .exact .inl (Bool.eq_false_iff.2 U)
  .exact .inl c
def zMp(s:kC O P C)(Q:m<2 ^ iV O):BQ O m=(Iw (Tw O)).flatMap λd=>((H9 m (iV O)).map (el O)).filter λx=>vq O (H9 m (iV O)) d x (Tw O):=by
 unfold BQ;rw[List.flatMap_def,List.flatMap_def];congr 1;refine JI λd U=>?_;have S:=Yd.1 U;rw[List.filter_map,List.filter_map];congr 1;have e:H9 m (iV O)=(Iw (iV O)).filter λj=>decide (0<j) && m.testBit j:=rfl
 conv=>rhs;rw[e,List.filter_filter]
 refine List.filter_congr λt V=>?_;have J:=Yd.1 V;rw[Bool.eq_iff_iff];simp only[Function.comp,Yt,decide_eq_true_eq];constructor
 .intro A;have I:m.testBit t=Im:=by have:=A.1.2;rwa[HF s J]at this
  have D:0<t:=by
   rcases MB t with q|q
   .have:=A.2.1
    rw[q,zDp s,zCj s]at this;omega
   .exact q
  rw[<-e];exact⟨(zIr s Q S (zAh.2 ⟨J,D,I⟩)).2 A,D,I⟩
 .rintro⟨A,D,I⟩
  rw[<-e]at A;exact(zIr s Q S (zAh.2 ⟨J,D,I⟩)).1 A
def zDM{L:List Nat}:vq O L d x (d+1)=(fR x == d && at_ x d == 1):=by
 have e:((Iw (d+1)).all λe'=>!(decide (d<e')) || (!(dB O L e') || at_ x e' == 0))=Im:=by
  rw[Mi];intro e' A
  have:=Yd.1 A
  rw[show decide (d<e')=false by simp;omega];rfl
 unfold vq;rw[e,Bool.and_true]
set_option maxHeartbeats 3200000 in
def zGI(g:LG O P C)(hR:eQ vO vP vC O P C)(hb:iV O<=32)(hm:m<2 ^ iV O)(hk:∀v,hK v (BQ O m)->K v σ):zA Tp 204 [.agg [vO,vP,vC],.int .i64 (m:Int)] σ K:=by
 have s:=g.s;have bB:=s.le;have g1:=hR.P.one;have g2:=hR.C.one;obtain⟨hN,jX⟩:=ZN s;have Aq:m<2 ^ 32:=YO hm (O9 aH hb);have bp:=hR;obtain⟨⟨w0,a0,rfl⟩,_,_⟩:=hR;refine zA.gh ?_;have BI:((Tw O:Nat):Int)*((1:Nat):Int)<=140737488355328:=aH
 refine Tn Tryz.func204 ?_;simp only[Z3,seval,-ae,g1,g2];generalize hH:σ.cb [.fz w0 a0 (Tw O) (eh O),vP,vC]=H1;have kH:dq σ H1:=by rw[<-hH];exact zB _ _
 have nH:H1.bY=σ.bY+1:=by rw[<-hH];rfl
 have oH:H1.cd σ.bY=Ik [.fz w0 a0 (Tw O) (eh O),vP,vC]:=by rw[<-hH,zC,Iu rfl]
 clear hH;have e0:(H1.cb []).gv σ.bY 0=Ik (.fz w0 a0 (Tw O) (eh O)):=by rw[zH (by rw[zC,Iv aH];exact oH)];rfl
 simp only[Z3,seval,-ae,e0,BI,zx (n:=(Tw O)) aH];refine zF (λr vs g=>∃(t:Nat) (vL:PV) (rows:List PV),1<=t/\t<=iV O/\r=iV O-t/\vs=[.int .i64 (m:Int),.ptr σ.bY 0,vL,.sl (σ.bY+2) 0 (Tw O) (.cm (Tw O)),.int .i64 t]/\dq H1 g/\ft H1.bY 1 g vL (Tw rows) rows/\ez FI rows ((H9 m t).map (el O))/\g.cd (σ.bY+2)=Ik (dpL O (H9 m t))/\(∀off l c,vL≠.sl (σ.bY+2) off l c)/\σ.bY+2<g.bY) (iV O-1) ?_ ?_
 .have J:H9 m 1=[]:=rfl;refine⟨1,.sl (σ.bY+1) 0 0 (.cm 0),[],sB _,jX,rfl,rfl,(zB _ _).cb _,by rw[<-nH];exact(ft.cb H1.bY 1 (h:=H1) (n:=0) (cs:=[]) rfl (sB _)).c7 (zB _ _),by rw[J];exact ez.nil _,?_,λoff l c e=>(by injection e with e2;omega),by show _<H1.bY+1+1;omega⟩;rw[J,zRO,zC];exact Iu (by show σ.bY+2=H1.bY+1;omega)
 rintro r vs g ⟨t,vL,rows,tS,Ga,rfl,rfl,kg,hL,Z,hD,aj,af⟩
 have dR:=Z.1;have e3:g.rd σ.bY 0 3=Ik [.fz w0 a0 (Tw O) (eh O),vP,vC]:=by rw[zN (by rw[kg.cd _ aH];exact oH)];rfl
 have jq:(Tw rows)<=t:=by
  rw[dR,Yj];exact Yv (List.length_filter_le _ _) bj
 simp only[Z3,seval,-ae,e3,g1,g2];refine zb s bp ?_;rw[hN];by_cases jm:t<iV O;rotate_left
 .obtain rfl:t=iV O:=aH
  simp only[Z3,seval,-ae,jm];obtain⟨L,eL⟩:∃L,L=H9 m (iV O):=⟨_,rfl⟩
  rw[zMp s hm]at hk;rw[<-eL]at hk Z hD;have uy:(Tw L)<=32:=by
   grind
  have OM:∀t∈L,t<iV O/\0<t:=λt ht=>by
   rw[eL]at ht
   have:=zAh.1 ht
   exact⟨this.1,this.2.1⟩
  obtain⟨sL,cL,rfl,z1,oL,z3,z4,z5⟩:=hL;have yj:(Tw rows)=Tw L:=by rw[dR,Yj,eL]
  rw[yj]at z1 z3 ⊢;clear aj;refine zF (λr vs h=>∃(d:Nat) (A:PV) (os:List PV),d<=Tw O/\r=Tw O-d/\vs=[.sl sL 0 (Tw L) cL,.sl (σ.bY+2) 0 (Tw O) (.cm (Tw O)),A,.int .i64 d]/\dq g h/\ft g.bY 1 h A (Tw os) os/\Tw os<=32*d/\ez FI os ((Iw d).flatMap λd=>(L.map (el O)).filter λx=>vq O L d x (Tw O))) (Tw O) ?_ ?_
  .exact⟨0,_,[],aH,rfl,rfl,zB _ _,ft.cb _ 1 rfl (sB _),bj,by simpa using ez.nil _⟩
  rintro r vs h ⟨d,A,os,hd,rfl,rfl,I,S,ki,D⟩
  by_cases nX:d<Tw O;rotate_left
  .obtain rfl:d=Tw O:=aH
   simp only[Z3,seval,-ae,nX];exact fB.fin (kg.trans I |> kH.trans) (S.acc.low aH) (D.bI 0) λa=>hk _ ⟨Im,a,os,by rw[D.1],D⟩
  have wd:Tu .i64 ((d:Int)+1)=((d+1:Nat):Int):=lG (show d<1000 by omega) aH;simp only[Z3,seval,-ae,nX];refine zF (λr vs h=>∃(k:Nat) (A:PV) (os:List PV),k<=Tw L/\r=Tw L-k/\vs=[.sl sL 0 (Tw L) cL,.sl (σ.bY+2) 0 (Tw O) (.cm (Tw O)),A,.int .i64 d,.int .i64 k]/\dq g h/\ft g.bY 1 h A (Tw os) os/\Tw os<=32*d+k/\ez FI os (((Iw d).flatMap λd=>(L.map (el O)).filter λx=>vq O L d x (Tw O))++((L.take k).map (el O)).filter λx=>vq O L d x (Tw O))) (Tw L) ?_ ?_
  .exact⟨0,A,os,aH,rfl,rfl,I,S,aH,by simpa using D⟩
  clear I S D ki
  rintro r vs h ⟨k,A,os,J6,rfl,rfl,I,S,ki,D⟩
  by_cases V:k<Tw L;rotate_left
  .obtain rfl:k=Tw L:=aH
   simp only[Z3,seval,-ae,V,wd];refine⟨_,aH,d+1,A,os,aH,rfl,rfl,I,S,aH,?_⟩;rw[Om,List.flatMap_append];rw[YP]at D;simpa using D
  have wk:Tu .i64 ((k:Int)+1)=((k+1:Nat):Int):=lG (show k<1000 by omega) aH;have kj:=inb V;obtain⟨tN,tp⟩:=OM _ (ss V);obtain⟨w3,X,h3⟩:=Z.rowI (k:=k) (by rw[Yj];exact V);rw[UC]at h3;obtain⟨x,ex⟩:∃x,x=el O L[k]:=⟨_,rfl⟩
  rw[<-ex]at h3;have du:(Tw x)=Tw O:=by rw[ex];exact ZU _ _ _
  have fx:FI (.fz w3 X (Tw x) (eh x)) x:=⟨w3,X,rfl⟩;have r1:h.gv sL k=Ik (.fz w3 X (Tw x) (eh x)):=by rw[zH (by rw[I.cd _ z5];exact oL)];exact h3
  have KV:((L.take (k+1)).map (el O)).filter (λx=>vq O L d x (Tw O))=((L.take k).map (el O)).filter (λx=>vq O L d x (Tw O))++if vq O L d x (Tw O)=Im then [x]else []:=by
   rw[YV V,YI,P0,PG,<-ex];congr 1;rw[List.filter_cons,List.filter_nil]
  have Eg:d<Tw x:=aH
  have gx:(eh x)[d]? = Ik (.int .i64 (at_ x d)):=by rw[zJ,gi Eg,gj Eg];rfl
  have Eh:(d:Int)<(Tw x:Int):=aH
  simp only[Z3,seval,-ae,V,kj,r1];refine QP (x:=x) rfl aH ?_;by_cases Y:fR x=d
  case' neg=>
   have EB:¬((fR x:Nat):Int)=(d:Int):=aH
   have rN:vq O L d x (d+1)=false:=by rw[zDM,show(fR x == d)=false by simpa using Y];rfl
   simp only[Z3,seval,-ae,Y,EB,wd]
  case' pos=>
   have EB:((fR x:Nat):Int)=(d:Int):=aH
   by_cases c2:at_ x d=1
   case' neg=>
    have rN:vq O L d x (d+1)=false:=by rw[zDM,show(at_ x d == 1)=false by simpa using c2,Bool.and_false]
    simp only[Z3,seval,-ae,Y,EB,Eg,Eh,gx,c2,wd]
   case' pos=>
    have rN:vq O L d x (d+1)=Im:=by rw[zDM,Y,c2];simp
    simp only[Z3,seval,-ae,Y,EB,Eg,Eh,gx,c2,wd]
  all_goals
   refine zF (λr vs h'=>∃e:Nat,d+1<=e/\e<=Tw O/\r=Tw O-e/\vs=[.sl sL 0 (Tw L) cL,.sl (σ.bY+2) 0 (Tw O) (.cm (Tw O)),A,.int .i64 d,.int .i64 k,.fz w3 X (Tw x) (eh x),.bool (vq O L d x e),.int .i64 e]/\h'=h) (Tw O-(d+1)) ⟨d+1,sB _,aH,rfl,(by rw[rN];rfl),rfl⟩ ?_
   rintro r vs h' ⟨e,AY,Kj,rfl,rfl,rfl⟩
   by_cases Q:e<Tw O
   case' neg=>
    obtain rfl:e=Tw O:=aH
    cases hq:vq O L d x (Tw O) with
    |false=>
     simp only[Z3,seval,-ae,Q,wk];exact⟨_,aH,k+1,A,os,aH,rfl,rfl,I,S,aH,by rw[KV,hq];simpa using D⟩
    |true=>
     simp only[Z3,seval,-ae,Q];refine ft.push (σb:=g) (bytes:=24) I S aH aH λv' W k2 p2=>?_;simp only[Z3,seval,-ae,wk];refine⟨_,aH,k+1,v',os++[_],aH,rfl,rfl,k2,by rw[cO];exact p2,by rw[cO];simp;omega,?_⟩;rw[KV,hq,Iu rfl,<-YH];exact D.snoc fx
   case' pos=>
    have we:Tu .i64 ((e:Int)+1)=((e+1:Nat):Int):=lG (show e<1000 by omega) aH;have hex:e<Tw x:=aH
    have HA:=inb Q;have Ki:(e:Int)<(Tw x:Int):=aH
    have ge:(eh x)[e]? = Ik (.int .i64 (at_ x e)):=by rw[zJ,gi hex,gj hex];rfl
    have rD:h'.gv (σ.bY+2) e=Ik (.bool (dB O L e)):=by rw[zH (by rw[I.cd _ af];exact hD)];exact zDq Q
    have U:=zOB (O:=O) (L:=L) (d:=d) (x:=x) (e:=e);rw[show decide (d<e)=Im by simp;omega]at U;cases hq:vq O L d x e with
    |false=>
     rw[hq]at U;simp only[Z3,seval,-ae,Q,we];exact⟨_,aH,e+1,aH,aH,rfl,by rw[U];simp⟩
    |true=>
     cases hB:dB O L e with
     |false=>
      rw[hB]at rD;rw[hq,hB]at U;simp only[Z3,seval,-ae,Q,HA,rD,we];exact⟨_,aH,e+1,aH,aH,rfl,by rw[U];simp⟩
     |true=>
      rw[hB]at rD;rw[hq,hB]at U;by_cases hz:at_ x e=0
      .rw[hz]at ge;simp only[Z3,seval,-ae,Q,HA,rD,we,hex,Ki,ge];exact⟨_,aH,e+1,aH,aH,rfl,by rw[U,hz];simp⟩
      .simp only[Z3,seval,-ae,Q,HA,rD,we,hex,Ki,ge,hz];exact⟨_,aH,e+1,aH,aH,rfl,by simp_all⟩
 have vE:(t:Int)<(iV O:Int):=aH
 have wt:Tu .i64 ((t:Int)+1)=((t+1:Nat):Int):=lG (show t<1000 by omega) aH;have wu:=wrapV (c:=t) aH;have s1:=shr_i Aq (a:=t) aH;have s2:=zF8 m t;by_cases mF:m.testBit t=Im;rotate_left
 .have q:bt m t=0:=Iv mF;rw[q]at s2;have J:H9 m (t+1)=H9 m t:=by rw[zHc,Iv (λh=>mF h.2),YL]
  simp only[Z3,seval,-ae,jm,vE,wu,s1,s2,wt];exact⟨_,aH,t+1,vL,rows,aH,aH,rfl,rfl,kg,hL,by rw[J];exact Z,by rw[J];exact hD,aj,af⟩
 have q:bt m t=1:=Iu mF;rw[q]at s2;have J:H9 m (t+1)=H9 m t++[t]:=by rw[zHc,Iu ⟨tS,mF⟩]
 simp only[Z3,seval,-ae,jm,vE,wu,s1,s2,e3,g1,g2];refine Qg s bp aH λv1 f1=>?_;have f10:=f1;obtain⟨w3,X,rfl⟩:=f1;have du:(el O t).length=Tw O:=ZU _ _ _;refine Tq ?_;refine fB.pushS (σb:=H1) (bytes:=24) kg hL.acc rfl aH aH λv' W k2 p2 r1 r2 r3=>?_;refine Tq ?_;refine QP (x:=el O t) rfl (by rw[du];omega) ?_;have nY:=zSK s jm tS;have Eh:=inb nY;have oD:W.cd (σ.bY+2)=Ik (dpL O (H9 m t)):=by rw[r1 _ af aj];exact hD
 have wD:W.wr (σ.bY+2) (fR (el O t)) [.bool Im]=Ik (W.set (σ.bY+2) (dpL O (H9 m (t+1)))):=by
  rw[zL oD,J,<-zRN];have hh:fR (el O t)+1<=(dpL O (H9 m t)).length:=by rw[zB3];exact nY
  rw[Iu ⟨hh,rfl⟩];exact congrArg (λz=>Ik (W.set (σ.bY+2) z)) (zMk hh)
 simp only[Z3,seval,-ae,Eh,wD,wt];have Ct:∀off l c,v'≠.sl (σ.bY+2) off l c:=r2 _ af;refine⟨_,aH,t+1,v',rows++[_],aH,aH,rfl,rfl,k2.set aH _,?_,by rw[J,YI];exact Z.snoc f10,rfl,Ct,?_⟩
 .rw[cO];obtain⟨sv,cv,rfl,z1,z2,z3,z4,z5⟩:=p2;exact⟨sv,cv,rfl,z1,by rw[zG,Iv (λe=>Ct 0 _ cv (by rw[e]))];exact z2,z3,z4,z5⟩
 .show _<W.bY;omega
end Go.Proofs
namespace Go.Lat
def sk:V1->V1->Int
 |[],[]=>0
 |[],_::_=>-1
 |_::_,[]=>1
 |a::x,b::y=>if a<b then -1 else if b<a then 1 else sk x y
def zIM:∀x y:V1,sk y x=- sk x y
 |[],[]=>rfl
 |[],_::_=>rfl
 |_::_,[]=>rfl
 |a::x,b::y=>by
  rw[sk,sk];by_cases A:a<b
  .rw[Iv aH,Iu A,Iu A];rfl
  .by_cases D:b<a
   .rw[Iu D,Iv A,Iu D]
   .rw[Iv D,Iv A,Iv A,Iv D];exact zIM x y
def zFV:∀{x y z:V1},sk x y<0->sk y z<0->sk x z<0
 |[],_,[],h1,h2=>by
  rename_i y;cases y with
  |nil=>simp[sk]at h1
  |cons b y=>simp[sk]at h2
 |[],_,_::_,_,_=>by simp[sk]
 |_::_,[],_,h1,_=>by simp[sk]at h1
 |a::x,b::y,[],_,h2=>by simp[sk]at h2
 |a::x,b::y,c::z,h1,h2=>by
  rw[sk]at h1 h2 ⊢;by_cases I:a<b
  .omega
  .rw[Iv I]at h1;by_cases A:b<a
   .rw[Iu A]at h1;omega
   .rw[Iv A]at h1;by_cases J:b<c
    .rw[Iu aH];omega
    .rw[Iv J]at h2;by_cases D:c<b
     .rw[Iu D]at h2;omega
     .rw[Iv D]at h2;rw[Iv aH,Iv aH];exact zFV h1 h2
def zIL:∀(i:Nat) {x y:V1},x.take i=y.take i->i<=Tw x->i<=Tw y->sk x y=sk (x.drop i) (y.drop i)
 |0,_,_,_,_,_=>rfl
 |i+1,[],_,_,h,_=>by simp at h
 |i+1,_::_,[],_,_,h=>by simp at h
 |i+1,a::x,b::y,h,hx,hy=>by
  simp only[List.take_succ_cons,List.cons.injEq]at h;simp only[YF]at hx hy;rw[sk,Iv aH,Iv aH];exact zIL i h.2 aH aH
end Go.Lat
namespace Go.Proofs
open Go.Ab
variable{cs:List PV}{a b i j k m n r s0 t:Nat}{h h' σ:dj}{c v vC vG vL vO vP vU vV va vb:PV}{K:PV->dj->Prop}{O x y:V1}{L M P u:V2}{C:V3}
section
open Go.Ab Go.Lie Go.Grp Go.Lat
variable{v:V2}{H H':V1->Prop}
def cfS(O:V1)(u v:V2):Int:=sk (tR O u::u.flatten) (tR O v::v.flatten)
def zGv{n:Nat}:∀{u:V2},(∀x∈u,(Tw x)=n)->(Tw u.flatten)=Tw u*n
 |[],_=>by simp
 |a::u,h=>by
  rw[LY,cO,zGv λx A=>h x (by simp[A]),h a bj,YF,La];omega
def zIq{n:Nat}{u:V2}(h:∀x∈u,(Tw x)=n)(D:(Tw u)<=6)(A:n<=6):(Tw u.flatten)<=36:=by
 rw[zGv h];exact Nat.mul_le_mul D A
def zFd(ha:FI va x)(hb:FI vb y)(hx:(Tw x)<=1000)(hy:(Tw y)<=1000)(I:K (.bool (decide (sk x y<0))) σ):zA Tp 125 [va,vb] σ K:=by
 obtain⟨wa,X,rfl⟩:=ha;obtain⟨wb,Y,rfl⟩:=hb;refine Tn Tryz.func125 ?_;refine Tq ?_;refine zF (λm vs h'=>∃i:Nat,i<=Tw x/\i<=Tw y/\x.take i=y.take i/\m=Tw x-i/\vs=[.fz wa X (Tw x) (eh x),.fz wb Y (Tw y) (eh y),.int .i64 i]/\h'=σ) (Tw x) ?_ ?_
 .exact⟨0,aH,aH,rfl,aH,rfl,rfl⟩
 rintro m vs h' ⟨i,hi,W,V,rfl,rfl,rfl⟩
 have J:=zIL i V hi W;by_cases A:i<Tw x
 .have ku:=inb A;have Q:(eh x)[i]? = Ik (.int .i64 x[i]):=by rw[zJ,na A];rfl
  by_cases D:i<Tw y;rotate_left
  .obtain rfl:i=Tw y:=aH
   have e:sk x y=1:=by
    rw[J,Kz (show (Tw y)<=(Tw y) by omega),Pa A];rfl
   rw[e]at I;have u7:¬(Tw x:Int)<(Tw y:Int):=aH
   simp only[Z3,seval,-ae,A,ku,D,u7];exact I
  have S:=inb D;have U:(eh y)[i]? = Ik (.int .i64 y[i]):=by rw[zJ,na D];rfl
  rw[Pa A,Pa D,sk]at J;have wi:Tu .i64 ((i:Int)+1)=((i+1:Nat):Int):=lG A aH;by_cases c:x[i]=y[i]
  .rw[c]at Q;simp only[Z3,seval,-ae,A,ku,D,S,Q,U,wi];exact⟨_,aH,i+1,aH,aH,by rw[YV A,YV D,V,c],rfl,rfl⟩
  .have e:decide (sk x y<0)=decide (x[i] < y[i]):=by
    grind
   rw[e]at I;simp only[Z3,seval,-ae,A,ku,D,S,Q,U,c];exact I
 .obtain rfl:i=Tw x:=aH
  rw[List.drop_length]at J;have e:decide (sk x y<0)=decide ((Tw x:Int)<(Tw y:Int)):=by
   rw[J];by_cases Z:(Tw x)<Tw y
   .rw[Pa Z]
    have:(Tw x:Int)<(Tw y:Int):=aH
    simp[sk,this]
   .rw[Kz (show (Tw y)<=(Tw x) by omega)]
    have:¬(Tw x:Int)<(Tw y:Int):=aH
    simp[sk,this]
  rw[e,show decide ((Tw x:Int)<(Tw y:Int))=decide (Tw x<Tw y) by simp only[decide_eq_decide];omega]at I;simp only[Z3,seval,-ae,A];exact I
def zAb(V:hK vU u)(ub:(Tw u)<=1000)(hb:(Tw u.flatten)<=1000)(W:∀z,FI z u.flatten->K z σ):zA Tp 126 [vU] σ K:=by
 obtain⟨wU,Q,rU,rfl,tZ⟩:=V;refine To Tryz.func126 ?_;refine Tq ?_;refine zF (λm vs h=>∃(i:Nat) (I:PV),i<=Tw u/\m=Tw u-i/\vs=[.fz wU Q (Tw u) rU,I,.int .i64 i]/\dq σ h/\ft σ.bY 1 h I (u.take i).flatten.length (eh (u.take i).flatten)) (Tw u) ⟨0,_,aH,aH,rfl,zB _ _,ft.cb _ 1 rfl (sB _)⟩ ?_
 rintro m vs h ⟨i,I,hi,rfl,rfl,J,D⟩
 by_cases A:i<Tw u;rotate_left
 .obtain rfl:i=Tw u:=aH
  rw[YP]at D;simp only[Z3,seval,-ae,A];exact fB.fin J D.acc (zO _ _) λa=>W _ ⟨Im,a,rfl⟩
 have Y:=inb A;have wi:Tu .i64 ((i:Int)+1)=((i+1:Nat):Int):=lG A aH;obtain⟨w5,a5,U⟩:=tZ.rowI A;have e:(u.take (i+1)).flatten=(u.take i).flatten++u[i]:=by
  rw[YV A,List.flatten_append];simp
 have tA:(u.take i).flatten.length+u[i].length<=1000:=by
  have S:(Tw u.flatten)=(u.take (i+1)).flatten.length+(u.drop (i+1)).flatten.length:=by
   rw[<-cO,<-List.flatten_append,List.take_append_drop]
  rw[e,cO]at S;omega
 simp only[Z3,seval,-ae,A,Y,U];refine ft.cat (bytes:=8) J D (by simp[eh]) aH aH λv' h2 X Z=>?_;simp only[Z3,seval,-ae,wi];refine⟨_,aH,i+1,v',aH,rfl,rfl,X,?_⟩;rw[e,cO,<-qh];exact Z
def zIP(s:kC O P C)(D:eQ vO vP vC O P C)(I:hK vU u)(W:sA O H u)(J:hK vV v)(X:sA O H' v)(A:K (.bool (decide (cfS O u v<0))) σ):zA Tp 219 [.agg [vO,vP,vC],vU,vV] σ K:=by
 have Z:=s.le;have iu:=W.len;have vh:=X.len;have fu:(Tw u.flatten)<=36:=zIq (λx Y=>(W.one x Y).1.len) aH Z;have fv:(Tw v.flatten)<=36:=zIq (λx Y=>(X.one x Y).1.len) aH Z;have Q:=D.O.one;have S:=D.P.one;have U:=D.C.one;refine To Tryz.func219 ?_;simp only[Z3,seval,-ae,Q,S,U];generalize V:σ.cb [vO,vP,vC]=H1;have kH:dq σ H1:=by rw[<-V];exact zB _ _
 have r3:H1.rd σ.bY 0 3=Ik [vO,vP,vC]:=by rw[<-V];simp only[Z3,seval,-ae]
 clear V;simp only[Z3,seval,-ae,r3,Q,S,U,I.one,J.one];refine QO s D I W aH ?_;simp only[Z3,seval,-ae,r3,Q,S,U,I.one,J.one];refine QO s D J X aH ?_;unfold cfS at A;rw[sk]at A;by_cases c:tR O u=tR O v
 .rw[Iv aH,Iv aH]at A;simp only[Z3,seval,-ae,c];refine zAb I aH aH λz1 f1=>?_;refine Tq ?_;refine zAb J aH aH λz2 f2=>?_;refine Tq ?_;refine zFd f1 f2 aH aH ?_;refine Tq ?_;exact Gh.fin0 kH trivial A
 .have e:decide ((if tR O u<tR O v then -1 else if tR O v<tR O u then 1 else sk u.flatten v.flatten)<(0:Int))=decide (tR O u<tR O v):=by
   grind
  rw[e]at A;simp only[Z3,seval,-ae,c];exact Gh.fin0 kH trivial A
end
section
open Go.Ab Go.Lie Go.Grp
variable{s:List UInt8}
def zGw{n:Int}(A:0<=n)(h:n<10):Lib.decDigits n.toNat=[UInt8.ofNat (48+n).toNat]:=by
 rw[Lib.decDigits,dif_pos aH,show(48+n).toNat=48+n.toNat by omega]
def zRQ{n:Int}(A:0<=n)(h:¬n<10):Lib.decDigits n.toNat=Lib.decDigits (n.tdiv 10).toNat++[UInt8.ofNat (48+n.tmod 10).toNat]:=by
 rw[Lib.decDigits,dif_neg aH,Y8 A,Yf A];rw[show(n / 10).toNat=n.toNat / 10 by omega,show(48+n % 10).toNat=48+n.toNat % 10 by omega]
def Zv:∀(k n:Nat),n<10 ^ (k+1)->(Lib.decDigits n).length<=k+1
 |0,n,h=>by rw[Lib.decDigits,dif_pos (by simpa using h)];simp
 |k+1,n,h=>by
  by_cases A:n<10
  .rw[Lib.decDigits,dif_pos A];simp
  .rw[Lib.decDigits,dif_neg A,cO,Yk]
   have:=Zv k (n / 10) (by rw[Nat.pow_succ]at h;omega)
   omega
def zPj{n:Int}(k:Nat)(D:0<=n/\n<=1000000/\n<10 ^ (k+1))(Y:k<=100)(I:K (.str (Lib.decDigits n.toNat)) σ):zA Tp 48 [.int .i64 n] σ K:=by
 induction k generalizing n σ K with
 |zero=>
  have A:n<10:=by have:=D.2.2;simpa using this
  have w1:Tu .i64 (48+n)=48+n:=WE;have w2:IntKind.u8.wrap (48+n)=48+n:=Zx aH aH;rw[zGw D.1 A]at I;refine zA.gh ?_;refine zt mix Tryz.func48 cf48 rfl ?_;dsimp only[if48,qI,eI,qD,eD,rH,BY,ta,I0,R0,S0];simp only[Z3,seval,-ae,A,w1,w2,qz,zAC];exact Gh.fin0 (zB _ _) trivial I
 |succ k ih=>
  by_cases A:n<10
  .have w1:Tu .i64 (48+n)=48+n:=WE;have w2:IntKind.u8.wrap (48+n)=48+n:=Zx aH aH;rw[zGw D.1 A]at I;refine zA.gh ?_;refine zt mix Tryz.func48 cf48 rfl ?_;dsimp only[if48,qI,eI,qD,eD,rH,BY,ta,I0,R0,S0];simp only[Z3,seval,-ae,A,w1,w2,qz,zAC];exact Gh.fin0 (zB _ _) trivial I
  have Q:0<=n.tdiv 10:=Tg D.1 Tx;have J:n.tdiv 10<=1000000/\n.tdiv 10<10 ^ (k+1):=by
   have e:n.tdiv 10=n / 10:=Y8 D.1
   have:=D.2.2
   rw[S1]at this;rw[e];omega
  have r0:0<=n.tmod 10/\n.tmod 10<10:=⟨Th _ D.1,Sn _ Tx⟩
  have w0:Tu .i64 (n.tdiv 10)=n.tdiv 10:=WE;have S:Tu .i64 (n.tmod 10)=n.tmod 10:=WE;have w1:Tu .i64 (48+n.tmod 10)=48+n.tmod 10:=WE;have w2:IntKind.u8.wrap (48+n.tmod 10)=48+n.tmod 10:=Zx aH aH;rw[zRQ D.1 A]at I;have X:(Lib.decDigits (n.tdiv 10).toNat).length+1<=9223372036854775807:=by
   have:=Zv k (n.tdiv 10).toNat (by
    have W:((n.tdiv 10).toNat:Int)<((10 ^ (k+1):Nat):Int):=by rw[Yi Q];exact_mod_cast J.2
    exact_mod_cast W)
   omega
  have U:∀{g:dj} {K':PV->dj->Prop},K' (.str (Lib.decDigits (n.tdiv 10).toNat)) g->zA Tp 48 [.int .i64 (n.tdiv 10)] g K':=λV=>ih ⟨Q,J.1,J.2⟩ aH V;generalize Lib.decDigits (n.tdiv 10).toNat=q at *
  refine zA.gh ?_;refine zt mix Tryz.func48 cf48 rfl ?_;dsimp only[if48,qI,eI,qD,eD,rH,BY,ta,I0,R0,S0];simp only[Z3,seval,-ae,A,w0,w1,w2,S,qz,zAC,Qc,uk,uE,qY,qX];refine⟨?_,?_,?_⟩
  all_goals
   refine U ?_;simp only[Z3,seval,-ae,A,w0,w1,w2,S,qz,zAC,Qc,uk,uE,qY,qX,X];exact Gh.fin0 (zB _ _) trivial I
def kx(w:V1):List UInt8:=if w=[]then [49]else w.map λl=>UInt8.ofNat (96+l).toNat
def zCH(f:Int->Int):∀w:V1,Qm (w.map λl=>PV.int .u8 (f l))=Ik (w.map λl=>UInt8.ofNat (f l).toNat)
 |[]=>rfl
 |l::w=>by simp only[Yw,Qm,zCH f w,Kc]
def ft.bytesX{cells:List PV}{q:List UInt8}(a:ft b 1 h v (Tw cells) cells)(D:Qm cells=Ik q):Z5 h v=Ik q:=by
 obtain⟨s,cap,rfl,J,I,Q,S,U⟩:=a;unfold Z5;rw[zBr];simp only[YG];rw[qO];by_cases A:(Tw cells)=0
 .have:cells=[]:=List.length_eq_zero_iff.1 A
  subst this;rw[Iu A];exact D
 .rw[Iv A,Iu (sB _),KE,zN I,Iu aH,J0,YP];exact D
def zGm{w:Bool}{U:AV}(hn:(Tw x)<=1000)(hx:∀l∈x,1<=l/\l<=26)(D:K (.str (kx x)) σ):zA Tp 99 [.fz w U (Tw x) (eh x)] σ K:=by
 unfold kx at D;refine To Tryz.func99 ?_;by_cases V:(Tw x)=0
 .have J:((Tw x:Nat):Int)=0:=aH
  rw[Iu (List.length_eq_zero_iff.1 V)]at D;simp only[Z3,seval,-ae,J];exact Gh.fin0 (dq.refl _) trivial D
 have J:¬((Tw x:Nat):Int)=0:=aH
 rw[Iv (λe=>V (by rw[e];rfl))]at D;simp only[Z3,seval,-ae,J];refine zF (λm vs h=>∃(i:Nat) (v:PV),i<=Tw x/\m=Tw x-i/\vs=[.fz w U (Tw x) (eh x),v,.int .i64 i]/\dq σ h/\ft σ.bY 1 h v i ((x.take i).map λl=>PV.int .u8 (96+l))) (Tw x) ?_ ?_
 .exact⟨0,_,YQ _,rfl,rfl,zB _ _,ft.cb _ 1 rfl (sB _)⟩
 rintro m vs h ⟨i,v,hi,rfl,rfl,W,I⟩
 have Q:=I.one;simp only[Z3,seval,-ae,Q];refine fi (λA=>?_) λan=>?_
 .have ah:(i:Int)<(Tw x:Int):=aH
  have gx:(eh x)[i]? = Ik (.int .i64 x[i]):=by rw[zJ,gi A];rfl
  have b1:=hx _ (ss A);have hp:(0:Int)<x[i]:=aH
  have w1:Tu .i64 (97+x[i])=97+x[i]:=WE;have w2:Tu .i64 (97+x[i] - 1)=96+x[i]:=WQ
  have w3:IntKind.u8.wrap (96+x[i])=96+x[i]:=Zx aH aH;simp only[Z3,seval,-ae,Q,A,ah,gx,hp,w1,w2,w3];refine ft.push (σb:=σ) (bytes:=1) W I aH aH λv2 h2 k2 S=>?_;have h3:=S.one;simp only[Z3,seval,-ae,h3,WX A];exact⟨_,aH,i+1,v2,aH,rfl,rfl,k2,by rw[YV A,YI];exact S⟩
 have X:i=Tw x:=aH
 subst X;rw[YP]at I;have Y:=zCH (λl=>96+l) x;have Z:Z5 h v=Ik (x.map λl=>UInt8.ofNat (96+l).toNat):=ft.bytesX (by rw[Yj];exact I) Y;simp only[Z3,seval,-ae,Q,qz,Z];exact Gh.fin0 W trivial D
end
section
open Go.Ab Go.Lie Go.Grp
def tj(i:Nat):UInt8:=UInt8.ofNat (97+i)
def pW(O:V1):Nat->List UInt8
 |0=>[]
 |i+1=>(if 0<i then pW O i++[32]else pW O i)++Lib.decDigits (at_ O i).toNat
def uc(O:V1)(P:V2)(q:List UInt8):Nat->List UInt8
 |0=>q
 |i+1=>if isZ (jt P i)then uc O P q i else uc O P q i++[59,32]++[tj i]++[94]++Lib.decDigits (at_ O i).toNat++[61]++kx (Mx.nw (jt P i))
def tn(n:Nat)(C:V3)(q:List UInt8)(i:Nat):Nat->List UInt8
 |0=>q
 |k+1=>if iD C i (i+1+k)=iS n (i+1+k)then tn n C q i k else tn n C q i k++[59,32]++[tj (i+1+k)]++[94]++[tj i]++[61]++kx (Mx.nw (iD C i (i+1+k)))
def Ci(n:Nat)(C:V3)(q:List UInt8):Nat->List UInt8
 |0=>q
 |i+1=>tn n C (Ci n C q i) i (n-1-i)
def u0(O:V1)(P:V2)(C:V3):List UInt8:=
 if (Tw O)=0 then [49]else Ci (Tw O) C (uc O P (pW O (Tw O)) (Tw O)) (Tw O)
def zAy{n:Int}(k:Nat)(D:0<=n/\n<=1000000/\n<10 ^ (k+1))(I:k<=100)(A:∀q:List UInt8,q=Lib.decDigits n.toNat->(Tw q)<=k+1->K (.str q) σ):zA Tp 48 [.int .i64 n] σ K:=
 zPj k D I (A _ rfl (Zv k _ (by
  simp_all)))
def zGl{w:Bool}{A:AV}(J:(Tw x)<=42)(I:∀l∈x,1<=l/\l<=26)(D:∀q:List UInt8,q=kx x->(Tw q)<=43->K (.str q) σ):zA Tp 99 [.fz w A (Tw x) (eh x)] σ K:=
 zGm aH I (D _ rfl (by
  unfold kx;split
  .simp
  .rw[Yj];omega))
def zMA{z:Int}(J:1<=z/\z<=26)(I:σ.cd s0=Ik [.int .i64 z])(A:K (.str (kx [z])) (σ.kill s0)):zA Tp 99 [.sl s0 0 1 (.cm 1)] σ K:=by
 refine zA.frz I ⟨Is,Is⟩ λo=>?_;have e:nD s0 o [.int .i64 z] [.sl s0 0 1 (.cm 1)]=[.fz Im (.sl o 0 1 (.cm 1)) 1 [.int .i64 z]]:=by simp[nD,sb,kv]
 rw[e];exact zGm (x:=[z]) bj (λl D=>by rw[YW.1 D];exact J) A
def zBX{i:Nat}(D:i<=20)(A:∀q:List UInt8,q=[tj i]->(Tw q)<=1->K (.str q) σ):zA Tp 98 [.int .i64 i] σ K:=by
 have w1:Tu .i64 ((i:Int)+1)=(i:Int)+1:=WE;refine To Tryz.func98 ?_;simp only[Z3,seval,-ae,w1];refine zMA (z:=(i:Int)+1) aH (by rw[zC,Iu rfl]) ?_;refine Tq ?_;refine Gh.fin0 ((zB _ _).kill (sB _)) trivial (A _ ?_ (by simp[kx]));simp only[kx,tj,Yw,UJ,reduceCtorEq,if_false];rw[show(96+((i:Int)+1)).toNat=97+i by omega]
def Zc{x:V1}(Q:(Tw x)<=6)(I:∀a∈x,0<=a/\a<=7):(Mx.nw x).length<=42/\∀l∈Mx.nw x,1<=l/\l<=26:=by
 have A:∀j,nx x j<=7:=λj=>by
  unfold nx;rcases YY j (Tw x) with h|h
  .rw[gj h];have:=I _ (ss h);omega
  .unfold at_;rw[YK,YN h];simp
 refine⟨?_,λl D=>by have:=Mx.Bq (x:=x) (n:=(Tw x)) (sB _) l D;omega⟩;have J:=Mx.tP (x:=x) (b:=7) A (Tw x);grind
def zGi(hv:FI v x)(hn:(Tw x)<=6)(U:∀a∈x,0<=a/\a<=7)(hk:∀u,FI u (Mx.nw x)->K u σ):zA Tp 100 [v] σ K:=by
 obtain⟨w,a,rfl⟩:=hv;have ie:∀i,i<=Tw x->(Mx.gT x i).length<=7*i:=λi=>by
  induction i with
  |zero=>intro _;exact sB _
  |succ i ih=>
   intro S
   have:=ih aH
   have b:=U _ (ss (show i<(Tw x) by omega));rw[Mx.gT,cO,YT];have e:nx x i=(x[i]'(by omega)).toNat:=by unfold nx;rw[gj aH]
   rw[e];omega
 refine To Tryz.func100 ?_;refine Tq ?_;refine zF (λm vs h=>∃(i:Nat) (v:PV),i<=Tw x/\m=Tw x-i/\vs=[.fz w a (Tw x) (eh x),v,.int .i64 i]/\dq σ h/\ft σ.bY 1 h v (Mx.gT x i).length (eh (Mx.gT x i))) (Tw x) ?_ ?_
 .exact⟨0,_,YQ _,rfl,rfl,zB _ _,ft.cb _ 1 rfl (sB _)⟩
 rintro m vs h ⟨i,v,S,rfl,rfl,I,A⟩
 have D:=A.one;have iu:=ie i S;simp only[Z3,seval,-ae,D];refine Tr (λY=>?_) λJ=>?_
 .obtain rfl:i=Tw x:=aH
  exact A.fin I (zO _ _) λo cap=>hk _ ⟨Im,_,rfl⟩
 have X:(i:Int)<(Tw x:Int):=aH
 have gx:(eh x)[i]? = Ik (.int .i64 x[i]):=by rw[zJ,gi J];rfl
 have xb:=U _ (ss J);refine zF (λm vs h=>∃(j:Nat) (v:PV),(j:Int)<=x[i]/\m=7-j/\vs=[.fz w a (Tw x) (eh x),v,.int .i64 i,.int .i64 j]/\dq σ h/\ft σ.bY 1 h v (Mx.gT x i++Jf j ((i:Int)+1)).length (eh (Mx.gT x i++Jf j ((i:Int)+1)))) 7 ?_ ?_
 .exact⟨0,v,aH,rfl,rfl,I,by rw[RP,YL];exact A⟩
 clear A I D
 rintro m vs h ⟨j,v,hj,rfl,rfl,I,A⟩
 have D:=A.one;have jq:(Mx.gT x i++Jf j ((i:Int)+1)).length=(Mx.gT x i).length+j:=by rw[cO,YT]
 simp only[Z3,seval,-ae,D,J,X,gx];refine Tr (λY=>?_) λjO=>?_
 .have e:Mx.gT x i++Jf j ((i:Int)+1)=Mx.gT x (i+1):=by
   rw[Mx.gT];grind
  rw[e]at A;simp only[Z3,seval,-ae,D,WX J];grind
 have wi:Tu .i64 ((i:Int)+1)=(i:Int)+1:=WE;have wj:Tu .i64 ((j:Int)+1)=((j+1:Nat):Int):=WQ
 simp only[Z3,seval,-ae,D,wi];refine ft.push (σb:=σ) (bytes:=8) I A aH aH λV Q k2 W=>?_;have h3:=W.one;simp only[Z3,seval,-ae,h3,wj];have e:Mx.gT x i++Jf (j+1) ((i:Int)+1)=(Mx.gT x i++Jf j ((i:Int)+1))++[(i:Int)+1]:=by rw[Oj,YH]
 have Z:∀z:V1,eh (z++[(i:Int)+1])=eh z++[.int .i64 ((i:Int)+1)]:=λz=>by simp[eh]
 have fin:∀{z:V1},ft σ.bY 1 Q V (Tw z+1) (eh z++[.int .i64 ((i:Int)+1)])->ft σ.bY 1 Q V (z++[(i:Int)+1]).length (eh (z++[(i:Int)+1])):=λh=>by rw[Z,cO];exact h
 grind
def zGk(hR:eQ vO vP vC O P C)(hp:zI O P C)(hk:∀q:List UInt8,q=u0 O P C->(Tw q)<=3000->K (.str q) σ):zA Tp 49 [.agg [vO,vP,vC]] σ K:=by
 have sh:=hp.shp;have bB:=sh.le;have o1:=hR.O.one;have p1:=hR.P.one;have c1:=hR.C.one;obtain⟨⟨wO,aO,rfl⟩,⟨wP,aP,rP,rfl,B8⟩,⟨wC,aC,rC,rfl,pM⟩⟩:=hR;have nT:=sh.pl;have dD:=sh.cl;refine zA.gh ?_;refine zt mix Tryz.func49 cf49 rfl ?_;dsimp only[if49,qI,eI,qD,eD,rH,kI0,lI0,fI0,xI0,bI0,BY,nI0,sI0,C1,ta,uY,E2,xD0,I0,R0,S0];simp only[Z3,seval,-ae,o1,p1,c1];generalize hH:σ.cb [PV.fz wO aO (Tw O) (eh O),PV.fz wP aP (Tw P) rP,PV.fz wC aC (Tw C) rC]=H;have kH:dq σ H:=by rw[<-hH];exact zB _ _
 have r0:H.gv σ.bY 0=Ik (.fz wO aO (Tw O) (eh O)):=by rw[<-hH];simp only[Z3,seval,-ae]
 have r1:H.gv σ.bY 1=Ik (.fz wP aP (Tw P) rP):=by rw[<-hH];simp only[Z3,seval,-ae]
 have r2:H.gv σ.bY 2=Ik (.fz wC aC (Tw C) rC):=by rw[<-hH];simp only[Z3,seval,-ae]
 clear hH;have fin:∀{q:List UInt8},q=u0 O P C->(Tw q)<=3000->Gh σ K (.str q) H:=λe l=>Gh.fin0 kH trivial (hk _ e l);have hO:∀i (S:i<Tw O),2<=O[i]/\O[i]<=7:=λi S=>by have:=sh.pr i S;rw[gj S]at this;exact this
 have ent:∀{k:Nat} {y:V1},TT O k y->∀a∈y,0<=a/\a<=7:=λ{k y} h a ha=>by
  obtain⟨j,hj,rfl⟩:=YE.1 ha;have b:=h.bd j (by have:=h.len;omega);grind
 have PR:∀i (S:i<Tw P),P[i].length=Tw O/\∀a∈P[i],0<=a/\a<=7:=λi S=>by
  have h:=sh.pw i aH;have e:jt P i=P[i]:=by grind
  rw[e]at h;exact⟨h.len,ent h⟩
 have CL:∀i (S:i<Tw C),C[i].length=Tw O-1-i:=λi S=>by
  have h:=sh.row i aH;grind
 have CR:∀i (S:i<Tw C) k (hk:k<C[i].length),C[i][k].length=Tw O/\∀a∈C[i][k],0<=a/\a<=7:=λi S k cB=>by
  have hl:=CL i S;have h:=sh.cj i (i+1+k) aH aH;have e:iD C i (i+1+k)=C[i][k]:=by
   grind
  rw[e]at h;exact⟨h.len,ent h⟩
 have dec:∀{g:dj} {K':PV->dj->Prop} {a:Int},2<=a/\a<=7->(∀d:List UInt8,d=Lib.decDigits a.toNat->(Tw d)<=6->K' (.str d) g)->zA Tp 48 [.int .i64 a] g K':=λ{g K' a} ha cB=>
  zAy 5 ⟨aH,aH,Int.lt_of_lt_of_le (show a<1000000 by omega) Tx⟩ Tx cB
 refine fi (λe0=>fin (Iu aH).symm bj) λgQ=>?_;refine zF (λm vs h=>∃(i:Nat) (q:List UInt8),i<=Tw O/\m=Tw O-i/\vs=[.ptr σ.bY 0,.int .i64 (Tw O),.str q,.int .i64 i]/\q=pW O i/\Tw q<=9*i/\h=H) (Tw O) ?_ ?_
 .exact⟨0,[],YQ _,rfl,rfl,rfl,sB _,rfl⟩
 rintro m vs h ⟨i,q,S,rfl,rfl,eq,hq,rfl⟩
 refine Tq ?_;refine fi (λD=>?_) λan=>?_
 .have U:(i:Int)<(Tw O:Int):=aH
  have Z:(eh O)[i]? = Ik (.int .i64 O[i]):=by rw[zJ,gi D];rfl
  have ob:=hO i D;refine fi (λhp=>zP ?_) λhp=>?_
  all_goals
   simp only[Z3,seval,-ae,r0,D,U,Z];refine dec ob λd ed hd=>?_;refine Tq ?_;refine zP ?_;simp only[Z3,seval,-ae,WX D];exact⟨_,aH,i+1,_,aH,rfl,rfl,by rw[pW,ed,eq,gj D];first|rw[Iu aH] |rw[Iv aH],by grind⟩
 refine zF (λm vs h'=>∃(i:Nat) (q:List UInt8),i<=Tw O/\m=Tw O-i/\vs=[.ptr σ.bY 0,.int .i64 (Tw O),.str q,.int .i64 i]/\q=uc O P (pW O (Tw O)) i/\Tw q<=60+60*i/\h'=h) (Tw O) ?_ ?_
 .exact⟨0,q,YQ _,rfl,rfl,by rw[eq,uc,show i=(Tw O) by omega],aH,rfl⟩
 clear hq an S eq
 rintro m vs h ⟨i,q,S,rfl,rfl,eq,hq,rfl⟩
 refine Tq ?_;refine fi (λD=>?_) λan=>?_
 .have cJ:i<Tw P:=aH
  have bQ:(i:Int)<(Tw P:Int):=aH
  have U:(i:Int)<(Tw O:Int):=aH
  have Z:(eh O)[i]? = Ik (.int .i64 O[i]):=by rw[zJ,gi D];rfl
  have ob:=hO i D;obtain⟨w4,a4,A⟩:=B8.rowI cJ;obtain⟨pl,pe⟩:=PR i cJ;have wi:=WX D;simp only[Z3,seval,-ae,r0,r1,cJ,bQ,A];refine zAc rfl aH ?_;refine Tq ?_;have ep:jt P i=P[i]:=by simp_all
  by_cases I:isZ P[i]
  .simp only[Z3,seval,-ae,I,wi];exact⟨_,aH,i+1,_,aH,rfl,rfl,by rw[uc,ep,Iu I,eq],aH⟩
  simp only[Z3,seval,-ae,I,r0,r1,cJ,bQ,A,D,U,Z];refine zP ?_;simp only[Z3,seval,-ae,I,r0,r1,cJ,bQ,A,D,U,Z];refine zBX aH λd1 e1 HJ=>?_;simp only[Z3,seval,-ae,r0,r1,cJ,bQ,A,D,U,Z];refine zP ?_;simp only[Z3,seval,-ae,r0,r1,cJ,bQ,A,D,U,Z,wi];refine zP ?_;simp only[Z3,seval,-ae,r0,r1,cJ,bQ,A,D,U,Z,wi];refine dec ob λd2 e2 AZ=>?_;simp only[Z3,seval,-ae,r0,r1,cJ,bQ,A,D,U,Z,wi];refine zP ?_;simp only[Z3,seval,-ae,r0,r1,cJ,bQ,A,D,U,Z,wi];refine zP ?_;simp only[Z3,seval,-ae,r0,r1,cJ,bQ,A,D,U,Z,wi];have nl:=Zc aH pe;refine zGi ⟨w4,a4,rfl⟩ aH pe λu hu=>?_;obtain⟨w5,a5,rfl⟩:=hu;simp only[Z3,seval,-ae,r0,r1,cJ,bQ,A,D,U,Z,wi];refine zGl aH nl.2 λd3 e3 CO=>?_;simp only[Z3,seval,-ae,r0,r1,cJ,bQ,A,D,U,Z,wi];refine zP ?_;simp only[Z3,seval,-ae,r0,r1,cJ,bQ,A,D,U,Z,wi];exact⟨_,aH,i+1,_,aH,rfl,rfl,by rw[uc,ep,Iv I,eq,e1,e2,e3,gj D],by simp only[cO,YF,Ov];omega⟩
 refine zF (λm vs h'=>∃(i:Nat) (q:List UInt8),i<=Tw O/\m=Tw O-i/\vs=[.ptr σ.bY 0,.int .i64 (Tw O),.str q,.int .i64 i]/\q=Ci (Tw O) C (uc O P (pW O (Tw O)) (Tw O)) i/\Tw q<=420+420*i/\h'=h) (Tw O) ?_ ?_
 .exact⟨0,q,YQ _,rfl,rfl,by rw[eq,Ci,show i=(Tw O) by omega],aH,rfl⟩
 clear hq an S eq
 rintro m vs h ⟨i,q,S,rfl,rfl,eq,hq,rfl⟩
 refine Tq ?_;refine Tr (λan=>?_) λD=>?_
 .exact fin (by rw[eq,u0,Iv aH,show i=(Tw O) by omega]) aH
 have U:(i:Int)<(Tw O:Int):=aH
 have J:i<Tw C:=aH
 have V:(i:Int)<(Tw C:Int):=aH
 have wi:=WX D;obtain⟨w4,a4,tF,A,gI⟩:=pM.rowL J;have cl:=CL i J;simp only[Z3,seval,-ae,wi];refine zF (λm vs h'=>∃(j:Nat) (q:List UInt8),i+1<=j/\j<=Tw O/\m=Tw O-j/\vs=[.ptr σ.bY 0,.int .i64 (Tw O),.str q,.int .i64 i,.int .i64 j]/\q=tn (Tw O) C (Ci (Tw O) C (uc O P (pW O (Tw O)) (Tw O)) i) i (j-(i+1))/\Tw q<=420+420*i+60*j/\h'=h) (Tw O-(i+1)) ?_ ?_
 .exact⟨i+1,q,sB _,aH,rfl,rfl,by rw[eq,Yh,tn],aH,rfl⟩
 clear hq eq
 rintro m vs h ⟨j,q,tu,hj,rfl,rfl,eq,hq,rfl⟩
 refine Tq ?_;refine Tr (λan=>?_) λjO=>?_
 .simp only[Z3,seval,-ae,wi];exact⟨_,aH,i+1,q,aH,rfl,rfl,by rw[Ci,eq,show j-(i+1)=Tw O-1-i by omega],aH⟩
 have Q:j-i-1<C[i].length:=aH
 have W:((j-i-1:Nat):Int)<(C[i].length:Int):=aH
 have wj:=WX jO;have wk:Tu .i64 ((j:Int)-(i:Int))=(j:Int)-(i:Int):=WE;have X:Tu .i64 ((j:Int)-(i:Int)-1)=((j-i-1:Nat):Int):=WQ
 obtain⟨w6,a6,Y⟩:=gI.rowI Q;obtain⟨pl,pe⟩:=CR i J _ Q;simp only[Z3,seval,-ae,r2,J,V,A,wk,X,Q,W,Y];refine Qq aH jO λwu hu=>?_;obtain⟨w7,a7,rfl⟩:=hu;simp only[Z3,seval,-ae,r2,J,V,A,wk,X,Q,W,Y];refine qi rfl rfl aH ?_;have ec:iD C i j=C[i][j-i-1]:=by
  unfold iD;rw[YK,YK,na J];simp only[NP];rw[na Q];rfl
 have ej:i+1+(j-(i+1))=j:=aH
 have es:j+1-(i+1)=j-(i+1)+1:=aH
 by_cases I:C[i][j-i-1]=iS (Tw O) j
 .simp only[Z3,seval,-ae,I,wj];exact⟨_,aH,j+1,q,aH,aH,rfl,rfl,by rw[es,tn,ej,ec,Iu I,eq],aH⟩
 simp only[Z3,seval,-ae,I,r2,J,V,A,wk,X,Q,W,Y,wj];refine zP ?_;simp only[Z3,seval,-ae,I,r2,J,V,A,wk,X,Q,W,Y,wj];refine zBX aH λd1 e1 HJ=>?_;simp only[Z3,seval,-ae,I,r2,J,V,A,wk,X,Q,W,Y,wj];refine zP ?_;simp only[Z3,seval,-ae,I,r2,J,V,A,wk,X,Q,W,Y,wj];refine zP ?_;simp only[Z3,seval,-ae,I,r2,J,V,A,wk,X,Q,W,Y,wj];refine zBX aH λd2 e2 AZ=>?_;simp only[Z3,seval,-ae,I,r2,J,V,A,wk,X,Q,W,Y,wj];refine zP ?_;simp only[Z3,seval,-ae,I,r2,J,V,A,wk,X,Q,W,Y,wj];refine zP ?_;simp only[Z3,seval,-ae,I,r2,J,V,A,wk,X,Q,W,Y,wj];have nl:=Zc aH pe;refine zGi ⟨w6,a6,rfl⟩ aH pe λu hu=>?_;obtain⟨w5,a5,rfl⟩:=hu;simp only[Z3,seval,-ae,I,r2,J,V,A,wk,X,Q,W,Y,wj];refine zGl aH nl.2 λd3 e3 CO=>?_;simp only[Z3,seval,-ae,I,r2,J,V,A,wk,X,Q,W,Y,wj];refine zP ?_;simp only[Z3,seval,-ae,I,r2,J,V,A,wk,X,Q,W,Y,wj];exact⟨_,aH,j+1,_,aH,aH,rfl,rfl,by rw[es,tn,ej,ec,Iv I,eq,e1,e2,e3],by simp only[cO,YF,Ov];omega⟩
end
section
open Go.Ab Go.Lie Go.Grp
variable{k:Int}{G:List sg}
def grT(q:List UInt8)(G:List sg):Nat->List UInt8
 |0=>q
 |i+1=>grT q G i++u0 (G.getD i ([],[],[])).1 (G.getD i ([],[],[])).2.1 (G.getD i ([],[],[])).2.2++[10]
def enT(q:List UInt8)(x:V1):Nat->List UInt8
 |0=>q
 |j+1=>enT q x j++[32]++Lib.itoa (at_ x j)
def F5(q:List UInt8)(L:V2):Nat->List UInt8
 |0=>q
 |i+1=>enT (F5 q L i++[58]) (L.getD i []) (L.getD i []).length++[10]
def lV(k:Int)(G:List sg)(L:V2):List UInt8:=F5 (grT (Lib.itoa k++[10]) G (Tw G)) L (Tw L)
def zLo{n:Int}(J:-1000000<=n/\n<=1000000)(D:∀q:List UInt8,q=Lib.itoa n->(Tw q)<=8->K (.str q) σ):zA Tp 50 [.int .i64 n] σ K:=by
 refine To Tryz.func50 ?_;by_cases A:n<0
 .have w1:Tu .i64 (0-n)=-n:=WQ
  simp only[Z3,seval,-ae,A,w1];refine zAy 6 ⟨aH,aH,aH⟩ Tx λq e I=>?_;refine Tq ?_;refine zP ?_;refine Tq ?_;refine Gh.fin0 (dq.refl _) trivial (D _ ?_ (by simp_all));rw[Lib.itoa,Iu A,e,show(-n).toNat=n.natAbs by omega]
 .simp only[Z3,seval,-ae,A];refine zAy 6 ⟨aH,aH,aH⟩ Tx λq e I=>?_;refine Tq ?_;refine Gh.fin0 (dq.refl _) trivial (D _ ?_ aH);rw[Lib.itoa,Iv A,e]
set_option maxHeartbeats 1600000 in
def zNn(hG:FG vG G)(hL:hK vL L)(hc:zm k G L)(hk:∀q:List UInt8,q=lV k G L->K (.str q) σ):zA Tp 19 [.agg [.int .i64 k,vG,vL]] σ K:=by
 obtain⟨wG,Z,D,rfl,gZ⟩:=hG;obtain⟨wL,aL,rL,rfl,kP⟩:=hL;obtain⟨J,c2,c3,c4⟩:=hc;have G9:1<=k/\k<=6:=by
  unfold Bh at J;by_cases U:k=5
  .omega
  by_cases W:k=4
  .omega
  rw[Iv U,Iv W]at J;split at J<;>omega
 have Es:(Tw G)<=3:=by
  unfold Bh at J;by_cases U:k=5
  .rw[Iu U]at J;omega
  by_cases W:k=4
  .rw[Iv U,Iu W]at J;omega
  .rw[Iv U,Iv W,Iu G9]at J;omega
 refine To Tryz.func19 ?_;refine Tq ?_;generalize hH:σ.cb [.int .i64 k,.fz wG Z (Tw G) (re D),.fz wL aL (Tw L) rL]=H;have kH:dq σ H:=by rw[<-hH];exact zB _ _
 have hs:H.cd σ.bY=Ik [.int .i64 k,.fz wG Z (Tw G) (re D),.fz wL aL (Tw L) rL]:=by rw[<-hH];simp only[Z3,seval,-ae]
 have e0:H.gv σ.bY 0=Ik (.int .i64 k):=by rw[zH hs];rfl
 have e1:H.gv σ.bY 1=Ik (.fz wG Z (Tw G) (re D)):=by rw[zH hs];rfl
 have V:H.gv σ.bY 2=Ik (.fz wL aL (Tw L) rL):=by rw[zH hs];rfl
 clear hH;simp only[Z3,seval,-ae,e0];refine zAy 6 ⟨aH,aH,aH⟩ Tx λq0 PJ j9=>?_;refine Tq ?_;refine zP ?_;have eK:q0=Lib.itoa k:=by rw[Lib.itoa,Iv aH,PJ]
 refine Tq ?_;refine zF (λm I h'=>∃(i:Nat) (q:List UInt8),i<=Tw G/\m=Tw G-i/\I=[.ptr σ.bY 0,.str q,.int .i64 i]/\q=grT (Lib.itoa k++[10]) G i/\Tw q<=8+3001*i/\H=h') (Tw G) ?_ ?_
 .exact⟨0,_,aH,aH,rfl,by rw[eK];rfl,by simp_all,rfl⟩
 rintro m I h' ⟨i,q,hi,rfl,rfl,eq,hq,rfl⟩
 simp only[Z3,seval,-ae,e1];refine fi (λA=>?_) λan=>?_
 .have mD:i<Tw D:=by rw[gZ.1];exact A
  have lO:=zAj mD;have h3:3<=(re D).length-i*3:=by have:=qV D;omega
  have X:eQ D[i].1 D[i].2.1 D[i].2.2 G[i].1 G[i].2.1 G[i].2.2:=gZ.2 i _ _ (na mD) (na A);simp only[Z3,seval,-ae,e1,A,lO,h3,X.O.one,X.P.one,X.C.one,Ys];refine zGk X (c3 _ (ss A)) λq1 PI Gu=>?_;have ge:G.getD i ([],[],[])=G[i]:=by simp_all
  simp only[Z3,seval,-ae,e1];refine zP ?_;refine Tq ?_;refine zP ?_;simp only[Z3,seval,-ae,WX A];exact⟨_,aH,i+1,_,aH,rfl,rfl,by rw[grT,ge,eq,PI],by grind⟩
 have iG:i=Tw G:=aH
 refine Tq ?_;refine zF (λm I S=>∃(i:Nat) (q:List UInt8),i<=Tw L/\m=Tw L-i/\I=[.ptr σ.bY 0,.str q,.int .i64 i]/\q=F5 (grT (Lib.itoa k++[10]) G (Tw G)) L i/\Tw q<=10000+2000*i/\H=S) (Tw L) ?_ ?_
 .exact⟨0,q,aH,aH,rfl,by rw[eq,iG];rfl,aH,rfl⟩
 clear hi an eq hq iG
 rintro m I S ⟨i,q,hi,rfl,rfl,eq,hq,rfl⟩
 simp only[Z3,seval,-ae,V];refine Tr (λan=>?_) λA=>?_
 .exact Gh.fin0 kH trivial (hk _ (by rw[eq,show i=(Tw L) by omega];rfl))
 obtain⟨w4,a4,hr⟩:=kP.rowI A;obtain⟨jx,Hx⟩:=c4 _ (ss A);have ge:L.getD i []=L[i]:=by simp_all
 refine Tq ?_;refine zP ?_;refine Tq ?_;refine zF (λm I S=>∃(j:Nat) (Y:List UInt8),j<=L[i].length/\m=L[i].length-j/\I=[.ptr σ.bY 0,.str Y,.int .i64 i,.int .i64 j]/\Y=enT (q++[58]) L[i] j/\Tw Y<=10001+2000*i+9*j/\H=S) L[i].length ?_ ?_
 .exact⟨0,_,aH,aH,rfl,rfl,by grind,rfl⟩
 rintro m I S ⟨j,Y,hj,rfl,rfl,KW,cH,rfl⟩
 simp only[Z3,seval,-ae,V,A,hr];refine Tr (λN6=>?_) λQ=>?_
 .refine Tq ?_;refine zP ?_;simp only[Z3,seval,-ae,WX A];exact⟨_,aH,i+1,_,aH,rfl,rfl,by rw[F5,ge,KW,eq,show j=L[i].length by omega],by grind⟩
 have hv:=Hx _ (ss Q);refine Tq ?_;refine zP ?_;simp only[Z3,seval,-ae,V,A,hr,Q,gi Q,zJ];refine zLo hv λq2 PH nR=>?_;simp only[Z3,seval,-ae,V,A,hr,Q,gi Q,zJ];refine zP ?_;simp only[Z3,seval,-ae,WX Q];exact⟨_,aH,j+1,_,aH,rfl,rfl,by rw[enT,KW,PH,gj Q],by grind⟩
def QM(I:FG vG G)(Y:SzG G)(J:hK vL L)(X:CV L)
  (W:¬zm k G L->K (.tup [.str [],.int .i64 1]) σ) (V:zm k G L->K (.tup [.str (lV k G L),.int .i64 0]) σ):zA Tp 7 [.agg [.int .i64 k,vG,vL]] σ K:=by
 have A:=I.one;have D:=J.one;refine zA.gh ?_;have U:=zB σ [.int .i64 k,vG,vL];refine Tn Tryz.func7 ?_;simp only[Z3,seval,-ae,A,D];refine zDu I Y J X λt S=>?_;cases t with
 |false=>
  simp only[Z3,seval,-ae,A,D];exact Gh.fin0 U ⟨Is,Is,Is⟩ (W λh=>by cases S.2 h)
 |true=>
  have Q:=S.1 rfl;simp only[Z3,seval,-ae,A,D];refine zNn I J Q λq eq=>?_;subst eq;refine Tq ?_;exact Gh.fin0 U ⟨Is,Is,Is⟩ (V Q)
end
section
open Go.RowKit in
def zLl(i:Nat)(I:i<=20)(w:World):Calls Tp 90 #[.int .i64 i] w λe w'=>e=.returned (.string ⟨#[UInt8.ofNat (97+i)]⟩)/\w'=w:=by
 have A:∀i:Fin 21,Utf8.encode (97+(i.val:Int))=⟨#[UInt8.ofNat (97+i.val)]⟩:=by decide +kernel
 have D:=A ⟨i,aH⟩
 go_enter Tryz.func90,Tryz.ntmps90
 go_wp2
 go_ret
 exact⟨rfl,rfl⟩
open Go.RowKit Go.Ab Go.Lie Go.Grp
variable{σ h:dj}{K:PV->dj->Prop}{s n i:Nat}{v:PV}{x:V1}{B:Nat}{w0 w:World}{j:jv}{hh:dN}
def zMl (m : MR B w0 j hh w) : Lib.TabIs Tp w "internal/strconv.uint64pow10" .u64 Lib.pow10Tab := by
 obtain⟨ty,fz,g2⟩:=m.gd.tab;have hg : Program.globalNamed Tp "internal/strconv.uint64pow10" = Ik gdB := by kernel_rfl
 unfold Lib.TabIs World.var?;rw[hg];simp only[YG];rw[m.below.block gdB (UK (by decide:gdB<=3) m.gd.lt),g2];rfl
def zJN{n:Int}(A:-9223372036854775808<=n)(D:n<=9223372036854775807)(J:K (.str (Lib.itoa n)) σ):zA Tp 42 [.int .i64 n,.int .i64 10] σ K:=by
 refine zA.quietS (q:=Lib.itoa n) (λι Z h r va B w0 j w cargs m S=>?_) J;obtain⟨_,_,rfl,rfl,_,_,rfl,rfl,rfl⟩:=S;exact(Tryz.strconv_FormatInt_10 n A D w (zMl m)).mono λe w' ⟨I,k,os,Q⟩=>⟨I,Q ▸ Go.Lib.below_grow _ w (sB _) k os⟩
def zBV(D:i<=20)(I:K (.str [tj i]) σ):zA Tp 90 [.int .i64 i] σ K:=by
 refine zA.quietS (q:=[tj i]) (λι Z h r va B w0 j w cargs m Q=>?_) I;obtain⟨_,_,rfl,rfl,rfl⟩:=Q;exact(zLl i D w).mono λe w' ⟨A,J⟩=>⟨A,J ▸ Below.refl _ _⟩
def nU(l:List (List UInt8)):List PV:=l.map PV.str
def zQQ{ι:Nat->Nat}{l:List (List UInt8)}(i:Nat)(x:List UInt8)(A:l[i]? = Ik x):(kA ι (nU l))[i]? = Ik (AV.str x):=by
 rw[qP,nU,Yl,Yl,A];rfl
def zF0{l:List (List UInt8)}{sep:List UInt8}{cap:nK}(ho:σ.cd s=Ik (nU l))(hn:n=Tw l)(hc:kv cap n=Im)(h0:0<n)(hl:n<=1000)(hlen:(Lib.join l sep).length<=140737488355328)
  (hk:K (.str (Lib.join l sep)) σ):zA Tp 88 [.sl s 0 n cap,.str sep] σ K:=by
 refine zA.quietS (q:=Lib.join l sep) (λι Z h r va B w0 j w cargs m vi=>?_) hk;obtain⟨I,_,rfl,v1,_,_,rfl,rfl,rfl⟩:=vi;obtain⟨q1,q2,q3⟩:=r.cd s _ ho;have S:VI j (.sl (ι s) 0 n cap) I:=v1;obtain⟨A,c,D,rfl,cV⟩:∃A c,j (ι s)=Ik A/\I=.slice (Ik ⟨A.blk,A.base,none⟩) n c/\n<=c:=by
  cases cap with
  |cm c=>
   obtain⟨A,a,D,e,ha⟩:=S;rcases ha with rfl|⟨_,X⟩
   .exact⟨A,c,D,e,by simpa [kv]using hc⟩
   .omega
  |grown e=>
   obtain⟨A,c,f,D,J,hle,hf,_⟩:=S;rcases hf with rfl|⟨X,_⟩
   .exact⟨A,c,D,J,hle⟩
   .omega
 obtain⟨cur,ty,fz,r1,r2,r3,r4⟩:=(m.cd _ _ _ q1 D).row;have Y:∀(k:Nat) (x:ByteArray),(l.map λy=>(⟨y.toArray⟩:ByteArray))[k]? = Ik x->w.cell? ⟨A.blk,A.base+k,none⟩=Ik (.string x):=λk x U=>by
  rw[Yl,YJ]at U;obtain⟨y,hy,rfl⟩:=U;obtain⟨I,V,W⟩:=r2 k _ (zQQ k y hy);rw[Lib.cell_of_heap r1,V,show I=_ from W]
 have zE:A.blk<w.heap.size:=(YA.1 r1).1;have J:(l.map λy=>(⟨y.toArray⟩:ByteArray)).map (·.data.toList)=l:=by rw[UR];simp[Function.comp_def]
 have Q:(l.map λy=>(⟨y.toArray⟩:ByteArray)).length=n:=by rw[Yj,hn]
 have:=Tryz.strings_Join A.blk A.base c (l.map λy=>⟨y.toArray⟩) ⟨sep.toArray⟩ w Y zE (by rw[Q];omega) (by rw[Q];exact cV) (by rw[J];exact hlen)
 rw[Q,J]at this;exact this
def zE4{w:Bool}{U:AV}(hn:(Tw x)<=42)(hx:∀l∈x,1<=l/\l<=26)(A:∀q:List UInt8,q=kx x->(Tw q)<=43->K (.str q) σ):zA Tp 91 [.fz w U (Tw x) (eh x)] σ K:=by
 have A:=A _ rfl (by
  unfold kx;split
  .simp
  .rw[Yj];omega)
 unfold kx at A;refine To Tryz.func91 ?_;by_cases V:(Tw x)=0
 .have J:((Tw x:Nat):Int)=0:=aH
  rw[Iu (List.length_eq_zero_iff.1 V)]at A;simp only[Z3,seval,-ae,J];exact Gh.fin0 (dq.refl _) trivial A
 have J:¬((Tw x:Nat):Int)=0:=aH
 rw[Iv (λe=>V (by rw[e];rfl))]at A;simp only[Z3,seval,-ae,J];refine zF (λm vs h=>∃(i:Nat) (v:PV),i<=Tw x/\m=Tw x-i/\vs=[v,.fz w U (Tw x) (eh x),.int .i64 (Tw x),.int .i64 i]/\dq σ h/\fB σ.bY 1 h v i ((x.take i).map λl=>PV.int .u8 (96+l))) (Tw x) ?_ ?_
 .exact⟨0,_,YQ _,rfl,rfl,dq.refl _,fB.nil _ _ _⟩
 rintro m vs h ⟨i,v,hi,rfl,rfl,W,I⟩
 have Q:=I.one;simp only[Z3,seval,-ae,Q];refine fi (λD=>?_) λan=>?_
 .have ah:(i:Int)<(Tw x:Int):=aH
  have gx:(eh x)[i]? = Ik (.int .i64 x[i]):=by rw[zJ,gi D];rfl
  have b1:=hx _ (ss D);have hp:(0:Int)<x[i]:=aH
  have w1:Tu .i64 (97+x[i])=97+x[i]:=WE;have w2:Tu .i64 (97+x[i] - 1)=96+x[i]:=WQ
  have w3:IntKind.u8.wrap (96+x[i])=96+x[i]:=Zx aH aH;simp only[Z3,seval,-ae,Q,D,ah,gx,hp,w1,w2,w3];refine fB.push (σb:=σ) (bytes:=1) W I aH aH λv2 h2 k2 S=>?_;have h3:=S.one;simp only[Z3,seval,-ae,h3,WX D];exact⟨_,aH,i+1,v2,aH,rfl,rfl,k2,by rw[YV D,YI];exact .inr S⟩
 have X:i=Tw x:=aH
 subst X;rw[YP]at I;have Y:=zCH (λl=>96+l) x;have Z:Z5 h v=Ik (x.map λl=>UInt8.ofNat (96+l).toNat):=ft.bytesX (by rw[Yj];exact I.pos aH) Y;simp only[Z3,seval,-ae,Q,qz,Z];exact Gh.fin0 W trivial A
end
section
open Go.Ab Go.Lie Go.Grp
def zDD{l:List (List UInt8)}(h:l≠[])(p sep:List UInt8):Lib.join (l++[p]) sep=Lib.join l sep++sep++p:=by
 cases l with
 |nil=>exact absurd rfl h
 |cons x r=>rw[Yy,Lib.join_cons,Lib.join_cons];simp[Lib.joinTail]
def strO(O:V1)(i:Nat):List (List UInt8):=(O.take i).map Lib.itoa
def zGU(A:i<Tw O):strO O (i+1)=strO O i++[Lib.itoa O[i]]:=by
 unfold strO;rw[YV A,YI];rfl
def zHf(A:i<=Tw O):(strO O i).length=i:=by unfold strO;rw[Yj,Ym];omega
def zIc(A:∀i (D:i<Tw O),0<=O[i]):∀i,i<=Tw O->Lib.join (strO O i) [32]=pW O i
 |0,_=>rfl
 |i+1,D=>by
  have e:Lib.itoa O[i]=Lib.decDigits (at_ O i).toNat:=by rw[Lib.itoa,Iv (by have:=A i aH;omega),gj (show i<(Tw O) by omega)]
  rw[zGU aH,pW,e];by_cases I:i=0
  .subst I;rw[Iv aH];simp[strO,Lib.join_one,pW]
  .rw[Iu aH,zDD (λz=>by have:=zHf (O:=O) (i:=i) aH;rw[z]at this;simp at this;omega),zIc A i aH]
def Zy(A:(Tw x)<=42):(kx x).length<=43:=by
 unfold kx;split
 .simp
 .rw[Yj];omega
def zEa(A:∀i,(Lib.decDigits (at_ O i).toNat).length<=6):∀i,(pW O i).length<=7*i
 |0=>sB _
 |i+1=>by
  have:=zEa A i
  have:=A i
  rw[pW];split<;>simp only[cO,YF,Ov]<;>omega
def zEY{q:List UInt8}(A:∀i,(Lib.decDigits (at_ O i).toNat).length<=6)(D:∀i,(kx (Mx.nw (jt P i))).length<=43):∀i,(uc O P q i).length<=Tw q+60*i
 |0=>sB _
 |i+1=>by
  have:=zEY (q:=q) A D i
  have:=A i
  have:=D i
  rw[uc];split
  .omega
  .simp only[cO,YF,Ov];omega
def zGx{q:List UInt8}(A:∀i j,(kx (Mx.nw (iD C i j))).length<=43)(i:Nat):∀k,(tn n C q i k).length<=Tw q+60*k
 |0=>sB _
 |k+1=>by
  have:=zGx (q:=q) A i k
  have:=A i (i+1+k)
  rw[tn];split
  .omega
  .simp only[cO,YF,Ov];omega
def zEv{q:List UInt8}(D:n<=6)(A:∀i j,(kx (Mx.nw (iD C i j))).length<=43):∀i,(Ci n C q i).length<=Tw q+360*i
 |0=>sB _
 |i+1=>by
  have I:=zEv (q:=q) D A i;have J:=zGx (n:=n) (q:=Ci n C q i) A i (n-1-i);have Q:60*(n-1-i)<=360:=aH
  rw[Ci];omega
set_option maxHeartbeats 3200000 in
def Z4{a:AV}{rest:List PV}(hR:eQ vO vP vC O P C)(hp:zI O P C)(hk:K (.str (u0 O P C)) σ):zA Tp 43 [.fp a (vO::vP::vC::rest)] σ K:=by
 have sh:=hp.shp;have bB:=sh.le;obtain⟨⟨wO,aO,rfl⟩,⟨wP,Y,Z,rfl,B8⟩,⟨wC,aC,rC,rfl,pM⟩⟩:=hR;have nT:=sh.pl;have dD:=sh.cl;have hO:∀i (hi:i<Tw O),2<=O[i]/\O[i]<=7:=λi hi=>by have:=sh.pr i hi;rw[gj hi]at this;exact this
 have ent:∀{k:Nat} {y:V1},TT O k y->∀a∈y,0<=a/\a<=7:=λ{k y} h a ha=>by
  obtain⟨j,hj,rfl⟩:=YE.1 ha;have b:=h.bd j (by have:=h.len;omega);grind
 have PR:∀i (hi:i<Tw P),P[i].length=Tw O/\∀a∈P[i],0<=a/\a<=7:=λi hi=>by
  have h:=sh.pw i aH;have e:jt P i=P[i]:=by grind
  rw[e]at h;exact⟨h.len,ent h⟩
 have CL:∀i (hi:i<Tw C),C[i].length=Tw O-1-i:=λi hi=>by
  have h:=sh.row i aH;grind
 have CR:∀i (hi:i<Tw C) k (hk:k<C[i].length),C[i][k].length=Tw O/\∀a∈C[i][k],0<=a/\a<=7:=λi hi k cB=>by
  have hl:=CL i hi;have h:=sh.cj i (i+1+k) aH aH;have e:iD C i (i+1+k)=C[i][k]:=by
   grind
  rw[e]at h;exact⟨h.len,ent h⟩
 refine To Tryz.func43 ?_;refine Tq ?_;refine zF (λm vs h=>∃(i:Nat) (v:PV),i<=Tw O/\m=Tw O-i/\vs=[.fp a (.fz wO aO (Tw O) (eh O)::.fz wP Y (Tw P) Z::.fz wC aC (Tw C) rC::rest),v,.fz wO aO (Tw O) (eh O),.int .i64 (Tw O),.int .i64 i]/\dq σ h/\fB σ.bY 1 h v i (nU (strO O i))) (Tw O) ?_ ?_
 .exact⟨0,_,YQ _,rfl,rfl,dq.refl _,fB.nil _ _ _⟩
 rintro m vs h ⟨i,v,hi,rfl,rfl,kk,pa⟩
 have h1:=pa.one;simp only[Z3,seval,-ae,h1];refine fi (λI=>?_) λan=>?_
 .have ah:(i:Int)<(Tw O:Int):=aH
  have gx:(eh O)[i]? = Ik (.int .i64 O[i]):=by rw[zJ,gi I];rfl
  have ob:=hO i I;simp only[Z3,seval,-ae,h1,I,ah,gx];refine zJN aH aH ?_;simp only[Z3,seval,-ae,h1];refine fB.push (σb:=σ) (bytes:=16) kk pa aH aH λv2 h2 k2 X=>?_;have h3:=X.one;simp only[Z3,seval,-ae,h3,WX I];exact⟨_,aH,i+1,v2,aH,rfl,rfl,k2,by rw[zGU I];refine .inr ?_;rw[nU,YI];exact X⟩
 obtain rfl:i=Tw O:=aH
 have jQ:∀i,(Lib.decDigits (at_ O i).toNat).length<=6:=λi=>by
  rcases YY i (Tw O) with h|h
  .have:=hO i h
   exact Yv (Zv 0 _ (by rw[gj h];omega)) aH
  .unfold at_;rw[YK,YN h];exact Yv (Zv 0 _ bj) aH
 by_cases dV:(Tw O)=0
 .have d0:((Tw O:Nat):Int)=0:=aH
  have l1:=pa.nN;have np:¬(0:Int)<(Tw P:Int):=aH
  have no:¬(0:Int)<(Tw O:Int):=aH
  simp only[Z3,seval,-ae,l1,d0];refine zF0 (l:=[[49]]) (by rw[zC,Iu rfl];rfl) rfl rfl aH aH (by simp[Lib.join_one]) ?_;rw[Lib.join_one];refine Tq ?_;generalize hH:(h.cb [PV.str [49]]).cb [PV.str [49]]=H;have kH:dq σ H:=by rw[<-hH];exact(kk.cb _).cb _
  have oH:H.cd (h.bY+1)=Ik [.str [49]]:=by rw[<-hH];exact Iu rfl
  refine zF (λm vs g=>m=0/\vs=[.fp a (.fz wO aO (Tw O) (eh O)::.fz wP Y (Tw P) Z::.fz wC aC (Tw C) rC::rest),.sl h.bY 0 1 (.cm 1),.sl (h.bY+1) 0 1 (.cm 1),.fz wP Y (Tw P) Z,.int .i64 (Tw P),.int .i64 0]/\g=H) 0 ⟨rfl,rfl,rfl⟩ ?_
  rintro m vs g ⟨rfl,rfl,rfl⟩
  simp only[Z3,seval,-ae,np];refine zF (λm vs g'=>m=0/\vs=[.fp a (.fz wO aO (Tw O) (eh O)::.fz wP Y (Tw P) Z::.fz wC aC (Tw C) rC::rest),.sl (h.bY+1) 0 1 (.cm 1),.int .i64 (Tw O),.int .i64 0]/\g'=g) 0 ⟨rfl,rfl,rfl⟩ ?_
  rintro m vs g' ⟨rfl,rfl,rfl⟩
  simp only[Z3,seval,-ae,no];refine zF0 (l:=[[49]]) oH rfl rfl aH aH (by simp[Lib.join_one]) ?_;rw[Lib.join_one];refine Tq ?_;refine Gh.fin0 kH trivial ?_;rwa[u0,Iu dV]at hk
 have d0:¬((Tw O:Nat):Int)=0:=aH
 have l1:=pa.nN;obtain⟨t,cap,rfl,q1,q2,q3,q4,q5⟩:=pa.pos aH;have J9:=zIc (O:=O) (λi hi=>by have:=hO i hi;omega) (Tw O) (sB _);have ki:=zEa jQ (Tw O);simp only[Z3,seval,-ae,l1,d0];refine zF0 q2 (zHf (sB _)).symm q1.ok aH aH (by rw[J9];omega) ?_;rw[J9];refine Tq ?_;have LU:t<h.bY:=q5;refine zF (λm vs g=>∃(i:Nat) (v:PV) (parts:List (List UInt8)),i<=Tw P/\m=Tw P-i/\vs=[.fp a (.fz wO aO (Tw O) (eh O)::.fz wP Y (Tw P) Z::.fz wC aC (Tw C) rC::rest),.sl t 0 (Tw O) cap,v,.fz wP Y (Tw P) Z,.int .i64 (Tw P),.int .i64 i]/\dq h g/\ft h.bY 1 g v (Tw parts) (nU parts)/\parts≠[]/\Tw parts<=1+i/\Lib.join parts [59,32]=uc O P (pW O (Tw O)) i) (Tw P) ?_ ?_
 .exact⟨0,_,[pW O (Tw O)],YQ _,rfl,rfl,zB _ _,ft.own (n:=1) (.inr rfl) (by rw[zC,Iu rfl];rfl) rfl (sB _) (YB _),bj,bj,by rw[Lib.join_one,uc]⟩
 rintro m vs g ⟨i,v,parts,hi,rfl,rfl,Q,J,U,pl,S⟩
 have A:=J.one;simp only[Z3,seval,-ae,A];refine fi (λI=>?_) λan=>?_
 .have ah:(i:Int)<(Tw P:Int):=aH
  have W:i<Tw O:=aH
  have iX:(i:Int)<(Tw O:Int):=aH
  have ob:=hO i W;obtain⟨w4,a4,hr⟩:=B8.rowI I;obtain⟨DN,pe⟩:=PR i I;have V:=WX I;have ep:jt P i=P[i]:=by simp_all
  have rO:g.gv t i=Ik (.str (Lib.itoa O[i])):=by
   rw[zH (by rw[Q.cd _ LU];exact q2),nU,strO,YP,Yl,Yl,na W];rfl
  have eI:Lib.itoa O[i]=Lib.decDigits (at_ O i).toNat:=by rw[Lib.itoa,Iv aH,gj W]
  have dl:=jQ i;rw[<-eI]at dl;have nl:=Zc aH pe;have wl:=Zy nl.1;simp only[Z3,seval,-ae,A,I,ah,hr];refine zGs rfl aH ?_;by_cases D:isZ P[i]
  .simp only[Z3,seval,-ae,A,D,V];exact⟨_,aH,i+1,v,parts,aH,rfl,rfl,Q,J,U,aH,by rw[uc,ep,Iu D];exact S⟩
  simp only[Z3,seval,-ae,A,D,V,rO,W,iX,I,ah];refine zBV aH ?_;simp only[Z3,seval,-ae,A,D,V,rO,W,iX,I,ah];refine zP ?_;simp only[Z3,seval,-ae,A,D,V,rO,W,iX,I,ah];refine zP ?_;simp only[Z3,seval,-ae,A,D,V,rO,W,iX,I,ah];refine zCa (λj=>?_) aH ⟨w4,a4,rfl⟩ λu hu=>?_
  .rcases YY j P[i].length with hj|hj
   .rw[gj hj];exact pe _ (ss hj)
   simp_all
  obtain⟨w5,a5,rfl⟩:=hu;simp only[Z3,seval,-ae,A,D,V,rO,W,iX,I,ah];refine zE4 nl.1 nl.2 λd3 e3 CO=>?_;simp only[Z3,seval,-ae,A,D,V,rO,W,iX,I,ah];refine zP ?_;simp only[Z3,seval,-ae,A,D,V,rO,W,iX,I,ah];refine ft.push (σb:=h) (bytes:=16) Q J aH aH λv2 g2 k2 X=>?_;have v3:=X.one;simp only[Z3,seval,-ae,v3,V];refine⟨_,aH,i+1,v2,parts++[_],aH,rfl,rfl,k2,by rw[cO,nU,YI];exact X,bj,by rw[cO,Yk];omega,?_⟩;rw[zDD U,S,uc,ep,Iv D,<-eI,e3];simp only[YH,Yy,Yn]
 have dC:i=Tw O:=aH
 have Nl:∀i,(kx (Mx.nw (jt P i))).length<=43:=λi=>by
  unfold jt;rw[YK];rcases YY i (Tw P) with hi|hi
  .rw[na hi]
   have:=PR i hi
   exact Zy (Zc (x:=P[i]) aH this.2).1
  .rw[YN hi];exact Zy (x:=Mx.nw []) (by simp[Mx.nw,Mx.gT])
 have AL:=zEY (q:=pW O (Tw O)) jQ Nl (Tw O);have Nn:∀i j,(kx (Mx.nw (iD C i j))).length<=43:=λi j=>by
  have e0:(kx (Mx.nw ([]:V1))).length<=43:=Zy (x:=Mx.nw []) (by simp[Mx.nw,Mx.gT]);unfold iD;rw[YK,YK];rcases YY i (Tw C) with hi|hi
  .rw[na hi];simp only[NP];rcases YY (j-i-1) C[i].length with hj|hj
   .rw[na hj]
    have:=CR i hi _ hj
    exact Zy (Zc (x:=C[i][j-i-1]) aH this.2).1
   .rw[YN hj];exact e0
  .rw[YN hi];exact e0
 clear A an;refine zF (λm vs g=>∃(i:Nat) (v:PV) (parts:List (List UInt8)),i<=Tw O/\m=Tw O-i/\vs=[.fp a (.fz wO aO (Tw O) (eh O)::.fz wP Y (Tw P) Z::.fz wC aC (Tw C) rC::rest),v,.int .i64 (Tw O),.int .i64 i]/\dq h g/\ft h.bY 1 g v (Tw parts) (nU parts)/\parts≠[]/\Tw parts<=7+6*i/\Lib.join parts [59,32]=Ci (Tw O) C (uc O P (pW O (Tw O)) (Tw O)) i) (Tw O) ?_ ?_
 .exact⟨0,v,parts,YQ _,rfl,rfl,Q,J,U,aH,by rw[S,Ci,dC]⟩
 clear S pl hi dC U J Q
 rintro m vs g ⟨i,v,parts,hi,rfl,rfl,Q,J,U,pl,S⟩
 have A:=J.one;simp only[Z3,seval,-ae,A];refine Tr (λan=>?_) λI=>?_
 .obtain rfl:i=Tw O:=aH
  obtain⟨t6,P6,rfl,y1,y2,y3,y4,y5⟩:=J;have dD:=zEv (n:=(Tw O)) (q:=uc O P (pW O (Tw O)) (Tw O)) bB Nn (Tw O);refine zF0 y2 rfl y1.ok (List.length_pos_iff.2 U) aH (by rw[S];omega) ?_;rw[S];refine Tq ?_;refine Gh.fin0 (kk.trans Q) trivial ?_;rwa[u0,Iv dV]at hk
 have bJ:i<Tw C:=aH
 have bu:(i:Int)<(Tw C:Int):=aH
 obtain⟨w4,a4,tF,hr,gI⟩:=pM.rowL bJ;have cl:=CL i bJ;have V:=WX I;simp only[Z3,seval,-ae,A,bJ,bu,hr];refine zF (λm vs g=>∃(k:Nat) (v:PV) (parts:List (List UInt8)),k<=C[i].length/\m=C[i].length-k/\vs=[.fp a (.fz wO aO (Tw O) (eh O)::.fz wP Y (Tw P) Z::.fz wC aC (Tw C) rC::rest),v,.int .i64 i,.int .i64 (Tw O),.int .i64 i,.fz w4 a4 C[i].length tF,.int .i64 C[i].length,.int .i64 k]/\dq h g/\ft h.bY 1 g v (Tw parts) (nU parts)/\parts≠[]/\Tw parts<=7+6*i+k/\Lib.join parts [59,32]=tn (Tw O) C (Ci (Tw O) C (uc O P (pW O (Tw O)) (Tw O)) i) i k) C[i].length ?_ ?_
 .exact⟨0,v,parts,YQ _,rfl,rfl,Q,J,U,aH,by rw[S,tn]⟩
 clear S pl U J Q A
 rintro m vs g ⟨k,v,parts,iJ,rfl,rfl,Q,J,U,pl,S⟩
 have A:=J.one;simp only[Z3,seval,-ae,A];refine Tr (λan=>?_) λug=>?_
 .simp only[Z3,seval,-ae,A,V];exact⟨_,aH,i+1,v,parts,aH,rfl,rfl,Q,J,U,aH,by rw[Ci,S,show k=Tw O-1-i by omega]⟩
 have CD:(k:Int)<(C[i].length:Int):=aH
 obtain⟨w6,a6,fH⟩:=gI.rowI ug;obtain⟨DN,pe⟩:=CR i bJ _ ug;have wk:=WX ug;have w1:Tu .i64 ((i:Int)+1)=(i:Int)+1:=WE;obtain⟨jj,IM⟩:∃jj,jj=i+1+k:=⟨_,rfl⟩
 have w2:Tu .i64 ((i:Int)+1+(k:Int))=(jj:Int):=WQ
 have ec:iD C i (i+1+k)=C[i][k]:=by
  unfold iD;rw[show i+1+k-i-1=k by omega,YK,YK,na bJ];grind
 have nl:=Zc aH pe;simp only[Z3,seval,-ae,A,ug,CD,fH,w1,w2];rw[DN];refine zGz aH aH λau=>?_;simp only[Z3,seval,-ae,A,ug,CD,fH,w1,w2];refine zQC DN.symm (zg ..).symm aH ?_;by_cases D:C[i][k]=iS (Tw O) jj
 .simp only[Z3,seval,-ae,A,D,wk];exact⟨_,aH,k+1,v,parts,aH,rfl,rfl,Q,J,U,aH,by rw[tn,ec,Iu (by rw[<-IM];exact D),S]⟩
 simp only[Z3,seval,-ae,A,D,wk];refine zBV (i:=jj) aH ?_;simp only[Z3,seval,-ae,A,D,wk];refine zBV (i:=i) aH ?_;simp only[Z3,seval,-ae,A,D,wk];refine zCa (x:=C[i][k]) (λj=>?_) aH ⟨w6,a6,by rw[DN]⟩ λu hu=>?_
 .rcases YY j C[i][k].length with hj|hj
  .rw[gj hj];exact pe _ (ss hj)
  .unfold at_;rw[YK,YN hj];simp
 obtain⟨w5,a5,rfl⟩:=hu;simp only[Z3,seval,-ae,A,D,wk];refine zE4 nl.1 nl.2 λd3 e3 CO=>?_;simp only[Z3,seval,-ae,A,D,wk];refine zP ?_;simp only[Z3,seval,-ae,A,D,wk];refine ft.push (σb:=h) (bytes:=16) Q J aH aH λv2 g2 k2 X=>?_;have v3:=X.one;simp only[Z3,seval,-ae,v3,wk];refine⟨_,aH,k+1,v2,parts++[_],aH,rfl,rfl,k2,by rw[cO,nU,YI];exact X,bj,by rw[cO,Yk];omega,?_⟩;rw[zDD U,S,tn,ec,Iv (by rw[<-IM];exact D),e3,<-IM];simp only[YH,Yy,Yn]
end
section
open Go.Ab Go.Lie Go.Grp
variable{s:List UInt8}
def vlL:Int->List UInt8->Int
 |y,[]=>y
 |y,c::r=>if c.toNat<48\/57<c.toNat then -1 else vlL (10*y+((c.toNat:Int)-48)) r
def vlF(s:List UInt8):Int:=if (Tw s)=0\/6<(Tw s)\/(1<Tw s/\s.head? = Ik 48)then -1 else vlL 0 s
def rX{α:Type}{l:List α}{i:Nat}(h:i<Tw l):l.drop i=l[i]::l.drop (i+1):=bj
def zME(hs:(Tw s)<=1048576)(X:K (.int .i64 (vlF s)) σ):zA Tp 171 [.str s] σ K:=by
 have bad:vlF s=-1->K (.int .i64 (-1)) σ:=λe=>by rw[<-e];exact X
 refine Tn Tryz.func171 ?_;by_cases Z:(Tw s)=0
 .have D:((Tw s:Nat):Int)=0:=aH
  simp only[Z3,seval,-ae,D];exact bad (Iu (.inl Z))
 have D:¬((Tw s:Nat):Int)=0:=aH
 by_cases h6:6<Tw s
 .have I:(6:Int)<((Tw s:Nat):Int):=aH
  simp only[Z3,seval,-ae,D,I];exact bad (Iu (.inr (.inl h6)))
 have I:¬(6:Int)<((Tw s:Nat):Int):=aH
 have Y:0<Tw s:=aH
 have hd:s.head? = Ik s[0]:=by rw[List.head?_eq_getElem?,na Y]
 by_cases W:1<Tw s/\s[0].toNat=48
 .have J:(1:Int)<((Tw s:Nat):Int):=aH
  have U:((s[0].toNat:Nat):Int)=48:=aH
  simp only[Z3,seval,-ae,D,I,J,OD,na Y,U];exact bad (Iu (.inr (.inr ⟨W.1,by rw[hd];exact congrArg Ik (UInt8.toNat_inj.1 W.2)⟩)))
 have ev:vlF s=vlL 0 s:=Iv (by
  rintro(e|e|⟨e1,e2⟩)
  .exact Z e
  .exact h6 e
  .rw[hd]at e2;exact W ⟨e1,by rw[Option.some.inj e2];rfl⟩)
 rw[ev]at X bad;by_cases h3:1<Tw s
 case' pos=>
  have J:(1:Int)<((Tw s:Nat):Int):=aH
  have U:¬((s[0].toNat:Nat):Int)=48:=aH
  simp only[Z3,seval,-ae,D,I,J,OD,na Y,U]
 case' neg=>
  have J:¬(1:Int)<((Tw s:Nat):Int):=aH
  simp only[Z3,seval,-ae,D,I,J]
 all_goals
  refine zF (λm vs h=>∃(i:Nat) (y:Int),i<=Tw s/\m=Tw s-i/\vs=[.str s,.int .i64 y,.int .i64 i]/\0<=y/\y<10 ^ i/\vlL y (s.drop i)=vlL 0 s/\h=σ) (Tw s) ?_ ?_
  .exact⟨0,0,YQ _,rfl,rfl,Tx,Tx,rfl,rfl⟩
  rintro m vs h ⟨i,y,hi,rfl,rfl,y0,y1,A,rfl⟩
  have hp:∀k:Nat,k<=6->(10:Int) ^ k<=1000000:=λk cB=>by
   have:k=0\/k=1\/k=2\/k=3\/k=4\/k=5\/k=6:=aH
   rcases this with rfl|rfl|rfl|rfl|rfl|rfl|rfl<;>decide
  have AM:=hp i aH;refine Tq ?_;refine Tr (λan=>?_) λS=>?_
  .rw[Yr aH]at A;rw[show y=vlL 0 s from A];exact X
  rw[rX S,vlL]at A;have gs:s[i]? = Ik s[i]:=na S;by_cases c1:s[i].toNat<48
  .have Q:((s[i].toNat:Nat):Int)<48:=aH
   simp only[Z3,seval,-ae,KH,gs,Q];rw[Iu (.inl c1)]at A;exact bad A.symm
  have Q:¬((s[i].toNat:Nat):Int)<48:=aH
  by_cases c2:57<s[i].toNat
  .have V:(57:Int)<((s[i].toNat:Nat):Int):=aH
   simp only[Z3,seval,-ae,KH,gs,Q,V];rw[Iu (.inr c2)]at A;exact bad A.symm
  have V:¬(57:Int)<((s[i].toNat:Nat):Int):=aH
  rw[Iv aH]at A;have w1:IntKind.u8.wrap ((s[i].toNat:Int)-48)=(s[i].toNat:Int)-48:=by
   exact Zx aH aH
  have w2:Tu .i64 ((s[i].toNat:Int)-48)=(s[i].toNat:Int)-48:=WE;have w3:Tu .i64 (10*y)=10*y:=WE;have w4:Tu .i64 (10*y+((s[i].toNat:Int)-48))=10*y+((s[i].toNat:Int)-48):=WE;simp only[Z3,seval,-ae,KH,gs,Q,V,w1,w2,w3,w4,WX S];exact⟨_,aH,i+1,_,aH,rfl,rfl,aH,by rw[S1];omega,A⟩
def yf(c:Int):List UInt8->List UInt8->List (List UInt8)
 |cur,[]=>[cur]
 |cur,x::r=>if ((x.toNat:Nat):Int)=c then cur::yf c [] r else yf c (cur++[x]) r
def zDe(c:Int):∀(s cur:List UInt8),1<=(yf c cur s).length/\(yf c cur s).length<=Tw s+1
 |[],cur=>⟨sB _,sB _⟩
 |x::r,cur=>by
  unfold yf;split
  .have:=zDe c r [];simp only[YF];omega
  .have:=zDe c r (cur++[x]);simp only[YF];omega
def zQi(l:List (List UInt8))(b:Nat):ko b (nU l):=Zl.2 λc A=>by obtain⟨q,_,rfl⟩:=YD.1 A;trivial
def qm{l:List (List UInt8)}{i:Nat}(h:i<Tw l):(nU l)[i]? = Ik (.str l[i]):=by rw[nU,Yl,na h];rfl
def zHs(l:List (List UInt8))(q:List UInt8):nU (l++[q])=nU l++[.str q]:=by simp[nU]
def zCQ{c:Int}(hs:(Tw s)<=1048576)(hk:∀a,K (.fz Im a (yf c [] s).length (nU (yf c [] s))) σ):zA Tp 130 [.str s,.int .u8 c] σ K:=by
 refine To Tryz.func130 ?_;refine Tq ?_;refine zF (λm vs h=>∃(i A:Nat) (v:PV) (l:List (List UInt8)),i<=Tw s/\A<=i/\m=Tw s-i/\vs=[.str s,.int .u8 c,v,.int .i64 A,.int .i64 i]/\Tw l<=i/\l++yf c ((s.take i).drop A) (s.drop i)=yf c [] s/\dq σ h/\ft σ.bY 1 h v (Tw l) (nU l)) (Tw s) ?_ ?_
 .exact⟨0,0,_,[],YQ _,sB _,rfl,rfl,YQ _,rfl,zB _ _,ft.cb _ 1 rfl (sB _)⟩
 rintro m vs h ⟨i,A,v,l,hi,dF,rfl,rfl,dD,el,W,Q⟩
 have I:=Q.one;simp only[Z3,seval,-ae,I];refine fi (λS=>?_) λan=>?_
 .have gs:s[i]? = Ik s[i]:=na S;have Y:Tu .i64 ((i:Int)+1)=((i+1:Nat):Int):=WQ
  simp only[Z3,seval,-ae,gs,I];rw[rX S,yf]at el;by_cases J:((s[i].toNat:Nat):Int)=c
  .have b1:((i:Int)<=(Tw s:Int))=True:=by simp;omega
   have Z:((A:Int)<=(i:Int))=True:=by simp;omega
   simp only[Z3,seval,-ae,J,b1,Z,I,hi,dF];refine ft.push (σb:=σ) (bytes:=16) W Q aH aH λX h2 V D=>?_;have U:=D.one;simp only[Z3,seval,-ae,Y,U];rw[Iu J]at el;refine⟨_,aH,i+1,i+1,X,l++[Kf A (O0 i s)],aH,sB _,rfl,rfl,by simp;omega,?_,V,by rw[cO,zHs];exact D⟩;rw[show Kf (i+1) (O0 (i+1) s)=[] from Yr (by rw[Ym];omega),YH];exact el
  .simp only[Z3,seval,-ae,J,Y,I];rw[Iv J]at el;refine⟨_,aH,i+1,A,v,l,aH,aH,rfl,rfl,aH,?_,W,Q⟩;rw[YV S,UX (by rw[Ym];omega)];exact el
 have b1:A<=Tw s:=aH
 simp only[Z3,seval,-ae,I,b1,YP];refine ft.push (σb:=σ) (bytes:=16) W Q aH aH λX h2 V D=>?_;have U:=D.one;simp only[Z3,seval,-ae,U];rw[YU aH,Yr (aH:(Tw s)<=i),yf]at el;have e1:(Tw l)+1=(yf c [] s).length:=by rw[<-el];simp
 have e2:nU l++[.str (Kf A s)]=nU (yf c [] s):=by rw[<-el,zHs]
 rw[e1,e2]at D;exact D.fin V (zQi _ 0) λo cap=>hk _
end
section
open Go.Ab Go.Lie Go.Grp
variable{s:Nat}{L L':Nat->Nat}{E:Nat->Prop}
section
variable{α:Type}{R R':Nat->PV->α->Prop}{xs:List α}{y:α}
def A2i(R:Nat->PV->α->Prop)(cs:List PV)(xs:List α):Prop:=(Tw cs)=Tw xs/\∀i c y,cs[i]? = Ik c->xs[i]? = Ik y->R i c y
def zB6:A2i R [] []:=⟨rfl,λi c y A=>by simp at A⟩
def qZ(a:A2i R cs xs)(h:∀i c y,i<Tw xs->R i c y->R' i c y):A2i R' cs xs:=⟨a.1,λi c y D A=>h i c y (Yg.1 A).1 (a.2 i c y D A)⟩
def zCU(a:A2i R cs xs)(h:R (Tw xs) c y):A2i R (cs++[c]) (xs++[y]):=by
 refine⟨by simp[a.1],λi v z A D=>?_⟩;rcases YY i (Tw cs) with hi|hi
 .rw[YC hi]at A;rw[YC (by rw[<-a.1];exact hi)]at D;exact a.2 i v z A D
 .rw[Yz hi]at A;rw[Yz (by rw[<-a.1];exact hi),<-a.1]at D;rcases MB (i-Tw cs)with e|e
  .rw[e]at A D;simp only[Og,YR]at A D;rw[<-A,<-D,show i=(Tw xs) by rw[<-a.1];omega];exact h
  grind
def zKz(a:A2i R cs xs)(h:R i c y):A2i R (cs.set i c) (xs.set i y):=by
 refine⟨by simp[a.1],λj v z A D=>?_⟩;rw[Yu]at A D;by_cases e:i=j
 .simp_all
 .rw[Iv e]at A D;exact a.2 j v z A D
def zCT{S:PV->α->Prop}{m:Nat->Nat}(J:∀i,m i<=m (i+1))(W:∀i c y,R i c y->∃t:TR,t.ok h b/\t.pv=c/\(∀A,S (t.fz A) y)/\t.cY.Nodup/\∀s∈t.cY,m i<=L s/\L s<m (i+1)):
  ∀{cs:List PV} {xs:List α} (k:Nat),A2i (λi=>R (k+i)) cs xs->∃ts:List TR,TR.oks h b ts/\TR.pvs ts=cs/\(∀A,ez S (TR.fzs A ts) xs)/\(TR.slotss ts).Nodup/\∀s∈TR.slotss ts,m k<=L s/\L s<m (k+Tw xs)
 |[],xs,k,a=>by
  have:xs=[]:=List.length_eq_zero_iff.1 (by rw[<-a.1];rfl)
  subst this;exact⟨[],Is,rfl,λ_=>ez.nil _,LC,λs hs=>by cases hs⟩
 |c::cs,[],k,a=>by have:=a.1;simp at this
 |c::cs,x::xs,k,a=>by
  obtain⟨t,h1,h2,h3,h4,V⟩:=W k c x (a.2 0 c x rfl rfl);obtain⟨ts,Z,g2,Q,g4,U⟩:=zCT J W (cs:=cs) (xs:=xs) (k+1) ⟨by have:=a.1;simpa using this,λi v y D I=>by
   have:=a.2 (i+1) v y (by simpa using D) (by simpa using I)
   grind⟩
  have mono:∀d i,m i<=m (i+d):=λd i=>by
   induction d with
   |zero=>exact sB _
   |succ d ih=>exact Yv ih (J _)
  refine⟨t::ts,⟨h1,Z⟩,by simp only[TR.pvs,h2,g2],λA=>⟨by simp only[TR.fzs,YF,(Q A).1],λi v y D I=>?_⟩,?_,λs hs=>?_⟩
  .cases i with
   |zero=>simp only[TR.fzs,Og,YR]at D I;rw[<-D,<-I];exact h3 A
   |succ i=>simp only[TR.fzs,IU]at D I;exact(Q A).2 i v y D I
  .rw[TR.slotss,LD];exact⟨h4,g4,λs hs s' Y e=>by have X:=V s hs;have q2:=U s' Y;rw[<-e]at q2;omega⟩
  .rw[TR.slotss,YZ]at hs;have e:k+(x::xs).length=k+1+Tw xs:=by simp only[YF];omega
   rw[e];rcases hs with hs|hs
   .have X:=V s hs;have:=mono (Tw xs) (k+1);omega
   .have X:=U s hs;have:=J k;omega
end
def MX(L:Nat->Nat)(h:dj)(b k:Nat)(M:V2)(v:PV):Prop:=∃s cap cs,v=.sl s 0 (Tw M) cap/\full 1 cap (Tw M)/\h.cd s=Ik cs/\b<=s/\s<h.bY/\L s=1000*k/\Tw M<=999/\A2i (λi c x=>kI L h b (1000*k+1+i) x c) cs M
def DE(L:Nat->Nat)(h:dj)(b k:Nat)(M:V2)(v:PV):Prop:=(M=[]/\v=Tt)\/MX L h b k M v
def TX(L:Nat->Nat)(h:dj)(b:Nat)(C:V3)(v:PV):Prop:=∃s cap cs,v=.sl s 0 (Tw C) cap/\full 1 cap (Tw C)/\h.cd s=Ik cs/\b<=s/\s<h.bY/\L s=4/\A2i (λi c M=>DE L h b (10+i) M c) cs C
def TXN(L:Nat->Nat)(h:dj)(b:Nat)(C:V3)(v:PV):Prop:=(C=[]/\v=Tt)\/TX L h b C v
def MX.one(a:MX L h b k M v):v.one=Im:=by obtain⟨s,cap,cs,rfl,_⟩:=a;rfl
def MX.cells(a:MX L h b k M v):v.cells=[v]:=by obtain⟨s,cap,cs,rfl,_⟩:=a;rfl
def DE.one(a:DE L h b k M v):v.one=Im:=by rcases a with ⟨_,rfl⟩|a;rfl;exact a.one
def DE.cells(a:DE L h b k M v):v.cells=[v]:=by rcases a with ⟨_,rfl⟩|a;rfl;exact a.cells
def TXN.one(a:TXN L h b C v):v.one=Im:=by rcases a with ⟨_,rfl⟩|⟨s,cap,cs,rfl,_⟩<;>rfl
def TXN.cells(a:TXN L h b C v):v.cells=[v]:=by rcases a with ⟨_,rfl⟩|⟨s,cap,cs,rfl,_⟩<;>rfl
def kI.keepE(a:kI L h b j x v)(V:¬E j)(X:h.bY<=h'.bY)(W:∀t,b<=t->t<h.bY->¬E (L t)->h'.cd t=h.cd t)(U:∀t,t<h.bY->¬E (L t)->L' t=L t):kI L' h' b j x v:=by
 obtain⟨s,cap,rfl,Q,S,D,I,J⟩:=a;have A:¬E (L s):=by rw[J];exact V
 exact⟨s,cap,rfl,Q,by rw[W s D I A];exact S,D,aH,by rw[U s I A];exact J⟩
def MX.keepE(a:MX L h b k M v)(S:∀m,1000*k<=m->m<1000*(k+1)->¬E m)(Z:h.bY<=h'.bY)(U:∀t,b<=t->t<h.bY->¬E (L t)->h'.cd t=h.cd t)(Q:∀t,t<h.bY->¬E (L t)->L' t=L t):MX L' h' b k M v:=by
 obtain⟨s,cap,cs,rfl,V,W,D,I,J,Y,X⟩:=a;have A:¬E (L s):=by rw[J];exact S _ aH aH
 exact⟨s,cap,cs,rfl,V,by rw[U s D I A];exact W,D,aH,by rw[Q s I A];exact J,Y,qZ X λi c x hi r=>r.keepE (S _ aH aH) Z U Q⟩
def DE.keepE(a:DE L h b k M v)(D:∀m,1000*k<=m->m<1000*(k+1)->¬E m)(I:h.bY<=h'.bY)(J:∀t,b<=t->t<h.bY->¬E (L t)->h'.cd t=h.cd t)(A:∀t,t<h.bY->¬E (L t)->L' t=L t):DE L' h' b k M v:=a.imp id λa=>a.keepE D I J A
def TX.keepE(a:TX L h b C v)(X:¬E 4)(W:∀m,10000<=m->¬E m)(Z:h.bY<=h'.bY)(V:∀t,b<=t->t<h.bY->¬E (L t)->h'.cd t=h.cd t)(U:∀t,t<h.bY->¬E (L t)->L' t=L t):TX L' h' b C v:=by
 obtain⟨s,cap,cs,rfl,D,I,J,Q,S,Y⟩:=a;have A:¬E (L s):=by rw[S];exact X
 exact⟨s,cap,cs,rfl,D,by rw[V s J Q A];exact I,J,aH,by rw[U s Q A];exact S,qZ Y λi c M hi a=>a.keepE (λm D I=>W m aH) Z V U⟩
def Fb(L:Nat->Nat)(h:dj)(b k:Nat)(x:V1)(v:PV):Prop:=(x=[]/\v=Tt)\/kI L h b k x v
def Fb.one(a:Fb L h b k x v):v.one=Im:=by rcases a with ⟨_,rfl⟩|a;rfl;exact a.one
def Fb.keepE(a:Fb L h b j x v)(D:¬E j)(I:h.bY<=h'.bY)(J:∀t,b<=t->t<h.bY->¬E (L t)->h'.cd t=h.cd t)(A:∀t,t<h.bY->¬E (L t)->L' t=L t):Fb L' h' b j x v:=a.imp id λa=>a.keepE D I J A
structure PX(L:Nat->Nat)(b:Nat)(h:dj)(O:V1)(P:V2)(C:V3)(vO vP vC:PV):Prop where
 hO:Fb L h b 5 O vO
 hP:DE L h b 2 P vP
 hC:TXN L h b C vC
def PX.keepE(a:PX L b h O P C vO vP vC)(S:¬E 5)(Q:¬E 4)(J:∀m,2000<=m->¬E m)(D:h.bY<=h'.bY)(I:∀t,b<=t->t<h.bY->¬E (L t)->h'.cd t=h.cd t)(A:∀t,t<h.bY->¬E (L t)->L' t=L t):PX L' b h' O P C vO vP vC:=
 ⟨a.hO.keepE S D I A,a.hP.keepE (λm U _=>J m aH) D I A,a.hC.imp id λa=>a.keepE Q (λm h=>J m aH) D I A⟩
def PX.keepK(a:PX L b h O P C vO vP vC)(Q:6<=k)(J:k<10)(D:h.bY<=h'.bY)(I:∀t,b<=t->t<h.bY->L t≠k->h'.cd t=h.cd t)(A:∀t,t<h.bY->L t≠k->L' t=L t):PX L' b h' O P C vO vP vC:=
 a.keepE (E:=λm=>m=k) aH aH (λm h=>aH) D I A
def PX.keepL(a:PX L b h O P C vO vP vC)(J:h.bY<=h'.bY)(Q:∀t,b<=t->t<h.bY->h'.cd t=h.cd t)(D:∀t,t<h.bY->L' t=L t):PX L' b h' O P C vO vP vC:=
 a.keepK (k:=9) Tx Tx J (λt I A _=>Q t I A) λt A _=>D t A
def PX.set(a:PX L b h O P C vO vP vC)(hs:s<b)(A:List PV):PX L b (h.set s A) O P C vO vP vC:=a.keepL (sB _) (λt D _=>by rw[zG,Iv aH]) λ_ _=>rfl
def PX.fresh(a:PX L b h O P C vO vP vC)(cs:List PV)(k:Nat):PX (l6 L h.bY k) b (h.cb cs) O P C vO vP vC:=a.keepL (Yb _) (λt _ A=>by rw[zC,Iv aH]) (zk (sB _))
def PX.set7(a:PX L b h O P C vO vP vC)(D:L s=7)(cs:List PV):PX L b (h.set s cs) O P C vO vP vC:=
 a.keepK (k:=7) Tx Tx (sB _) (λt _ _ A=>by rw[zG,Iv (λe=>A (by rw[e];exact D))]) λ_ _ _=>rfl
def kI.treeN(a:kI L h b k x v):∃t:TR,t.ok h b/\t.pv=v/\(∀A,FI (t.fz A) x)/\t.cY.Nodup/\∀s∈t.cY,k<=L s/\L s<k+1:=by
 obtain⟨s,cap,rfl,I,J,Q,S,U⟩:=a;exact⟨TR.row s cap x,TR.row_ok I J Q S,TR.row_pv,λA=>TR.row_FI,by rw[TR.row_slots];simp,λV D=>by rw[TR.row_slots,YW]at D;rw[D,U];omega⟩
def Fb.treeN(a:Fb L h b k x v):∃t:TR,t.ok h b/\t.pv=v/\(∀A,FI (t.fz A) x)/\t.cY.Nodup/\∀s∈t.cY,k<=L s/\L s<k+1:=by
 rcases a with ⟨rfl,rfl⟩|a
 .exact⟨.nil,Is,rfl,λA=>⟨Im,.cU,rfl⟩,LC,λs hs=>by cases hs⟩
 .exact a.treeN
def DE.treeN(a:DE L h b k M v):∃t:TR,t.ok h b/\t.pv=v/\(∀A,hK (t.fz A) M)/\t.cY.Nodup/\∀s∈t.cY,1000*k<=L s/\L s<1000*(k+1):=by
 rcases a with ⟨rfl,rfl⟩|a
 .exact⟨.nil,Is,rfl,λA=>⟨Im,.cU,[],rfl,ez.nil _⟩,LC,λs hs=>by cases hs⟩
 obtain⟨s,cap,cs,rfl,X,Y,Z,h5,h6,h8,Q⟩:=a;obtain⟨ts,U,I,V,W,J⟩:=zCT (h:=h) (b:=b) (L:=L) (S:=FI) (R:=λi c x=>kI L h b (1000*k+1+i) x c) (m:=λi=>1000*k+1+i) (λi=>Yb _) (λi c y a=>a.treeN) (cs:=cs) (xs:=M) 0 (qZ Q λi c y _ r=>by rw[Y4];exact r);have D:(Tw ts)=Tw M:=by rw[<-Q.1,<-I,Zf]
 refine⟨.lst s cap ts,⟨⟨by rw[D];exact X,by rw[I];exact Y,Z,h5⟩,U⟩,by simp only[TR.pv,D],λA=>⟨Im,.sl (A s) 0 (Tw ts) cap,TR.fzs A ts,by simp only[TR.fz,D],V A⟩,?_,λs' bW=>?_⟩
 .rw[TR.cY,Q1];exact⟨λhm=>by have:=(J s hm).1;omega,W⟩
 .rw[TR.cY,Yq]at bW;rcases bW with rfl|bW
  .omega
  .have:=J s' bW;omega
def TXN.treeN(a:TXN L h b C v):∃t:TR,t.ok h b/\t.pv=v/\(∀A,DB (t.fz A) C)/\t.cY.Nodup/\∀s∈t.cY,L s=4\/10000<=L s:=by
 rcases a with ⟨rfl,rfl⟩|⟨s,cap,cs,rfl,X,Y,Z,h5,h6,Q⟩
 .exact⟨.nil,Is,rfl,λA=>⟨Im,.cU,[],rfl,ez.nil _⟩,LC,λs hs=>by cases hs⟩
 obtain⟨ts,U,I,V,W,J⟩:=zCT (h:=h) (b:=b) (L:=L) (S:=hK) (R:=λi c M=>DE L h b (10+i) M c) (m:=λi=>1000*(10+i)) (λi=>aH) (λi c y a=>a.treeN) (cs:=cs) (xs:=C) 0 (qZ Q λi c y _ r=>by rw[Y4];exact r);have D:(Tw ts)=Tw C:=by rw[<-Q.1,<-I,Zf]
 refine⟨.lst s cap ts,⟨⟨by rw[D];exact X,by rw[I];exact Y,Z,h5⟩,U⟩,by simp only[TR.pv,D],λA=>⟨Im,.sl (A s) 0 (Tw ts) cap,TR.fzs A ts,by simp only[TR.fz,D],V A⟩,?_,λs' bW=>?_⟩
 .rw[TR.cY,Q1];exact⟨λhm=>by have:=(J s hm).1;omega,W⟩
 .rw[TR.cY,Yq]at bW;rcases bW with rfl|bW
  .exact .inl h6
  .have:=J s' bW;right;omega
def PX.treeN(a:PX L b h O P C vO vP vC):∃D I J:TR,TR.oks h b [D,I,J]/\D.pv=vO/\I.pv=vP/\J.pv=vC/\(∀A,eQ (D.fz A) (I.fz A) (J.fz A) O P C)/\(TR.slotss [D,I,J]).Nodup:=by
 obtain⟨D,V,W,X,Y,Z⟩:=a.hO.treeN;obtain⟨I,b1,b2,b3,b4,S⟩:=a.hP.treeN;obtain⟨J,c1,c2,c3,c4,U⟩:=a.hC.treeN;refine⟨D,I,J,⟨V,b1,c1,Is⟩,W,b2,c2,λA=>⟨X A,b3 A,c3 A⟩,?_⟩;simp only[TR.slotss,YL,LD,YZ];refine⟨Y,⟨b4,c4,λs hs Q bW e=>?_⟩,λs hs Q bW e=>?_⟩
 .have:=S s hs;have:=U Q bW;rw[<-e]at this;omega
 .have:=Z s hs
  rcases bW with bW|bW
  .have:=S Q bW;rw[<-e]at this;omega
  .have:=U Q bW;rw[<-e]at this;omega
def PX.fin(a:PX L b h O P C vO vP vC)(Z:dq σ h)(Y:σ.bY<=b)(k:∀S U Q,eQ S U Q O P C->K (.agg [S,U,Q]) σ):Gh σ K (.agg [vO,vP,vC]) h:=by
 obtain⟨A,D,I,W,rfl,rfl,rfl,X,h4⟩:=a.treeN;have V:(TR.agg [A,D,I]).pv=.agg [A.pv,D.pv,I.pv]:=by simp only[TR.pv,TR.pvs]
 rw[<-V];refine Gh.treeF Z (QL (t:=TR.agg [A,D,I]) Y (ql (t:=TR.agg [A,D,I]) W)) λJ=>?_
 have:=k (A.fz J) (D.fz J) (I.fz J) (X J)
 simpa only[TR.fz,TR.fzs]using this
def PX.fin2b{e:Bool}(a:PX L b h O P C vO vP vC)(Z:dq σ h)(Y:σ.bY<=b)(k:∀S U Q,eQ S U Q O P C->K (.tup [.agg [S,U,Q],.bool e]) σ):Gh σ K (.tup [.agg [vO,vP,vC],.bool e]) h:=by
 obtain⟨D,I,J,W,rfl,rfl,rfl,X,h4⟩:=a.treeN;have V:(TR.tup [TR.agg [D,I,J],.leaf (.bool e)]).pv=.tup [.agg [D.pv,I.pv,J.pv],.bool e]:=by simp only[TR.pv,TR.pvs]
 rw[<-V];refine Gh.treeF Z (QL (b:=b) Y ⟨ql (t:=TR.agg [D,I,J]) W,Is,Is⟩) λA=>?_
 have:=k (D.fz A) (I.fz A) (J.fz A) (X A)
 simpa only[TR.fz,TR.fzs]using this
def DE.acc(a:DE L h b k M v):∃cs,fB b 1 h v (Tw M) cs/\A2i (λi c x=>kI L h b (1000*k+1+i) x c) cs M/\∀t off l c,v=.sl t off l c->L t=1000*k:=by
 rcases a with ⟨rfl,rfl⟩|⟨s,cap,cs,rfl,D,I,J,Q,S,U,A⟩
 .exact⟨[],fB.nil _ _ _,zB6,λt off l c e=>by cases e⟩
 .exact⟨cs,.inr ⟨s,cap,rfl,D,I,by have:=A.1;omega,J,Q⟩,A,λt off l c e=>by simp only[PV.sl.injEq]at e;rw[<-e.1];exact S⟩
def DE.push{S:PV×dj->Prop}(a:DE L h b k M v)(bm:1<=k)(hc:kI L h b 8 x c)(hk:dq σ h)(hb:σ.bY<=b)(nZ:b<=h.bY)(hn:(Tw M)<999)
  (kk:∀v' h' L',dq σ h'->MX L' h' b k (M++[x]) v'->h.bY<h'.bY->(∀t,t<h.bY->L t≠8->L' t=L t)->(∀t,t<h.bY->L t≠1000*k->h'.cd t=h.cd t)->(∀t,t<b->h'.cd t=h.cd t)->S (v',h')):iU (zW 1 24 (h.cb [c]) v (.sl h.bY 0 1 (.cm 1))) S:=by
 obtain⟨cs,acc,eX,hL⟩:=a.acc;refine fB.pushS hk (acc.low hb) rfl aH aH λv' h' k1 W V n1 l1=>?_;obtain⟨I,X,rfl,g1,g2,g3,g4,g5⟩:=W;have bW:h.bY<=I:=by
  grind
 have Q:∀t,t<h.bY->L t≠1000*k->h'.cd t=h.cd t:=λt A D=>V t A λoff l c e=>D (hL t off l c e);have Y:h.bY<=h'.bY:=aH
 obtain⟨J,jy,rfl,Z,c2,c3,c4,c5⟩:=hc;obtain⟨L',dX⟩:∃L':Nat->Nat,L'=l6 (l6 L I (1000*k)) J (1000*k+1+Tw M):=⟨_,rfl⟩
 have e0:L' I=1000*k:=by rw[dX];unfold l6;rw[Iv aH,Iu rfl]
 have U:∀t,t<h.bY->L t≠8->L' t=L t:=λt A D=>by
  rw[dX];unfold l6;grind
 have e2:L' J=1000*k+1+Tw M:=by rw[dX];exact qG
 clear dX;have el:(M++[x]).length=Tw M+1:=bj
 refine kk _ h' L' k1 ⟨I,X,_,by rw[el],by rw[el];exact g1,g2,aH,g5,e0,aH,zCU (qZ eX λi c y hi r=>?_) ⟨J,jy,rfl,Z,by rw[Q J c4 (by rw[c5];omega)];exact c2,c3,aH,e2⟩⟩ l1 U Q λt A=>?_
 .exact r.keepE (E:=λm=>m=8\/m=1000*k) aH Y (λt _ A D=>Q t A aH) λt A D=>U t A aH
 .refine V t aH λoff l c e=>?_;rcases acc with ⟨rfl,_,_⟩|⟨s,cap,rfl,q1,q2,q3,q4,q5⟩
  .cases e
  .simp only[PV.sl.injEq]at e;omega
def PX.pushP{Q:PV×dj->Prop}(a:PX L b h O P C vO vP vC)(U:kI L h b 8 x c)(V:dq σ h)(S:σ.bY<=b)(nZ:b<=h.bY)(W:(Tw P)<999)
  (Y:∀v' h' L',dq σ h'->PX L' b h' O (P++[x]) C vO v' vC->h.bY<h'.bY->(∀t,t<b->h'.cd t=h.cd t)->(∀t,t<h.bY->L t=7->h'.cd t=h.cd t/\L' t=L t)->Q (v',h')):iU (zW 1 24 (h.cb [c]) vP (.sl h.bY 0 1 (.cm 1))) Q:=by
 refine DE.push (k:=2) a.hP Tx U V S nZ W λv' h' L' X m1 Z I J qe=>Y v' h' L' X ⟨?_,.inr m1,?_⟩ Z qe λt A h7=>⟨J t A aH,I t A aH⟩
 .exact a.hO.keepE (E:=λm=>m=8\/m=2000) Tx aH (λt _ A D=>J t A aH) λt A D=>I t A aH
 .exact a.hC.imp id λa=>a.keepE (E:=λm=>m=8\/m=2000) Tx (λm _=>aH) aH (λt _ A D=>J t A aH) λt A D=>I t A aH
def PX.pushC{U:PV×dj->Prop}(a:PX L b h O P C vO vP vC)(hc:DE L h b (10+Tw C) M c)(hk:dq σ h)(hb:σ.bY<=b)(nZ:b<=h.bY)(hn:(Tw C)<=1048576)
  (kk:∀v' h' L',dq σ h'->PX L' b h' O P (C++[M]) vO vP v'->h.bY<h'.bY->(∀t,t<b->h'.cd t=h.cd t)->(∀t,t<h.bY->L t=7->h'.cd t=h.cd t/\L' t=L t)->U (v',h')):iU (zW 1 24 (h.cb [c]) vC (.sl h.bY 0 1 (.cm 1))) U:=by
 have acc:∃cs,fB b 1 h vC (Tw C) cs/\A2i (λi c M=>DE L h b (10+i) M c) cs C/\∀t off l c,vC=.sl t off l c->L t=4:=by
  rcases a.hC with ⟨rfl,rfl⟩|⟨s,cap,cs,rfl,h1,h2,h4,h5,h6,Q⟩
  .exact⟨[],fB.nil _ _ _,zB6,λt off l c e=>by cases e⟩
  .exact⟨cs,.inr ⟨s,cap,rfl,h1,h2,by have:=Q.1;omega,h4,h5⟩,Q,λt off l c e=>by simp only[PV.sl.injEq]at e;rw[<-e.1];exact h6⟩
 obtain⟨cs,acc,eX,hL⟩:=acc;refine fB.pushS hk (acc.low hb) rfl aH aH λv' h' k1 Z W n1 l1=>?_;obtain⟨D,aq,rfl,g1,g2,g3,g4,g5⟩:=Z;have bW:h.bY<=D:=by
  grind
 have X:∀t,t<h.bY->L t≠4->h'.cd t=h.cd t:=λt A I=>W t A λoff l c e=>I (hL t off l c e);have V:h.bY<=h'.bY:=aH
 have J:∀t,t<h.bY->l6 L D 4 t=L t:=zk bW;have Y:∀t,b<=t->t<h.bY->¬(L t=4)->h'.cd t=h.cd t:=λt _ A I=>X t A I;have S:∀{j:Nat} {N:V2} {d:PV},1<=j->DE L h b j N d->DE (l6 L D 4) h' b j N d:=λ{j N d} hj a=>a.keepE (E:=λm=>m=4) (λm _ _=>aH) V Y λt A _=>J t A;have el:(C++[M]).length=Tw C+1:=bj
 refine kk _ h' (l6 L D 4) k1 ⟨a.hO.keepE (E:=λm=>m=4) Tx V Y λt A _=>J t A,S Tx a.hP,.inr ⟨D,aq,cs++[c],by rw[el],by rw[el];exact g1,g2,aH,g5,qG,zCU (qZ eX λi c M _ a=>S aH a) (S aH hc)⟩⟩ l1 (λt A=>?_) λt A Q=>⟨X t A aH,J t A⟩
 refine W t aH λoff l c e=>?_;rcases acc with ⟨rfl,_,_⟩|⟨s,cap,rfl,q1,q2,q3,q4,q5⟩
 .cases e
 .simp only[PV.sl.injEq]at e;omega
def PX.putP(a:PX L b h O P C vO vP vC)(hi:i<Tw P)(hc:kI L h b 8 x c):∃A cap V L',vP=.sl A 0 (Tw P) cap/\b<=A/\A<h.bY/\L A≠7/\h.wr A i [c]=Ik (h.set A V)/\(∀t,L t≠8->L' t=L t)/\PX L' b (h.set A V) O (P.set i x) C vO vP vC:=by
 rcases a.hP with ⟨rfl,_⟩|⟨s,cap,cs,rfl,h1,h2,W,X,Y,h8,Z⟩
 .exact absurd hi (Jv _)
 have el:(P.set i x).length=Tw P:=Yx ..;have c1:=hc.one;obtain⟨D,jy,rfl,d1,d2,d3,d4,U⟩:=hc;have J:∀t,L t≠8->l6 L D (1000*2+1+i) t=L t:=λt I=>by unfold l6;rw[Iv (λe=>I (by rw[e];exact U))]
 have S:∀t,b<=t->t<h.bY->¬(L t=8\/L t=2000)->(h.set s (cs.set i (.sl D 0 (Tw x) jy))).cd t=h.cd t:=λt _ _ I=>by rw[zG,Iv (λe=>I (.inr (by rw[e,Y])))]
 have Q:∀t,t<h.bY->¬(L t=8\/L t=2000)->l6 L D (1000*2+1+i) t=L t:=λt _ I=>J t aH;refine⟨s,cap,_,l6 L D (1000*2+1+i),rfl,W,X,aH,ZE h2 (by rw[Z.1];exact hi) c1,J,a.hO.keepE (E:=λm=>m=8\/m=2000) Tx (sB _) S Q,.inr ⟨s,cap,_,by rw[el],by rw[el];exact h1,by rw[zG,Iu rfl],W,X,by rw[J s aH];exact Y,by rw[el];exact h8,zKz (qZ Z λj c y hj r=>r.keepE (E:=λm=>m=8\/m=2000) aH (sB _) S Q) ?_⟩,a.hC.imp id λa=>a.keepE (E:=λm=>m=8\/m=2000) Tx (λm _=>aH) (sB _) S Q⟩;exact⟨D,jy,rfl,d1,by rw[zG,Iv (λe=>by rw[e]at U;omega)];exact d2,d3,d4,qG⟩
def PX.putC(a:PX L b h O P C vO vP vC)(Y:i<Tw C)(Z:j<(C.getD i []).length)(hc:kI L h b 8 x c):∃V cap t Q A L',vC=.sl V 0 (Tw C) cap/\h.gv V i=Ik (.sl t 0 (C.getD i []).length Q)/\b<=V/\V<h.bY/\b<=t/\t<h.bY/\L t≠7/\h.wr t j [c]=Ik (h.set t A)/\(∀t,L t≠8->L' t=L t)/\PX L' b (h.set t A) O P (C.set i ((C.getD i []).set j x)) vO vP vC:=by
 rcases a.hC with ⟨rfl,_⟩|⟨s,cap,cs,rfl,h1,h2,h4,h5,h6,U⟩
 .exact absurd Y (Jv _)
 have nW:i<Tw cs:=by rw[U.1];exact Y
 have gC:C[i]? = Ik (C.getD i []):=by simp_all
 rcases U.2 i _ _ (na nW) gC with ⟨e,_⟩|⟨t,Q,A,e,g1,g2,g4,g5,g6,g8,g7⟩
 .rw[e]at Z;exact absurd Z (Jv _)
 generalize hM:C.getD i []=M at *
 have el:(C.set i (M.set j x)).length=Tw C:=Yx ..;have lM:(M.set j x).length=Tw M:=Yx ..;have dF:s≠t:=λe=>by rw[e]at h6;omega
 have c1:=hc.one;obtain⟨I,jy,rfl,d1,d2,d3,d4,d5⟩:=hc;obtain⟨L',dX⟩:∃L',L'=l6 L I (1000*(10+i)+1+j):=⟨_,rfl⟩
 have S:∀t,L t≠8->L' t=L t:=λt J=>by rw[dX];unfold l6;rw[Iv (λe=>J (by rw[e];exact d5))]
 have eS:L' I=1000*(10+i)+1+j:=by rw[dX];exact qG
 clear dX;have ho:∀u,b<=u->u<h.bY->¬(L u=8\/L u=1000*(10+i))->(h.set t (A.set j (.sl I 0 (Tw x) jy))).cd u=h.cd u:=λu _ _ J=>by rw[zG,Iv (λe=>J (.inr (by rw[e,g6])))]
 have W:∀u,u<h.bY->¬(L u=8\/L u=1000*(10+i))->L' u=L u:=λu _ J=>S u aH;have row:∀{q:Nat} {y:V1} {d:PV},q≠8->q≠1000*(10+i)->kI L h b q y d->kI L' (h.set t (A.set j (.sl I 0 (Tw x) jy))) b q y d:=λ{q y d} q1 q2 r=>r.keepE (E:=λm=>m=8\/m=1000*(10+i)) aH (sB _) ho W;refine⟨s,cap,t,Q,_,L',rfl,by rw[zH h2,na nW,e],h4,h5,g4,g5,aH,ZE g2 (by rw[g7.1];exact Z) c1,S,a.hO.imp id λa=>row Tx aH a,a.hP.imp id λa=>a.keepE (E:=λm=>m=8\/m=1000*(10+i)) (λm _ _=>aH) (sB _) ho W,.inr ⟨s,cap,cs,by rw[el],by rw[el];exact h1,by rw[zG,Iv dF];exact h2,h4,h5,by rw[S s aH];exact h6,by rw[el];exact U.1,λi' d N X D=>?_⟩⟩;rw[Yu]at D;by_cases q:i=i'
 .subst q;rw[Iu rfl,Iu Y]at D;cases D;rw[na nW,e]at X;cases X;refine .inr ⟨t,Q,_,by rw[lM],by rw[lM];exact g1,by rw[zG,Iu rfl],g4,g5,by rw[S t aH];exact g6,by rw[lM];exact g8,zKz (qZ g7 λk c y hk r=>row aH aH r) ?_⟩;exact⟨I,jy,rfl,d1,by rw[zG,Iv (λe=>by rw[e]at d5;omega)];exact d2,d3,d4,eS⟩
 .rw[Iv q]at D;exact(U.2 i' d N X D).keepE (E:=λm=>m=8\/m=1000*(10+i)) (λm _ _=>aH) (sB _) ho W
end
end Go.Proofs
