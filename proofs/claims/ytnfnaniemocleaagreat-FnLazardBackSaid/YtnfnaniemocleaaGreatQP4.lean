/- . -/
import Derived.Test.YtnfnaniemocleaaGreatQP3
set_option linter.all false
set_option linter.defProp false
open Go.IntKind renaming wrap->Lp
open List renaming length->Lu
open Go.Proofs.Tryz renaming prog->Li
open Bool renaming true->DF
open Int renaming add_mul_emod_self_right->KE,emod_add_mul_ediv->I2,lt_trichotomy->I1,mul_ediv_add_emod->IQ,mul_le_mul->HI,zero_emod->IL
open List renaming drop_eq_getElem_cons->HQ,drop_zero->EC,filter_cons->J2,getElem?_cons_succ->D3,getElem?_set_self->JS,getElem_cons_zero->Kd,length_nil->Eg,mem_filter->F8,mem_of_mem_drop->Ey,pairwise_singleton->G9,range->DO
open Nat renaming add_mul->FF,eq_zero_or_pos->F4,lt_trichotomy->Eo,min_le_right->KD,mul_le_mul->Kq,mul_one->Fe,ne_of_lt->Ev,sub_zero->Ed,succ_le_succ->H6
open Option renaming map_some->EF,some->Dc
open Int renaming reduceNatCast'->ae
set_option maxRecDepth 100000
namespace Go.Lie
open Go.Ab
variable{p:Int}{n:Nat}{W:V2}
def El.at0{v:V1}(h:El p n v)(o:eT p n W)(j:Nat):0<=at_ v j/\at_ v j<=p-1:=h.2.at (by have:=o.pr.1;omega) j
def El.beyond{v:V1}(h:El p n v){j:Nat}(l:n<=j):at_ v j=0:=nX (by rw[h.1];exact l)
def zBs(o:eT p n W){v:V1}(h:(Lu v)=n):El p n (norm p W v):=⟨ZO o h,QN o h⟩
def zHF{a b:V1}(l:El p n a)(u:El p n b)(h:∀j,j<n->at_ a j=at_ b j):a=b:=Zz (l.1.trans u.1.symm) λj A=>h j (by rw[<-l.1];exact A)
def zO1(o:eT p n W){v:V1}(u:(Lu v)=n){m:Nat}(I:m<=n)(h:∀j,j<m->0<=at_ v j/\at_ v j<=p-1){j:Nat}(A:j<m):at_ (norm p W v) j=at_ v j:=by
 have D:=o.pr;unfold te at D;have l:=QN o u;obtain⟨k,C⟩:=(QW o (qU o u) (d:=j) af (λi _=>l.at af i) (λi H=>h i af)).2;have E:=l.at af j;have G:=h j A;rcases I1 k 0 with x|x|x
 .have:=YO (show k<=-1 by omega) (show 0<=p by omega)
  omega
 .rw[x]at C;omega
 .have:=YO (show 1<=k by omega) (show 0<=p by omega)
  omega
abbrev tE(p:Int)(W:V2)(x v:V1):V1:=norm p W (eX 1 x (-(at_ x (cX v))) v)
def iW(p:Int)(W:V2):V2->V1->V1
 |[],x=>x
 |v::u,x=>iW p W u (tE p W x v)
def Led(p:Int)(n:Nat)(v:V1):Prop:=El p n v/\cX v<n/\at_ v (cX v)=1
def zEy(o:eT p n W){x v:V1}(h:El p n x)(l:El p n v):El p n (tE p W x v):=zBs o (by rw[zT (h.1.trans l.1.symm)];exact h.1)
def zJA(o:eT p n W){x v:V1}(h:El p n x)(l:El p n v):dq p n W (at_ (tE p W x v)) (λj=>at_ x j-at_ x (cX v)*at_ v j):=
 (qU o (by rw[zT (h.1.trans l.1.symm)];exact h.1)).trans (dq.of_eq λj=>by rw[qC (h.1.trans l.1.symm),Uy];omega)
def zHi(o:eT p n W){x v:V1}(u:El p n x)(l:Led p n v){j:Nat}(D:j<=cX v):at_ (tE p W x v) j=if j=cX v then 0 else at_ x j:=by
 have A:=u.1.trans l.1.1.symm;have E:=o.pr;unfold te at E;have e:∀i,i<=cX v->at_ (eX 1 x (-(at_ x (cX v))) v) i=if i=cX v then 0 else at_ x i:=λi C=>by
  rw[qC A];split
  .rename_i h;subst h;rw[l.2.2];omega
  .rw[zn (af:i<cX v)];omega
 rw[zO1 o (m:=cX v+1) (by rw[zT A];exact u.1) (by have:=l.2.1;omega) (λi C=>by
  rw[e i af]
  have:=u.at0 o i
  split<;>omega) af,e j D]
def zOI(o:eT p n W){x v:V1}(l:El p n x)(A:El p n v)(h:at_ x (cX v)=0):tE p W x v=x:=by
 have u:=l.1.trans A.1.symm
 have:eX 1 x (-(at_ x (cX v))) v=x:=Zz (zT u) λj _=>by rw[qC u,h];omega
 rw[tE,this,zO0 o l.1 l.2]
def Qk(o:eT p n W):∀{u:V2} {x:V1},(∀v∈u,El p n v)->El p n x->El p n (iW p W u x)
 |[],x,_,hx=>hx
 |v::u,x,hu,hx=>by rw[iW];exact Qk o (λw hw=>hu w (by simp[hw])) (zEy o hx (hu v aK))
def zAx(o:eT p n W):∀{u:V2} {x:V1},(∀v∈u,El p n v)->El p n x->ki p n W u (λj=>at_ x j-at_ (iW p W u x) j)
 |[],x,_,hx=>(zO []).eqv _ _ (dq.of_eq λj=>Int.sub_self _) (zO []).zero
 |v::u,x,hu,hx=>by
  have h:=hu v aK;have A:=zAx o (u:=u) (λw hw=>hu w (by simp[hw])) (zEy o hx h);have C:ki p n W (v::u) (λj=>at_ (tE p W x v) j-at_ (iW p W u (tE p W x v)) j):=zg (λw hw=>by simp[hw]) A;have D:=(zO (v::u)).mul (at_ x (cX v)) _ (zY (p:=p) (n:=n) (W:=W) (show v∈v::u by simp));have E:=(zO (v::u)).add _ _ D C;refine(zO (v::u)).eqv _ _ ?_ E;have l:=(zJA o hx h).symm.add (dq.refl (p:=p) (n:=n) (W:=W) λj=>at_ x (cX v)*at_ v j-at_ (iW p W u (tE p W x v)) j);refine(dq.of_eq λj=>?_).trans (l.trans (dq.of_eq λj=>?_))
  .rw[iW];omega
  .omega
abbrev Asc(u:V2):Prop:=u.Pairwise λa b=>cX a<cX b
def zAy(o:eT p n W):∀{u:V2} {x:V1},(∀v∈u,Led p n v)->Asc u->El p n x->
  (∀v∈u,at_ (iW p W u x) (cX v)=0)/\∀j,(∀v∈u,j<cX v)->at_ (iW p W u x) j=at_ x j
 |[],x,_,_,hx=>⟨λv h=>(by cases h),λj _=>rfl⟩
 |v::u,x,hu,ha,hx=>by
  have h:=hu v aK;obtain⟨E,D⟩:=List.pairwise_cons.1 ha;obtain⟨G,A⟩:=zAy o (λw hw=>hu w (by simp[hw])) D (zEy o hx h.1);refine⟨λw hw=>?_,λj C=>?_⟩
  .rcases YH.1 hw with rfl|hw
   .rw[iW,A _ (λz l=>E z l),zHi o hx h (na _),DK rfl]
   .exact G w hw
  .have:=C v aK
   rw[iW,A j (λz l=>C z (by simp[l])),zHi o hx h af,DL af]
def zDf(o:eT p n W){u:V2}(M:∀v∈u,El p n v){m:Nat}(L:m<=n)(h:∀v∈u,∀j,j<m->at_ v j=0){z:V1}(C:El p n z)(G:ki p n W u (at_ z)):∀j,j<m->at_ z j=0:=by
 obtain⟨c,E⟩:=G;have D:∀j,j<m->comb c u j=0:=λj A=>qQ _ λk l=>by
  have:u.getD k []=u[k]:=by simp[YW,YQ l]
  rw[this,h _ (YZ l) j A,Y9]
 intro j A;have H:=o.pr;unfold te at H;obtain⟨k,l⟩:=(QW o E (d:=j) af (λi _=>C.at0 o i) (λi J=>by rw[D i af];omega)).2;rw[D j A]at l;have I:=C.at0 o j;rcases I1 k 0 with x|x|x
 .have:=YO (show k<=-1 by omega) (show 0<=p by omega)
  omega
 .rw[x]at l;omega
 .have:=YO (show 1<=k by omega) (show 0<=p by omega)
  omega
def tab(n:Nat)(f:hK):V1:=(DO n).map f
def zAb(f:hK):(tab n f).length=n:=by simp[tab]
def zI6(f:hK)(h:∀j,n<=j->f j=0)(j:Nat):at_ (tab n f) j=f j:=by
 rcases YG j n with x|x
 .rw[dp (by rw[zAb];exact x)];simp[tab]
 .rw[nX (by rw[zAb];exact x),h j x]
def zLj{u:V2}(A:∀v∈u,El p n v)(c:Nat->Int){j:Nat}(l:n<=j):comb c u j=0:=qQ _ λk h=>by
 have:u.getD k []=u[k]:=by simp[YW,YQ h]
 rw[this,(A _ (YZ h)).beyond l,Y9]
def zML(o:eT p n W){u:V2}(E:∀v∈u,El p n v){f:hK}(C:ki p n W u f):∃z,El p n z/\dq p n W f (at_ z)/\ki p n W u (at_ z):=by
 obtain⟨c,A⟩:=C;have h:=qU o (zAb (comb c u));have l:at_ (tab n (comb c u))=comb c u:=funext λj=>zI6 _ (λj D=>zLj E c D) j;rw[l]at h;exact⟨_,zBs o (zAb _),A.trans h.symm,c,h⟩
def zPk(c:Nat->Int)(v:V1)(u:V2)(j:Nat):comb c (v::u) j=c 0*at_ v j+comb (λk=>c (k+1)) u j:=by
 unfold comb
 have:∀(m:Nat) (f:Nat->Int),jn (m+1) f=f 0+jn m λk=>f (k+1):=by
  intro m f
  induction m with
  |zero=>simp[jn]
  |succ m ih=>rw[jn,ih,jn];omega
 rw[Yu,this];rfl
def zQ4{v:V1}{u:V2}{f:hK}(l:ki p n W (v::u) f):∃(k:Int) (g:hK),ki p n W u g/\dq p n W f λj=>k*at_ v j+g j:=by
 obtain⟨c,h⟩:=l;exact⟨c 0,comb (λk=>c (k+1)) u,⟨_,dq.refl _⟩,h.trans (dq.of_eq λj=>zPk c v u j)⟩
inductive mb(p:Int)(n:Nat)(W:V2):V2->Prop where
 |nil:mb p n W []
 |cons {v:V1} {u:V2} (hv:Led p n v) (ha:∀w∈u,cX v<cX w) (hc:ki p n W u λj=>p*at_ v j) (h:mb p n W u):mb p n W (v::u)
def mb.led:∀{u:V2},mb p n W u->∀v∈u,Led p n v
 |_,.nil,v,h=>(by cases h)
 |_,.cons hv _ _ hb,w,h=>(YH.1 h).elim (λe=>e ▸ hv) (λh=>hb.led w h)
def mb.asc:∀{u:V2},mb p n W u->Asc u
 |_,.nil=>List.Pairwise.nil
 |_,.cons _ ha _ hb=>List.pairwise_cons.2 ⟨ha,hb.asc⟩
def mb.els{u:V2}(h:mb p n W u):∀v∈u,El p n v:=λv l=>(h.led v l).1
def zBu(o:eT p n W):∀{u:V2},mb p n W u->∀{z:V1},El p n z->ki p n W u (at_ z)->cX z<n->∃v∈u,cX v=cX z
 |_,.nil,z,hz,hg,hd=>by
  have l:=zDf o (u:=[]) aK (na n) aK hz hg;exact absurd (l _ hd) (ZJ (by rw[hz.1];exact hd))
 |_,.cons (v:=v) (u:=u) hv ha hc hb,z,hz,hg,hd=>by
  have O:=o.pr;unfold te at O;obtain⟨k,g,Q,N⟩:=zQ4 hg;have l:ki p n W u λj=>(k / p)*(p*at_ v j)+g j:=(zO u).add _ _ ((zO u).mul (k / p) _ hc) Q;obtain⟨y,P,I,G⟩:=zML o hb.els l;have H:=I2 k p;have E:dq p n W (at_ z) λj=>k % p*at_ v j+at_ y j:=by
   refine N.trans ?_
   have:=(dq.refl (p:=p) (n:=n) (W:=W) λj=>k % p*at_ v j).add I
   refine(dq.of_eq λj=>?_).trans this;have L:k*at_ v j=(k % p+p*(k / p))*at_ v j:=by rw[H]
   rw[L,Uf,UN p (k / p),UR];omega
  by_cases M:k % p=0
  .obtain⟨w,hw,e⟩:=zBu o hb hz ((zO u).eqv _ _ (E.trans (dq.of_eq λj=>by rw[M];omega)) G) hd;exact⟨w,by simp[hw],e⟩
  .refine⟨v,aK,?_⟩;have J:=zDf o hb.els (m:=cX v+1) (by have:=hv.2.1;omega) (λw hw j A=>zn (by have:=ha w hw;omega)) P G;have T:=Y3 k (show p≠0 by omega);have R:=Y6 k (show 0<p by omega);have D:∀j,j<=cX v->k % p*at_ v j+at_ y j=if j=cX v then k % p else 0:=λj A=>by
    rw[J j af];split
    .rename_i e;subst e;rw[hv.2.2];omega
    .rw[zn (af:j<cX v)];simp
   have key:=λd (hd:d<=cX v)=>QW o E (d:=d) (by have:=hv.2.1;omega) (λi _=>hz.at0 o i) (λi S=>by rw[D i af,DL af];omega);refine(zHJ (λj A=>?_) ?_).symm
   .rw[(key (cX v) (na _)).1 j A,D j af,DL af]
   .obtain⟨t,C⟩:=(key (cX v) (na _)).2;rw[D _ (na _),DK rfl]at C;intro h;rw[h]at C;rcases I1 t 0 with x|x|x
    .have:=YO (show t<=-1 by omega) (show 0<=p by omega)
     omega
    .rw[x]at C;omega
    .have:=YO (show 1<=t by omega) (show 0<=p by omega)
     omega
def zCC{α:Type}{R:α->α->Prop}:∀{l:List α},l.Pairwise R->∀{a b:α},a∈l->b∈l->a=b\/R a b\/R b a
 |[],_,a,b,ha,_=>by cases ha
 |x::l,h,a,b,ha,hb=>by
  obtain⟨C,D⟩:=List.pairwise_cons.1 h;rcases YH.1 ha with A|u9
  .rcases YH.1 hb with u|jI
   .exact .inl (A.trans u.symm)
   .rw[A];exact .inr (.inl (C b jI))
  .rcases YH.1 hb with u|jI
   .rw[u];exact .inr (.inr (C a u9))
   .exact zCC D u9 jI
def zMa:∀{u w:V2},Asc u->Asc w->(∀v,v∈u↔v∈w)->u=w
 |[],[],_,_,_=>rfl
 |[],x::w,_,_,h=>by have:=(h x).2 aK;cases this
 |x::u,[],_,_,h=>by have:=(h x).1 aK;cases this
 |x::u,y::w,hu,hw,h=>by
  obtain⟨A,D⟩:=List.pairwise_cons.1 hu;obtain⟨C,E⟩:=List.pairwise_cons.1 hw;have e:x=y:=by
   rcases YH.1 ((h x).1 aK)with e|e
   .exact e
   .rcases YH.1 ((h y).2 aK)with e'|e'
    .exact e'.symm
    .have:=C x e;have:=A y e';omega
  subst e;congr 1;refine zMa D E λv=>⟨λl=>?_,λl=>?_⟩
  .rcases YH.1 ((h v).1 (by simp[l]))with e|e
   .subst e;have:=A v l;omega
   .exact e
  .rcases YH.1 ((h v).2 (by simp[l]))with e|e
   .subst e;have:=C v l;omega
   .exact e
abbrev Red(u:V2):Prop:=u.Pairwise λa b=>at_ a (cX b)=0
def zOH{u:V2}(l:Asc u)(A:Red u){v x:V1}(C:v∈u)(D:x∈u)(h:cX v<cX x):at_ v (cX x)=0:=by
 have:=zCC (R:=λa b:V1=>cX a<cX b/\at_ a (cX b)=0) (List.Pairwise.and l A) C D
 rcases this with e|e|e
 .subst e;omega
 .exact e.2
 .omega
def zIV(o:eT p n W){u w:V2}(G:mb p n W u)(V:Red u)(hw:mb p n W w)(X:Red w)(h:∀f,ki p n W u f->ki p n W w f)(h':∀f,ki p n W w f->ki p n W u f){v x:V1}(H:v∈u)(I:x∈w)(e:cX x=cX v):v=x:=by
 have lv:=G.led v H;have E:=hw.led x I;have A:=lv.1.1.trans E.1.1.symm;have S:=o.pr;unfold te at S;have l:(eX 1 v (-1) x).length=n:=by rw[zT A];exact lv.1.1
 rcases YG (cX (eX 1 v (-1) x)) n with hd|hd;rotate_left
 .refine zHF lv.1 E.1 λj D=>?_
  have:=zn (v:=eX 1 v (-1) x) (j:=j) af
  rw[qC A]at this;omega
 have U:∀j,j<cX (eX 1 v (-1) x)->at_ (norm p W (eX 1 v (-1) x)) j=0:=zBO o l af λj D=>zn D;have N:at_ (norm p W (eX 1 v (-1) x)) (cX (eX 1 v (-1) x))≠0:=by
  rw[zEI o l hd λj D=>zn D];have R:=ZJ (v:=eX 1 v (-1) x) (by rw[l];exact hd);rw[qC A]at R ⊢;have b1:=lv.1.at0 o (cX (eX 1 v (-1) x));have Y:=E.1.at0 o (cX (eX 1 v (-1) x));intro Q
  have:=I2 (1*at_ v (cX (eX 1 v (-1) x)) + -1*at_ x (cX (eX 1 v (-1) x))) p
  rw[Q,Ua]at this;generalize (1*at_ v (cX (eX 1 v (-1) x)) + -1*at_ x (cX (eX 1 v (-1) x))) / p=q at this;rcases I1 q 0 with y|y|y
  .have:=Yy (show q<=-1 by omega) (show 0<=p by omega)
   omega
  .rw[y]at this;omega
  .have:=Yy (show 1<=q by omega) (show 0<=p by omega)
   omega
 have J:=zHJ U N;have L:ki p n W u (at_ (norm p W (eX 1 v (-1) x))):=by
  refine(zO u).eqv _ _ ((qU o l).trans (dq.of_eq λj=>?_)) ((zO u).sub (zY H) (h' _ (zY I)));rw[qC A];omega
 obtain⟨t,T,P⟩:=zBu o G (zBs o l) L af;obtain⟨s,hs,O⟩:=zBu o hw (zBs o l) (h _ L) af;have C:=ZJ (v:=eX 1 v (-1) x) (by rw[l];exact hd);rw[qC A]at C;exfalso;rcases Eo (cX v) (cX t)with y|y|y
 .have q1:=zOH G.asc V H T y;have M:=zOH hw.asc X I hs af;rw[P,J]at q1;rw[O,J]at M;rw[q1,M]at C;omega
 .have e2:cX (eX 1 v (-1) x)=cX v:=af
  rw[e2,lv.2.2,<-e,E.2.2]at C;omega
 .have e2:cX (eX 1 v (-1) x)<cX v:=af
  rw[zn e2,zn af]at C;omega
def zKP(o:eT p n W){u w:V2}(A:mb p n W u)(D:Red u)(hw:mb p n W w)(E:Red w)(h:∀f,ki p n W u f->ki p n W w f)(h':∀f,ki p n W w f->ki p n W u f):u=w:=by
 refine zMa A.asc hw.asc λv=>⟨λl=>?_,λl=>?_⟩
 .have lv:=A.led v l;obtain⟨x,C,e⟩:=zBu o hw lv.1 (h _ (zY l)) lv.2.1;rw[zIV o A D hw E h h' l C e];exact C
 .have lv:=hw.led v l;obtain⟨x,C,e⟩:=zBu o A lv.1 (h' _ (zY l)) lv.2.1;rw[zIV o hw E A D h' h l C e];exact C
def zJ9(o:eT p n W){v:V1}{t t' s:V2}(O:mb p n W (v::t))(P:mb p n W t')(Q:Red t')(A:∀f,ki p n W t f↔ki p n W t' f)(hs:mb p n W s)(R:∀x∈t',∃y∈s,cX y=cX x)(L:∀y∈s,cX v<cX y)(C:∀f,ki p n W s f->ki p n W t' f)(I:∀x∈t',cX v<cX x):
  mb p n W (iW p W s v::t')/\Red (iW p W s v::t')/\(∀f,ki p n W (v::t) f↔ki p n W (iW p W s v::t') f)/\cX (iW p W s v)=cX v:=by
 cases O with
 |cons hv ha hc Iw=>
 have J:=Qk o hs.els hv.1;obtain⟨M,N⟩:=zAy o hs.led hs.asc hv.1;have G:=zAx o hs.els hv.1;have D:∀j,j<=cX v->at_ (iW p W s v) j=at_ v j:=λj H=>N j λy h=>by have:=L y h;omega
 have u:cX (iW p W s v)=cX v:=zHJ (λj H=>by rw[D j af];exact zn H) (by rw[D _ (na _),hv.2.2];decide);refine⟨.cons ⟨J,by rw[u];exact hv.2.1,by rw[u,D _ (na _)];exact hv.2.2⟩ (λx hx=>by rw[u];exact I x hx) ?_ P,List.pairwise_cons.2 ⟨λx hx=>?_,Q⟩,λf=>⟨λE=>?_,λE=>?_⟩,u⟩
 .have q1:=(zO t').mul p _ (C _ G);have l:=(zO t').sub ((A _).1 hc) q1;exact(zO t').eqv _ _ (dq.of_eq λj=>by rw[Int.mul_sub];omega) l
 .obtain⟨y,h,e⟩:=R x hx;rw[<-e];exact M y h
 .refine ZM (λx hx=>?_) E;rcases YH.1 hx with rfl|hx
  .have q1:ki p n W (iW p W s x::t') λj=>at_ x j-at_ (iW p W s x) j:=zg (λy h=>by simp[h]) (C _ G);have l:=(zO (iW p W s x::t')).add _ _ q1 (zY (v:=iW p W s x) aK);exact(zO _).eqv _ _ (dq.of_eq λj=>af) l
  .exact zg (λy h=>by simp[h]) ((A _).1 (zY hx))
 .refine ZM (λx hx=>?_) E;rcases YH.1 hx with rfl|hx
  .have q1:ki p n W (v::t) λj=>at_ v j-at_ (iW p W s v) j:=zg (λy h=>by simp[h]) ((A _).2 (C _ G));have l:=(zO (v::t)).sub (zY (v:=v) aK) q1;exact(zO _).eqv _ _ (dq.of_eq λj=>af) l
  .exact zg (λy h=>by simp[h]) ((A _).2 (zY hx))
def np(p:Int)(W:V2):V2->V2
 |[]=>[]
 |v::t=>iW p W t v::np p W t
def Be(p:Int)(W:V2):V2->V2
 |[]=>[]
 |v::t=>iW p W (Be p W t) v::Be p W t
structure Canon(p:Int)(n:Nat)(W:V2)(aI out:V2):Prop where
 base:mb p n W out
 red:Red out
 gen:∀f,ki p n W aI f↔ki p n W out f
def zMP(o:eT p n W):∀{u:V2},mb p n W u->Canon p n W u (np p W u)/\(np p W u).map cX=u.map cX
 |_,.nil=>⟨⟨.nil,List.Pairwise.nil,λ_=>Iff.rfl⟩,rfl⟩
 |_,.cons (v:=v) (u:=t) hv ha hc hb=>by
  obtain⟨c,hd⟩:=zMP o hb;have A:∀x∈np p W t,∃y∈t,cX y=cX x:=λx h=>by
   have:cX x∈t.map cX:=by rw[<-hd];exact List.mem_map_of_mem h
   obtain⟨y,l,e⟩:=YI.1 this;exact⟨y,l,e⟩
  obtain⟨D,E,G,H⟩:=zJ9 o (.cons hv ha hc hb) c.base c.red c.gen hb A ha (λf C=>(c.gen f).1 C) λx h=>by
   obtain⟨y,l,e⟩:=A x h;have:=ha y l;omega
  exact⟨⟨D,E,G⟩,by simp only[np,YE,H,hd]⟩
def zFA(o:eT p n W):∀{u:V2},mb p n W u->Canon p n W u (Be p W u)/\(Be p W u).map cX=u.map cX
 |_,.nil=>⟨⟨.nil,List.Pairwise.nil,λ_=>Iff.rfl⟩,rfl⟩
 |_,.cons (v:=v) (u:=t) hv ha hc hb=>by
  obtain⟨c,hd⟩:=zFA o hb;have l:∀x∈Be p W t,cX v<cX x:=λx h=>by
   have:cX x∈t.map cX:=by rw[<-hd];exact List.mem_map_of_mem h
   obtain⟨y,C,e⟩:=YI.1 this
   have:=ha y C;omega
  obtain⟨D,E,G,H⟩:=zJ9 o (.cons hv ha hc hb) c.base c.red c.gen c.base (λx h=>⟨x,h,rfl⟩) l (λf A=>A) l;exact⟨⟨D,E,G⟩,by simp only[Be,YE,H,hd]⟩
def Canon.unique(o:eT p n W){A a b:V2}(h:Canon p n W A a)(l:Canon p n W A b):a=b:=
 zKP o h.base h.red l.base l.red (λf u=>(l.gen f).1 ((h.gen f).2 u)) λf u=>(h.gen f).1 ((l.gen f).2 u)
def Canon.trans{l u out:V2}(h:Canon p n W u out)(A:∀f,ki p n W l f↔ki p n W u f):Canon p n W l out:=⟨h.base,h.red,λf=>(A f).trans (h.gen f)⟩
abbrev Dp(u:V2)(d:Nat):V2:=u.filter λv=>decide (d<cX v)
abbrev Fp(u:V2)(d:Nat):V2:=u.filter λv=>decide (d<=cX v)
structure lg(p:Int)(n:Nat)(W aI u Q:V2):Prop where
 led:∀v∈u,Led p n v
 asc:Asc u
 els:∀x∈Q,El p n x
 clo:∀v∈u,ki p n W (Dp u (cX v)) (λj=>p*at_ v j)\/∃x∈Q,cX v<cX x/\ki p n W (Dp u (cX v)) λj=>p*at_ v j-at_ x j
 gen:∀f,ki p n W aI f↔ki p n W (u++Q) f
def lg.perm{D u Q C:V2}(g:lg p n W D u Q)(h:∀x,x∈Q↔x∈C):lg p n W D u C:=
 ⟨g.led,g.asc,λx A=>g.els x ((h x).2 A),λv l=>(g.clo v l).imp id λ⟨x,A,r⟩=>⟨x,(h x).1 A,r⟩,
  λf=>(g.gen f).trans ⟨zg λv l=>by simp only[YY]at l ⊢;exact l.imp id (h v).1,zg λv l=>by simp only[YY]at l ⊢;exact l.imp id (h v).2⟩⟩
def lg.start{l:V2}(h:∀v∈l,El p n v):lg p n W l [] l:=⟨λv u=>(by cases u),List.Pairwise.nil,h,λv u=>(by cases u),λf=>Iff.rfl⟩
def lg.replace{E u Q:V2}{g x:V1}(h:lg p n W E u (g::Q))(J:El p n x)(hd:cX g<=cX x)(H:ki p n W (Fp u (cX g)) λj=>at_ g j-at_ x j):lg p n W E u (x::Q):=by
 have D:∀M:V2,(∀v∈u,v∈M)->ki p n W M λj=>at_ g j-at_ x j:=λM I=>zg (λv l=>I v (F8.1 l).1) H;refine⟨h.led,h.asc,λy hy=>(YH.1 hy).elim (λe=>e ▸ J) λhy=>h.els y (by simp[hy]),λv l=>?_,λf=>(h.gen f).trans ⟨ZM λy hy=>?_,ZM λy hy=>?_⟩⟩
 .rcases h.clo v l with C|⟨y,hy,C,G⟩
  .exact .inl C
  .rcases YH.1 hy with rfl|hy
   .refine .inr ⟨x,aK,af,?_⟩;have A:ki p n W (Dp u (cX v)) λj=>at_ y j-at_ x j:=zg (λw hw=>by
     simp only[F8,decide_eq_true_eq]at hw ⊢;exact⟨hw.1,af⟩) H
    have L:=(zO _).add _ _ G A;exact(zO _).eqv _ _ (dq.of_eq λj=>af) L
   .exact .inr ⟨y,by simp[hy],C,G⟩
 .simp only[YY,YH]at hy;rcases hy with hy|rfl|hy
  .exact zY (by simp[hy])
  .have A:=(zO (p:=p) (n:=n) (W:=W) (u++x::Q)).add _ _ (D _ λv l=>by simp[l]) (zY (v:=x) aK);exact(zO _).eqv _ _ (dq.of_eq λj=>af) A
  .exact zY (by simp[hy])
 .simp only[YY,YH]at hy;rcases hy with hy|rfl|hy
  .exact zY (by simp[hy])
  .have A:=(zO (p:=p) (n:=n) (W:=W) (u++g::Q)).sub (zY (v:=g) aK) (D _ λv l=>by simp[l]);exact(zO _).eqv _ _ (dq.of_eq λj=>af) A
  .exact zY (by simp[hy])
def lg.drop{A u Q:V2}{x:V1}(h:lg p n W A u (x::Q))(C:∀j,at_ x j=0):lg p n W A u Q:=by
 have G:∀M:V2,ki p n W M (at_ x):=λM=>(zO M).eqv _ _ (dq.of_eq C) (zO M).zero;refine⟨h.led,h.asc,λy hy=>h.els y (by simp[hy]),λv E=>?_,λf=>(h.gen f).trans ⟨ZM λy hy=>?_,zg λy hy=>by simp only[YY,YH]at hy ⊢;exact hy.imp id .inr⟩⟩
 .rcases h.clo v E with l|⟨y,hy,l,D⟩
  .exact .inl l
  .rcases YH.1 hy with rfl|hy
   .exact .inl ((zO _).eqv _ _ (dq.of_eq λj=>by rw[C j];omega) D)
   .exact .inr ⟨y,hy,l,D⟩
 .simp only[YY,YH]at hy;rcases hy with hy|rfl|hy
  .exact zY (by simp[hy])
  .exact G _
  .exact zY (by simp[hy])
def po:V2->V1->V2
 |[],x=>[x]
 |v::u,x=>if cX v<cX x then v::po u x else x::v::u
def ZL:∀{u:V2} {x v:V1},v∈po u x↔v=x\/v∈u
 |[],x,v=>by simp[po]
 |w::u,x,v=>by
  simp only[po];split
  .rw[YH,ZL,YH];constructor
   .rintro(h|h|h);exact .inr (.inl h);exact .inl h;exact .inr (.inr h)
   .rintro(h|h|h);exact .inr (.inl h);exact .inl h;exact .inr (.inr h)
  .simp
def zJ3:∀{u:V2} {x:V1},Asc u->(∀v∈u,cX v≠cX x)->Asc (po u x)
 |[],x,_,_=>G9 _ _
 |w::u,x,hu,hx=>by
  obtain⟨h,A⟩:=List.pairwise_cons.1 hu;simp only[po];split
  .rename_i l;refine List.pairwise_cons.2 ⟨λv hv=>?_,zJ3 A λv hv=>hx v (by simp[hv])⟩;rcases ZL.1 hv with rfl|hv
   .exact l
   .exact h v hv
  .rename_i C
   have:=hx w aK
   refine List.pairwise_cons.2 ⟨λv hv=>?_,hu⟩;rcases YH.1 hv with rfl|hv
   .omega
   .have:=h v hv;omega
def Z8:∀(u:V2) (x:V1),(po u x).length=Lu u+1
 |[],x=>rfl
 |w::u,x=>by simp only[po];split<;>simp[Z8 u x]
def lg.insert{C u Q:V2}{x y z:V1}(h:lg p n W C u (x::Q))(L:Led p n y)(hd:cX y=cX x)(J:∀v∈u,cX v≠cX x)(E:ki p n W [y] (at_ x))(O:ki p n W [x] (at_ y))(M:El p n z)(I:cX y<cX z)(A:dq p n W (at_ z) λj=>p*at_ y j):lg p n W C (po u y) (z::Q):=by
 have sub:∀d,∀v∈Dp u d,v∈Dp (po u y) d:=λd v hv=>by
  simp only[F8,decide_eq_true_eq]at hv ⊢;exact⟨ZL.2 (.inr hv.1),hv.2⟩
 have H:∀d,d<cX y->y∈Dp (po u y) d:=λd hd=>by
  simp only[F8,decide_eq_true_eq];exact⟨ZL.2 (.inl rfl),hd⟩
 refine⟨λv hv=>?_,zJ3 h.asc λv hv=>by rw[hd];exact J v hv,λv hv=>?_,λv hv=>?_,λf=>(h.gen f).trans ⟨ZM λv hv=>?_,ZM λv hv=>?_⟩⟩
 .rcases ZL.1 hv with rfl|hv
  .exact L
  .exact h.led v hv
 .rcases YH.1 hv with rfl|hv
  .exact M
  .exact h.els v (by simp[hv])
 .rcases ZL.1 hv with rfl|hv
  .refine .inr ⟨z,aK,I,?_⟩
   have:=A.symm.add (dq.refl (p:=p) (n:=n) (W:=W) λj=>- at_ z j)
   refine(zO _).eqv _ _ ((dq.of_eq λj=>?_).trans (this.trans (dq.of_eq λj=>?_))) (zO _).zero
   .omega
   .omega
  .rcases h.clo v hv with l|⟨t,ht,l,D⟩
   .exact .inl (zg (sub _) l)
   .rcases YH.1 ht with rfl|ht
    .have q1:ki p n W (Dp (po u y) (cX v)) (at_ t):=zg (λw hw=>by rw[YT.1 hw];exact H _ af) E;have N:=(zO _).add _ _ (zg (sub (cX v)) D) q1;exact .inl ((zO _).eqv _ _ (dq.of_eq λj=>af) N)
    .exact .inr ⟨t,by simp[ht],l,zg (sub _) D⟩
 .simp only[YY,YH]at hv;rcases hv with hv|rfl|hv
  .exact zY (by simp[ZL,hv])
  .exact zg (λw hw=>by rw[YT.1 hw];simp[ZL]) E
  .exact zY (by simp[hv])
 .simp only[YY,YH,ZL]at hv;have G:ki p n W (u++x::Q) (at_ y):=zg (λw hw=>by rw[YT.1 hw];simp) O;rcases hv with (rfl|hv)|rfl|hv
  .exact G
  .exact zY (by simp[hv])
  .exact(zO _).eqv _ _ A ((zO _).mul p _ G)
  .exact zY (by simp[hv])
def zFi{v:V1}{t:V2}(h:∀w∈t,cX v<cX w):Dp (v::t) (cX v)=t:=by
 rw[Dp,J2,DL aK];exact List.filter_eq_self.2 λw hw=>by simpa using h w hw
def lg.base{E:V2}:∀{u:V2},lg p n W E u []->mb p n W u:=by
 have key:∀(u:V2),(∀v∈u,Led p n v)->Asc u->(∀v∈u,ki p n W (Dp u (cX v)) λj=>p*at_ v j)->mb p n W u:=by
  intro u
  induction u with
  |nil=>intro _ _ _;exact .nil
  |cons v t ih=>
   intro D H C;obtain⟨A,G⟩:=List.pairwise_cons.1 H;have l:=C v aK;rw[zFi A]at l;refine .cons (D v aK) A l (ih (λw hw=>D w (by simp[hw])) G λw hw=>?_);have J:=C w (by simp[hw])
   have:Dp (v::t) (cX w)=Dp t (cX w):=by
    rw[Dp,J2,DL (by have:=A w hw;simp;omega)]
   rwa[this]at J
 intro u h;exact key u h.led h.asc λv l=>(h.clo v l).elim id λ⟨x,I,_⟩=>by cases I
def lg.done{l u out:V2}(h:lg p n W l u [])(c:Canon p n W u out):Canon p n W l out:=c.trans λf=>by
 have:=h.gen f
 rwa[Ye]at this
def zAt{u:V2}(D:∀v∈u,cX v<n)(h:Asc u):(Lu u)<=n:=by
 have:∀(u:V2) (m:Nat),(∀v∈u,m<=cX v/\cX v<n)->Asc u->m+Lu u<=max m n:=by
  intro u
  induction u with
  |nil=>intro m _ _;simp;omega
  |cons v t ih=>
   intro m l h;obtain⟨A,C⟩:=List.pairwise_cons.1 h;have q:=l v aK
   have:=ih (cX v+1) (λw hw=>⟨A w hw,(l w (by simp[hw])).2⟩) C
   rw[Yu];omega
 have:=this u 0 (λv E=>⟨YV _,D v E⟩) h
 omega
def zMk(l:0<p){a k:Int}(h:0<=a/\a<=p-1)(e:a=0-k*p):a=0:=by
 rcases I1 k 0 with x|x|x
 .have:=YO (show k<=-1 by omega) (show 0<=p by omega)
  omega
 .rw[x]at e;omega
 .have:=YO (show 1<=k by omega) (show 0<=p by omega)
  omega
def zGB(o:eT p n W){z:V1}{g:hK}(A:El p n z)(h:dq p n W (at_ z) g){m:Nat}(G:m<=n)(l:∀j,j<m->g j=0):∀j,j<m->at_ z j=0:=by
 intro j C;have D:=o.pr;unfold te at D;obtain⟨k,u⟩:=(QW o h (d:=j) af (λi _=>A.at0 o i) (λi E=>by rw[l i af];omega)).2;rw[l j C]at u;exact zMk af (A.at0 o j) u
def zEt{u:V2}{d:Nat}(h:∀v∈u,d<=cX v):Fp u d=u:=List.filter_eq_self.2 λv l=>by simpa using h v l
def zEx(o:eT p n W):∀{u:V2} {g:V1},(∀v∈u,El p n v)->Asc u->El p n g->iW p W u g=iW p W (Fp u (cX g)) g
 |[],g,_,_,_=>rfl
 |v::u,g,hu,ha,hg=>by
  obtain⟨h,l⟩:=List.pairwise_cons.1 ha;by_cases hd:cX g<=cX v
  .rw[zEt];intro w hw;rcases YH.1 hw with rfl|hw
   .exact hd
   .have:=h w hw;omega
  .have e:Fp (v::u) (cX g)=Fp u (cX g):=by rw[Fp,J2,DL (by simpa using hd)]
   rw[e,iW,zOI o hg (hu v aK) (zn af)];exact zEx o (λw hw=>hu w (by simp[hw])) l hg
def zDQ{u:V2}{d:Nat}{v:V1}:v∈Fp u d↔v∈u/\d<=cX v:=by simp[Fp]
def zQC(o:eT p n W){u:V2}{g:V1}(A:∀v∈u,Led p n v)(C:Asc u)(l:El p n g):cX g<=cX (iW p W u g):=by
 have D:=Qk o (λv h=>(A v h).1) l;refine zAJ (by rw[D.1,<-l.1];exact Qg g) λj E=>?_;rw[zEx o (λv h=>(A v h).1) C l]
 have:=(zAy o (u:=Fp u (cX g)) (λv h=>A v (zDQ.1 h).1) (C.sublist List.filter_sublist) l).2 j λv h=>by have:=(zDQ.1 h).2;omega
 rw[this];exact zn E
def lg.reduce(o:eT p n W){D u Q:V2}{g:V1}(h:lg p n W D u (g::Q)):lg p n W D u (iW p W u g::Q):=by
 have l:=h.els g aK;have A:∀v∈u,El p n v:=λv C=>(h.led v C).1;refine h.replace (Qk o A l) (zQC o h.led h.asc l) ?_;rw[zEx o A h.asc l];exact zAx o (λv C=>A v (zDQ.1 C).1) l
def lg.reduce1(o:eT p n W){A u Q:V2}{g v:V1}(h:lg p n W A u (g::Q))(D:v∈u)(hd:cX v=cX g):lg p n W A u (tE p W g v::Q)/\cX g<cX (tE p W g v):=by
 have l:=h.els g aK;have lv:=h.led v D;have C:=zEy o l lv.1;have E:cX g<cX (tE p W g v):=zAJ (by rw[C.1];have:=lv.2.1;omega) λj H=>by
  rw[zHi o l lv af];split
  .rfl
  .exact zn af
 refine⟨h.replace C af ?_,E⟩;have G:=(zO (p:=p) (n:=n) (W:=W) (Fp u (cX g))).mul (at_ g (cX v)) _ (zY (zDQ.2 ⟨D,af⟩));refine(zO _).eqv _ _ ?_ G
 have:=(zJA o l lv.1).symm.add (dq.refl (p:=p) (n:=n) (W:=W) λj=>at_ g (cX v)*at_ v j-at_ (tE p W g v) j)
 refine(dq.of_eq λj=>?_).trans (this.trans (dq.of_eq λj=>?_))
 .omega
 .omega
def ZT(o:eT p n W){x:V1}(l:El p n x)(k:Int):El p n (norm p W (eX k x 0 x))/\dq p n W (at_ (norm p W (eX k x 0 x))) λj=>k*at_ x j:=by
 have h:(eX k x 0 x).length=n:=by rw[zT rfl];exact l.1
 exact⟨zBs o h,(qU o h).trans (dq.of_eq λj=>by rw[qC rfl];omega)⟩
def zCS(o:eT p n W){x:V1}(A:El p n x)(hd:cX x<n){k:Int}(M:at_ x (cX x)*k % p=1):
  Led p n (norm p W (eX k x 0 x))/\cX (norm p W (eX k x 0 x))=cX x/\ki p n W [norm p W (eX k x 0 x)] (at_ x)/\ki p n W [x] (at_ (norm p W (eX k x 0 x))):=by
 have N:=o.pr;unfold te at N;have C:(eX k x 0 x).length=n:=by rw[zT rfl];exact A.1
 obtain⟨G,heq⟩:=ZT o A k;have D:∀j,j<cX x->at_ (eX k x 0 x) j=0:=λj u=>by rw[qC rfl,zn u];simp
 have I:=zBO o C af D;have l:=zEI o C hd D;have e:at_ (eX k x 0 x) (cX x)=at_ x (cX x)*k:=by rw[qC rfl,UN k];omega
 rw[e,M]at l;have h:cX (norm p W (eX k x 0 x))=cX x:=zHJ I (by rw[l];decide);refine⟨⟨G,by rw[h];exact hd,by rw[h];exact l⟩,h,?_,?_⟩
 .obtain⟨t,ht⟩:∃t,at_ x (cX x)*k=1+p*t:=⟨at_ x (cX x)*k / p,by have:=I2 (at_ x (cX x)*k) p;omega⟩
  obtain⟨e,s,E⟩:=inv_one (p:=p) t n af;have H:=(zO (p:=p) (n:=n) (W:=W) [norm p W (eX k x 0 x)]).mul (e*at_ x (cX x)) _ (zY (YT.2 rfl));have O:=(Qv o (f:=at_ x) λj u=>A.beyond u).mul (-s);refine(zO _).eqv _ _ ?_ H;have J:=heq.symm.mul (e*at_ x (cX x));have L:=J.add O;refine(dq.of_eq λj=>?_).trans (L.trans (dq.of_eq λj=>aK))
  have:e*at_ x (cX x)*(k*at_ x j)=(e*(at_ x (cX x)*k))*at_ x j:=by simp only[UR]
  rw[this,ht,E,Uf,Ub]
  have:-s*(nD p n*at_ x j)=-(nD p n*s*at_ x j):=by rw[Uy,Int.mul_left_comm,UR]
  rw[this];omega
 .refine(zO _).eqv _ _ heq ((zO _).mul k _ (zY (YT.2 rfl)))
def zJQ(o:eT p n W){y:V1}(u:El p n y)(hd:cX y<n):cX y<cX (norm p W (eX p y 0 y)):=by
 obtain⟨l,heq⟩:=ZT o u p;obtain⟨g,A,C,D⟩:=push o hd (f:=at_ y) (λj h=>zn h) λj h=>u.beyond h
 have:=zGB o l (heq.trans A) (m:=cX y+1) af λj h=>C j af
 exact zAJ (by rw[l.1];omega) this
def lg.take(o:eT p n W){A u Q:V2}{x:V1}{k:Int}(h:lg p n W A u (x::Q))(hd:cX x<n)(C:∀v∈u,cX v≠cX x)(J:at_ x (cX x)*k % p=1):
  lg p n W A (po u (norm p W (eX k x 0 x))) (norm p W (eX p (norm p W (eX k x 0 x)) 0 (norm p W (eX k x 0 x)))::Q):=by
 have L:=h.els x aK;obtain⟨l,D,E,G⟩:=zCS o L hd J;obtain⟨H,I⟩:=ZT o l.1 p;exact h.insert l D C E G H (zJQ o l.1 l.2.1) I
def zEY{p a:Int}(h:p=2\/p=3\/p=5\/p=7)(l:0<a)(u:a<p):∃x,1<=x/\x<p/\a*x % p=1:=by
 rcases h with rfl|rfl|rfl|rfl
 .exact⟨1,af,af,by
   have:a=1:=af
   subst this;decide⟩
 .obtain rfl|rfl:a=1\/a=2:=af
  .exact⟨1,LB,LB,LB⟩
  .exact⟨2,LB,LB,LB⟩
 .obtain rfl|rfl|rfl|rfl:a=1\/a=2\/a=3\/a=4:=af
  .exact⟨1,LB,LB,LB⟩
  .exact⟨3,LB,LB,LB⟩
  .exact⟨2,LB,LB,LB⟩
  .exact⟨4,LB,LB,LB⟩
 .obtain rfl|rfl|rfl|rfl|rfl|rfl:a=1\/a=2\/a=3\/a=4\/a=5\/a=6:=af
  .exact⟨1,LB,LB,LB⟩
  .exact⟨4,LB,LB,LB⟩
  .exact⟨5,LB,LB,LB⟩
  .exact⟨2,LB,LB,LB⟩
  .exact⟨3,LB,LB,LB⟩
  .exact⟨6,LB,LB,LB⟩
end Go.Lie
namespace Go.Proofs
open Go.Ab Go.Lie
variable{σ:cg}{K:PV->cg->Prop}{p:Int}{n:Nat}{W:V2}{B:V3}{vP vB vU:PV}
def zPO{a p:Int}(A:jF p)(u:0<a/\a<p)(H:∀x,1<=x->x<p->a*x % p=1->K (.int .i64 x) σ):zA Li 151 [.int .i64 a,.int .i64 p] σ K:=by
 have M:=A.bd;obtain⟨y,J,O,C⟩:=zEY A u.1 u.2;refine Lg Tryz.func151 ?_;refine Lk ?_;refine zF (λm vs h'=>∃i:Int,1<=i/\i<=y/\m=(y-i).toNat/\vs=[.int .i64 a,.int .i64 p,.int .i64 i]/\σ=h') (y-1).toNat ?_ ?_
 .exact⟨1,af,J,rfl,rfl,rfl⟩
 rintro m vs h' ⟨i,G,L,rfl,rfl,rfl⟩
 have l:i<p:=af
 simp only[Z3,seval,-ae,l];refine zEU af af ?_;have D:a % p=a:=Ys af af;have I:a*i<=49/\0<=a*i:=by
  have h:=Yy (show i<=7 by omega) (show 0<=a by omega);have N:=UG (show 0<=a by omega) (show 0<=i by omega);omega
 have E:p≠0:=af
 rw[D];simp only[Z3,seval,-ae,fl (n:=a*i) af af,E];have e:(a*i).tmod p=a*i % p:=Yd I.2;rw[e];by_cases h:a*i % p=1
 .simp only[Z3,seval,-ae,h];exact H i G l h
 .have an:i≠y:=λe=>h (by rw[e];exact C);simp only[Z3,seval,-ae,h,fl (n:=i+1) af af];exact⟨_,af,i+1,af,af,rfl,rfl⟩
def zLb{l:Nat}{w:Bool}{a:AV}{xs:V1}(C:l=Lu xs)(E:(Lu xs)<=1048576)(A:K (.int .i64 (cX xs)) σ):zA Li 207 [.fz w a l (cS xs)] σ K:=by
 subst C;refine Lg Tryz.func207 ?_;refine Lk ?_;refine zF (λm vs h'=>∃i:Nat,i<=cX xs/\m=cX xs-i/\vs=[.fz w a (Lu xs) (cS xs),.int .i64 i]/\σ=h') (cX xs) ?_ ?_
 .exact⟨0,af,af,rfl,rfl⟩
 rintro m vs h' ⟨i,G,rfl,rfl,rfl⟩
 have D:=Qg xs;by_cases h:i<Lu xs
 .simp only[Z3,seval,-ae,h,zN,gi h];refine de (λu=>?_) λu=>?_
  .have j4:i<cX xs:=by
    rcases YG i (cX xs)with x|x
    .exact x
    .have:i=cX xs:=af
     subst this;exact absurd (by rw[dp h];exact u) (ZJ h)
   simp only[Z3,seval,-ae,WX h];exact⟨_,af,i+1,af,rfl,rfl⟩
  .have j4:i=cX xs:=by
    rcases YG i (cX xs)with x|x
    .exact absurd (by rw[<-dp h];exact zn x) u
    .omega
   subst j4;exact A
 .have j4:i=cX xs:=af
  subst j4;simp only[Z3,seval,-ae,h];exact A
def zBG{l:Nat}{w:Bool}{a:AV}{xs:V1}(A:l=Lu xs)(h:(Lu xs)<=1048576)(u:K (.int .i64 (cX xs)) σ):zA Li 152 [.fz w a l (cS xs)] σ K:=by
 refine Lg Tryz.func152 ?_;refine Lk ?_;refine zLb A h ?_;refine Lk ?_;exact u
def zIM{l:Nat}{w:Bool}{a:AV}{xs:V1}(A:l=Lu xs)(h:(Lu xs)<=4294967296)(u:∀v,K (.fz DF v (Lu xs) (cS xs)) σ):zA Li 206 [.fz w a l (cS xs)] σ K:=
 zA.fz (λK'=>qw A h) (zL _ _) λo cap=>u _
def zH9(u:V2)(v x:V1):iW p W (u++[v]) x=tE p W (iW p W u x) v:=by
 induction u generalizing x with
 |nil=>rfl
 |cons w u ih=>rw[Yr,iW,ih,iW]
def zCF{l:Nat}{w:Bool}{a:AV}{u:V2}{x:V1}(E:lx vP vB W B)(o:eT p n W)(P:jj vU u)(I:∀v∈u,El p n v/\cX v<n)(dT:(Lu u)<=1048576)(G:El p n x)(R:l=Lu x)
  (Q:∀v,K (.fz DF v n (cS (iW p W u x))) σ):zA Li 149 [.agg [.int .i64 p,vP,vB],vU,.fz w a l (cS x)] σ K:=by
 have N:=E.P.one;have O:=E.B.one;have aX:=o.le;have S:=o.pr;unfold te at S;obtain⟨Y,al,U,rfl,J⟩:=P;refine Lh Tryz.func149 ?_;simp only[Z3,seval,-ae,N,O];refine zIM R (by rw[G.1];omega) λX=>?_;rw[G.1];refine Lk ?_;refine zF (λm vs h'=>∃i:Nat,i<=Lu u/\m=Lu u-i/\∃v,vs=[.fz Y al (Lu u) U,.ptr σ.aM 0,.fz DF v n (cS (iW p W (u.take i) x)),.int .i64 i]/\σ.bf [.int .i64 p,vP,vB]=h') (Lu u) ?_ ?_
 .exact⟨0,af,af,X,by rw[UT,iW];rfl,rfl⟩
 rintro m vs h' ⟨i,hi,rfl,v,rfl,rfl⟩
 refine Lk ?_;have A:El p n (iW p W (u.take i) x):=Qk o (λv T=>(I v (UY T)).1) G;refine de (λh=>?_) λaG=>?_
 .obtain⟨w4,a4,H⟩:=J.rowI h;have C:=I _ (YZ h);have M:iW p W (u.take (i+1)) x=tE p W (iW p W (u.take i) x) u[i]:=by rw[YN h,zH9]
  generalize hy:iW p W (u.take i) x=y at *
  have D:cX u[i] < (Lu y):=by rw[A.1];exact C.2
  have Z:=A.at o.pr (cX u[i]);rw[dp D]at Z;simp only[Z3,seval,-ae,h,H];refine zBG rfl (by rw[C.1.1];omega) ?_;have L:Lp .i64 (0-y[cX u[i]])=-y[cX u[i]]:=WQ
  simp only[Z3,seval,-ae,h,H,C.2,zN,gi D,L];refine qF E o A C.1 A.1.symm rfl LB af λV=>?_;simp only[Z3,seval,-ae,WX h];refine⟨_,af,i+1,af,rfl,V,?_⟩;rw[M,tE,dp D]
 .have aU:i=Lu u:=af
  subst aU;rw[Yf];exact Gh.fin0 (zC σ _) trivial (Q v)
def zIP:∀(u:V2) (x:V1) (k:Nat),k<=Lu u->(∀j (h:j<Lu u),j<k->cX u[j] < cX x)->(∀h:k<Lu u,¬cX u[k] < cX x)->po u x=u.take k++[x]++u.drop k
 |[],x,k,hk,_,_=>by
  have:k=0:=by simpa using hk
  subst this;rfl
 |v::u,x,0,_,_,h2=>by
  have:=h2 aK
  simp only[Kd]at this;rw[po,DL this];rfl
 |v::u,x,k+1,hk,h1,h2=>by
  have:=h1 0 aK af
  simp only[Kd]at this;rw[po,DK this,zIP u x k (by simpa using hk) (λj h l=>by have:=h1 (j+1) (by simpa using h) af;simpa using this) (λh=>by have:=h2 (by simpa using h);simpa using this)];rfl
def zJo{l:Nat}{w:Bool}{a:AV}{u:V2}{x:V1}(hL:jj vU u)(hu:∀v∈u,(Lu v)<=1048576)(dT:(Lu u)<=1048576)(X:(Lu x)<=1048576)(hl:l=Lu x)
  (hk:∀v,jj v (po u x)->K v σ):zA Li 153 [vU,.fz w a l (cS x)] σ K:=by
 subst hl;obtain⟨wl,al,C,rfl,G⟩:=hL;refine Lh Tryz.func153 ?_;refine Lk ?_;refine zF (λm vs h'=>∃i:Nat,i<=Lu u/\m=Lu u-i/\vs=[.fz wl al (Lu u) C,.fz w a (Lu x) (cS x),.int .i64 i]/\σ=h'/\∀j (h:j<Lu u),j<i->cX u[j] < cX x) (Lu u) ?_ ?_
 .exact⟨0,af,af,rfl,rfl,λj h hj=>af⟩
 rintro m vs h' ⟨i,S,rfl,rfl,rfl,Q⟩
 have fin:(∀h:i<Lu u,¬cX u[i] < cX x)->po u x=u.take i++[x]++u.drop i:=zIP u x i S Q;have tail:(∀h:i<Lu u,¬cX u[i] < cX x)->∀O h',cT σ h'->eA σ.aM 1 h' O (Lu u+1) (C.take i++[PV.fz w a (Lu x) (cS x)]++C.drop i)->Gh σ K O h':=λhs O h' V ha=>by
  have R:dd FI (C.take i++[PV.fz w a (Lu x) (cS x)]++C.drop i) (po u x):=by
   rw[fin hs];exact((G.take i).append (dd.nil FI |>.snoc ⟨w,a,rfl⟩)).append (G.drop i)
  exact ha.fin V (R.bI 0) λo cap=>hk _ ⟨DF,.sl o 0 (Lu u+1) cap,_,by rw[Z8],R⟩
 have LF:=G.1;have H:i<=Lu u:=S;have U:(C.drop i).take (Lu u-i)=C.drop i:=YS (by rw[UQ];omega);by_cases A:i<Lu u
 .obtain⟨w4,a4,T⟩:=G.rowI A;simp only[Z3,seval,-ae,A,T];refine zBG rfl (hu _ (YZ A)) ?_;simp only[Z3,seval,-ae,A,T];refine zBG rfl X ?_;refine Lk ?_;refine de (λhd=>?_) λhd=>?_
  .simp only[Z3,seval,-ae,WX A];refine⟨_,af,i+1,af,rfl,rfl,λj h hj=>?_⟩;by_cases e:j=i
   .subst e;exact hd
   .exact Q j h af
  .simp only[Z3,seval,-ae,H,Ed];refine eA.cat (bytes:=24) (σb:=σ) (n:=0) (cs:=[]) (zC σ _) (eA.bf _ 1 rfl (na _)) (by rw[Yh];omega) af af λv1 Y L D=>?_;rw[Yl,Y5]at D;refine Lk ?_;refine eA.push (bytes:=24) L D af af λv2 Z M I=>?_;simp only[Z3,seval,-ae,H,U];refine eA.cat (bytes:=24) M I (by rw[UQ];omega) af af λP J N E=>?_;refine Lk ?_;refine tail ?_ P J N ?_
   .exactλ_=>hd
   .have:i+1+(Lu u-i)=Lu u+1:=af
    rw[this]at E;exact E
 .simp only[Z3,seval,-ae,A];simp only[Z3,seval,-ae,A,Int.ofNat_le,H,Ed];refine eA.cat (bytes:=24) (σb:=σ) (n:=0) (cs:=[]) (zC σ _) (eA.bf _ 1 rfl (na _)) (by rw[Yh];omega) af af λv1 Y L D=>?_;rw[Yl,Y5]at D;refine Lk ?_;refine eA.push (bytes:=24) L D af af λv2 Z M I=>?_;simp only[Z3,seval,-ae,H,U];refine eA.cat (bytes:=24) M I (by rw[UQ];omega) af af λP J N E=>?_;refine Lk ?_;refine tail ?_ P J N ?_
  .exactλh=>absurd h A
  .have:i+1+(Lu u-i)=Lu u+1:=af
   rw[this]at E;exact E
variable{vL:PV}
def zAH:∀u:V2,(np p W u).length=Lu u
 |[]=>rfl
 |v::t=>by simp[np,zAH t]
def zKA:∀(u:V2) (k:Nat) (h:k<Lu u),(np p W u)[k]? = Dc (iW p W (u.drop (k+1)) u[k])
 |[],k,h=>by simp at h
 |v::t,0,h=>by simp[np]
 |v::t,k+1,h=>by
  have:=zKA t k (by simpa using h)
  simp only[np,D3,List.drop_succ_cons,List.getElem_cons_succ];exact this
def ZW{xs:V1}(h:mw xs)(j:Nat):at_ xs j=0:=by
 rcases YG j (Lu xs) with x|x
 .rw[dp x];exact h _ (YZ x)
 .exact nX x
def zCs{xs:V1}(h:¬mw xs):cX xs<Lu xs:=by
 rcases YG (cX xs) (Lu xs) with x|x
 .exact x
 .exact absurd (zRD (by have:=Qg xs;omega)) h
def zS2{u:V2}{x:V1}(A:∀v∈u,at_ x (cX v)=0)(l:cX x<Lu x):∀v∈u,cX v≠cX x:=λv h e=>ZJ l (by rw[<-e];exact A v h)
def zPI{h:V2}(E:lx vP vB W B)(o:eT p n W)(hp:jF p)(hL:jj vL h)(he:yx p n h)(pL:(Lu h)<=1048576)(hk:∀out rows cap,Canon p n W h out->dd FI rows out->full 1 cap (Lu out)->K (.sl σ.aM 0 (Lu out) cap) (σ.bf rows)):
  zA Li 75 [.agg [.int .i64 p,vP,vB],vL] σ K:=by
 have h1:=E.P.one;have h2:=E.B.one;have aX:=o.le;have gA:=hp.bd;have xd:-1000000000<=p/\p<=1000000000:=af
 obtain⟨wl,al,rl,rfl,bp⟩:=hL;refine zA.gh ?_;refine qH mix Tryz.func75 ?_;simp only[Z3,seval,-ae,h1,h2];generalize N:((σ.bf [.int .i64 p,vP,vB]).bf []).kill (σ.aM+1)=H;have fq:H.aM=σ.aM+2:=by rw[<-N];simp only[Z3,seval,-ae]
 have l9:cT σ H:=by rw[<-N];exact((zC σ _).bf _).kill af
 have G:H.rd σ.aM 0 3=Dc [.int .i64 p,vP,vB]:=by rw[<-N];simp only[Z3,seval,-ae]
 have M:H.dR σ.aM 0=Dc (.int .i64 p):=by rw[<-N];simp only[Z3,seval,-ae]
 have D:∀{u Q:V2},lg p n W h u Q->(∀v∈u,El p n v/\cX v<n)/\Lu u<=n:=λg=>⟨λv C=>⟨(g.led v C).1,(g.led v C).2.1⟩,zAt (λv C=>(g.led v C).2.1) g.asc⟩
 refine Zg (λm vs h'=>∃i:Nat,i<=Lu h/\m=Lu h-i/\∃vU u,vs=[.fz wl al (Lu h) rl,.ptr σ.aM 0,vU,.int .i64 i]/\H=h'/\jj vU u/\lg p n W h u (h.drop i)) (Lu h) ?_ ?_
 .refine .fz (σ.aM+1) [] (by simp only[Z3,seval,-ae]) trivial λo1=>.here ?_;rw[N];refine⟨0,af,af,.fz DF (.sl o1 0 0 (.b6 0)) 0 [],[],?_,rfl,⟨_,_,_,rfl,dd.nil _⟩,by rw[EC];exact lg.start he⟩;refine Lk ?_;simp only[kq,sb,gk,na,decide_true,and_self,if_true];rfl
 rintro m vs h' ⟨i,hi,rfl,vU,u,rfl,rfl,L,l⟩
 refine Lk ?_;refine de (λA=>?_) λP=>?_
 .obtain⟨w4,a4,hr⟩:=bp.rowI A;have P:=he _ (YZ A);have hd:h.drop i=h[i]::h.drop (i+1):=HQ A;rw[hd]at l;simp only[Z3,seval,-ae,A,hr,G,M];refine zCF E o L (D l).1 (by have:=(D l).2;omega) P rfl λv0=>?_;refine Lk ?_;refine zF (λm vs h'=>∃vU u vX x,m=n-Lu u/\vs=[.fz wl al (Lu h) rl,.ptr σ.aM 0,vU,.int .i64 i,.fz DF vX n (cS x)]/\H=h'/\jj vU u/\lg p n W h u (x::h.drop (i+1))/\∀v∈u,at_ x (cX v)=0) (n-Lu u) ?_ ?_
  .exact⟨vU,u,v0,_,rfl,rfl,rfl,L,l.reduce o,(zAy o l.led l.asc P).1⟩
  rintro m vs h' ⟨vU,u,vX,x,rfl,rfl,rfl,L,l,hz⟩
  have O:=l.els x aK;have S:=O.1;refine Lk ?_;refine Zb S.symm af ?_;by_cases U:mw x
  .simp only[Z3,seval,-ae,U,WX A];exact⟨_,af,.here ⟨i+1,af,rfl,vU,u,rfl,rfl,L,l.drop (ZW U)⟩⟩
  .have gZ:cX x<Lu x:=zCs U;have T:cX x<n:=af
   have Et:=O.at0 o (cX x);have an:=ZJ gZ;rw[dp gZ]at Et an;simp only[Z3,seval,-ae,U,G,M];refine zBG S.symm af ?_;simp only[Z3,seval,-ae,T,gZ,gi gZ,zN,G,M];refine zPO hp af λk bU df xh=>?_;simp only[Z3,seval,-ae,T,gZ,gi gZ,zN,G,M];refine qF E o O O S.symm S.symm af LB λv1=>?_;have J:=l.take o T (zS2 hz gZ) (k:=k) (by rw[dp gZ];exact xh);obtain⟨I,y2,y3,y4⟩:=zCS o O T (k:=k) (by rw[dp gZ];exact xh);generalize norm p W (eX k x 0 x)=y at *
   refine Lk ?_;refine zJo L (λv C=>by rw[((D l).1 v C).1.1];omega) (by have:=(D l).2;omega) (by rw[I.1.1];omega) I.1.1.symm λKe Iz=>?_;simp only[Z3,seval,-ae,G,M];refine qF E o I.1 I.1 I.1.1.symm I.1.1.symm xd LB λv2=>?_;obtain⟨z1,z2⟩:=ZT o I.1 p;generalize norm p W (eX p y 0 y)=z at *
   simp only[Z3,seval,-ae,G,M];refine zCF E o Iz (D J).1 (by have:=(D J).2;omega) z1 z1.1.symm λv3=>?_;refine Lk ?_;have hlen:=(D J).2;rw[Z8]at hlen;exact⟨_,by rw[Z8];omega,Ke,po u y,v3,_,rfl,rfl,Iz,J.reduce o,(zAy o J.led J.asc z1).1⟩
 .have aU:i=Lu h:=af
  subst aU;rw[List.drop_length]at l;have X:=l.base;have Am:=(D l).2;obtain⟨dK,_⟩:=zMP o X;obtain⟨wu,au,Z,rfl,Y⟩:=L;have LD:=Y.1;refine zF (λm vs h'=>∃k:Nat,k<=Lu u/\m=Lu u-k/\∃vO rows,vs=[.ptr σ.aM 0,.fz wu au (Lu u) Z,vO,.int .i64 k]/\cT H h'/\eA H.aM 1 h' vO k rows/\dd FI rows ((np p W u).take k)) (Lu u) ?_ ?_
  .exact⟨0,af,af,_,[],rfl,zC H _,eA.bf _ 1 rfl (na _),by simpa using dd.nil _⟩
  rintro m vs h' ⟨k,bF,rfl,vO,rows,rfl,V,ha,R⟩
  refine Lk ?_;refine de (λA=>?_) λP=>?_
  .obtain⟨w5,a5,cE⟩:=Y.rowI A;have hle:k+1<=Lu u:=A;have kI:(Z.drop (k+1)).take (Lu u-(k+1))=Z.drop (k+1):=YS (by rw[UQ];omega);have F7:h'.rd σ.aM 0 3=Dc [.int .i64 p,vP,vB]:=by rw[V.rd af];exact G
   simp only[Z3,seval,-ae,A,cE,F7,hle,kI,WX A];refine zCF E o (u:=u.drop (k+1)) ⟨false,pslA 1 au (k+1) (Lu u),_,by rw[UQ],Y.drop _⟩ (λv C=>(D l).1 v (Ey C)) (by rw[UQ];omega) (X.led _ (YZ A)).1 rfl λv1=>?_;refine Lk ?_;refine eA.push (bytes:=24) V ha af af λgu h2 k2 a2=>?_;simp only[Z3,seval,-ae,WX A];refine⟨_,af,k+1,af,rfl,gu,_,rfl,k2,a2,?_⟩;have xm:=zKA (p:=p) (W:=W) u k A;have fH:k<(np p W u).length:=by rw[zAH];exact A
   rw[YN fH];rw[YQ fH]at xm;rw[Option.some.inj xm];have EL:=(Qk o (u:=u.drop (k+1)) (λv C=>((D l).1 v (Ey C)).1) (X.led _ (YZ A)).1).1;exact R.snoc ⟨DF,v1,by rw[EL]⟩
  .have aU:k=Lu u:=af
   subst aU;rw[YS (by rw[zAH];exact na _)]at R;obtain⟨s,cap,rfl,hc,q2,q3,q4,q5⟩:=ha;have fP:=hk (np p W u) rows cap (l.done dK) R (by rw[zAH];exact hc);rw[zAH]at fP;exact Gh.np (l9.trans V) q2 af (R.bI _) fP
def zNQ{h:V2}(C:lx vP vB W B)(o:eT p n W)(H:jF p)(A:jj vL h)(E:yx p n h)(J:(Lu h)<=1048576)(G:∀v out,Canon p n W h out->jj v out->K v σ):
  zA Li 75 [.agg [.int .i64 p,vP,vB],vL] σ K:=by
 refine zA.gh (zPI C o H A E J λout rows cap D l u=>?_);exact Gh.finF (s:=σ.aM) (zC σ _) (by rw[zI,DK rfl]) (na _) (l.bI 0) u.ok λI=>G _ out D ⟨DF,.sl I 0 (Lu out) cap,rows,rfl,l⟩
variable{s:Nat}
def euc(p a:Int):Nat->Int×Int×Int×Int
 |0=>(p,a,0,1)
 |k+1=>let t:=euc p a k
  if t.2.1=0 then t else(t.2.1,t.1-t.1.tdiv t.2.1*t.2.1,t.2.2.2,t.2.2.1-t.1.tdiv t.2.1*t.2.2.2)
def eucOK(p a:Int)(k:Nat):Bool:=
 let t:=euc p a k
 decide (-7<=t.1/\t.1<=7/\-7<=t.2.1/\t.2.1<=7/\-7<=t.2.2.1/\t.2.2.1<=7/\-7<=t.2.2.2/\t.2.2.2<=7/\-7<=t.1.tdiv t.2.1/\t.1.tdiv t.2.1<=7/\-49<=t.1.tdiv t.2.1*t.2.1/\t.1.tdiv t.2.1*t.2.1<=49/\-49<=t.1.tdiv t.2.1*t.2.2.2/\t.1.tdiv t.2.1*t.2.2.2<=49/\(k=8->t.2.1=0)/\(t.2.1=0->a*(t.2.2.1 % p) % p=1 % p))
def zSO:∀p∈[2,3,5,7],∀a∈[1,2,3,4,5,6],(a:Int)<p->∀k∈[0,1,2,3,4,5,6,7,8],eucOK p a k=DF:=by decide +kernel
def zTA{a:Int}(l:jF p)(u:0<a/\a<p){k:Nat}(C:k<=8):eucOK p a k=DF:=by
 have A:=l.bd;refine zSO p ?_ a ?_ u.2 k ?_
 .rcases l with h|h|h|h<;>simp[h]
 .have:a=1\/a=2\/a=3\/a=4\/a=5\/a=6:=af
  rcases this with h|h|h|h|h|h<;>simp[h]
 .have:k=0\/k=1\/k=2\/k=3\/k=4\/k=5\/k=6\/k=7\/k=8:=af
  rcases this with h|h|h|h|h|h|h|h|h<;>simp[h]
def zDx{a:Int}(A:jF p)(G:0<a/\a<p)(H:∀(x:Int) (b:Bool),0<=x->x<p->a*x % p=1->K (.tup [.int .i64 x,.bool b]) σ):zA Li 141 [.int .i64 a,.int .i64 p] σ K:=by
 have Z:=A.bd;refine Lg Tryz.func141 ?_;refine Lk ?_;refine zF (λm vs h'=>∃k:Nat,k<=8/\m=8-k/\vs=[.int .i64 p,.int .i64 (euc p a k).1,.int .i64 (euc p a k).2.1,.int .i64 (euc p a k).2.2.1,.int .i64 (euc p a k).2.2.2]/\σ=h') 8 ?_ ?_
 .exact⟨0,af,af,rfl,rfl⟩
 rintro m vs h' ⟨k,C,rfl,rfl,rfl⟩
 have l:=zTA A G C;unfold eucOK at l;have u:euc p a (k+1)=if (euc p a k).2.1=0 then euc p a k else((euc p a k).2.1,(euc p a k).1-(euc p a k).1.tdiv (euc p a k).2.1*(euc p a k).2.1,(euc p a k).2.2.2,(euc p a k).2.2.1-(euc p a k).1.tdiv (euc p a k).2.1*(euc p a k).2.2.2):=rfl
 generalize hT:euc p a k=T at *
 obtain⟨r,nx,x,y⟩:=T;dsimp only at l u ⊢;simp only[decide_eq_true_eq]at l;obtain⟨b1,O,P,Q,R,S,U,V,X,I,N,M,L,J,E,D⟩:=l;by_cases h:nx=0
 .subst h;refine Lk ?_;refine zBc af af ?_;refine Lk ?_;refine H _ _ (Y3 _ af) (Y6 _ af) ?_;rw[D rfl];exact Ys af af
 .rw[DL h]at u;have Y:k≠8:=λe=>h (E e);simp only[Z3,seval,-ae,h,fl (n:=r.tdiv nx) af af,fl (n:=r.tdiv nx*nx) af af,fl (n:=r.tdiv nx*y) af af,fl (n:=r-r.tdiv nx*nx) af af,fl (n:=x-r.tdiv nx*y) af af];refine⟨_,af,k+1,af,rfl,?_⟩;rw[u]
def zAp{l:Nat}{w:Bool}{a:AV}{xs:V1}(C:l=Lu xs)(E:(Lu xs)<=1048576)(A:K (.int .i64 (cX xs)) σ):zA Li 140 [.fz w a l (cS xs)] σ K:=by
 subst C;refine Lg Tryz.func140 ?_;refine Lk ?_;refine zF (λm vs h'=>∃i:Nat,i<=cX xs/\m=cX xs-i/\vs=[.fz w a (Lu xs) (cS xs),.fz w a (Lu xs) (cS xs),.int .i64 (Lu xs),.int .i64 i]/\σ=h') (cX xs) ?_ ?_
 .exact⟨0,af,af,rfl,rfl⟩
 rintro m vs h' ⟨i,G,rfl,rfl,rfl⟩
 have D:=Qg xs;by_cases h:i<Lu xs
 .by_cases u:xs[i]=0
  .have j4:i<cX xs:=by
    rcases YG i (cX xs)with x|x
    .exact x
    .have:i=cX xs:=af
     subst this;exact absurd (by rw[dp h];exact u) (ZJ h)
   simp only[Z3,seval,-ae,h,zN,gi h,u,WX h];exact⟨_,af,i+1,af,rfl,rfl⟩
  .have j4:i=cX xs:=by
    rcases YG i (cX xs)with x|x
    .exact absurd (by rw[<-dp h];exact zn x) u
    .omega
   subst j4;simp only[Z3,seval,-ae,h,zN,gi h,u];exact A
 .have j4:i=cX xs:=af
  subst j4;simp only[Z3,seval,-ae,h];have hd:cX xs=Lu xs:=af
  rw[hd]at A;exact A
def zRs{x:Int}(h:K (.bool (!decide (x=0))) σ):zA Li 236 [.int .i64 x] σ K:=by
 refine Lg Tryz.func236 ?_;refine Lk ?_;exact h
def zSt:okF Li 236=DF:=by kernel_rfl
def zKj{l:Nat}{w:Bool}{a:AV}{xs:V1}(C:l=Lu xs)(D:(Lu xs)<=1048576)(hd:cX xs<Lu xs)(A:K (.int .i64 (cX xs)) σ):
  zA Li 235 [.fz w a l (cS xs),.clo 236 [] []] σ K:=by
 subst C;refine Lg Tryz.func235 ?_;refine Lk ?_;refine zF (λm vs h'=>∃i:Nat,i<=cX xs/\m=cX xs-i/\vs=[.fz w a (Lu xs) (cS xs),.clo 236 [] [],.int .i64 (Lu xs),.int .i64 i]/\σ=h') (cX xs) ?_ ?_
 .exact⟨0,af,af,rfl,rfl⟩
 rintro m vs h' ⟨i,E,rfl,rfl,rfl⟩
 have h:i<Lu xs:=af
 simp only[Z3,seval,-ae,h,zN,gi h];refine⟨zSt,zRs ?_⟩;by_cases u:xs[i]=0
 .have j4:i<cX xs:=by
   rcases YG i (cX xs)with x|x
   .exact x
   .have:i=cX xs:=af
    subst this;exact absurd (by rw[dp h];exact u) (ZJ h)
  simp only[Z3,seval,-ae,u,ne_eq,not_true,decide_false,WX h];exact⟨_,af,i+1,af,rfl,rfl⟩
 .have j4:i=cX xs:=by
   rcases YG i (cX xs)with x|x
   .exact absurd (by rw[<-dp h];exact zn x) u
   .omega
  subst j4;simp only[Z3,seval,-ae,u,ne_eq,not_false_iff,decide_true];exact A
abbrev Co(u:V2):V1:=u.map λv=>(cX v:Int)
def zID{u:V2}(G:jj vU u)(J:∀v∈u,cX v<Lu v/\Lu v<=1048576)(R:(Lu u)<=1048576)(H:∀v,K (.fz DF v (Lu u) (cS (Co u))) σ):zA Li 202 [vU] σ K:=by
 obtain⟨O,al,M,rfl,E⟩:=G;refine Lh Tryz.func202 ?_;refine Lk ?_;refine zF (λm vs h'=>∃(i:Nat) (v:PV),i<=Lu u/\m=Lu u-i/\vs=[v,.fz O al (Lu u) M,.int .i64 (Lu u),.int .i64 i]/\cT σ h'/\ei σ.aM 1 h' v i (cS (Co (u.take i)))) (Lu u) ?_ ?_
 .exact⟨0,_,af,af,rfl,cT.refl σ,ei.nil _ _ _⟩
 rintro m vs h' ⟨i,v,T,rfl,rfl,A,l⟩
 refine Lk ?_;refine de (λh=>?_) λQ=>?_
 .obtain⟨U,P,I⟩:=E.rowI h;have C:=J _ (YZ h);simp only[Z3,seval,-ae,h,I];refine zKj rfl C.2 C.1 ?_;refine Lk ?_;refine ei.push (bytes:=8) A l af af λN S L D=>?_;simp only[Z3,seval,-ae,WX h];refine⟨_,af,i+1,N,af,rfl,rfl,L,?_⟩;have e:cS (Co (u.take (i+1)))=cS (Co (u.take i))++[.int .i64 (cX u[i])]:=by rw[YN h,Co,Yx,<-QL];rfl
  rw[e];exact D.acc
 .have aU:i=Lu u:=af
  subst aU;rw[Yf]at l;exact l.fin A (zL _ _) H
def zMb(o:eT p n W){y v:V1}(h:El p n y)(l:El p n v)(c:Int):j3 p W y (ed p W c v)=norm p W (eX 1 y c v):=by
 have u:(eX c v 0 v).length=n:=by rw[zT rfl];exact l.1
 have A:El p n (ed p W c v):=zBs o u;refine zGl o (by rw[zT (h.1.trans A.1.symm)];exact h.1) (by rw[zT (h.1.trans l.1.symm)];exact h.1) ?_;have C:dq p n W (λj=>at_ y j+at_ (ed p W c v) j) (λj=>at_ y j+at_ (eX c v 0 v) j):=(dq.refl _).add (qU o u);refine((dq.of_eq λj=>?_).trans C).trans (dq.of_eq λj=>?_)
 .rw[qC (h.1.trans A.1.symm)];omega
 .rw[qC (h.1.trans l.1.symm),qC rfl];omega
def zI9{l:Nat}{w:Bool}{a:AV}{u:V2}{x:V1}(hs:jE σ s p vP vB)(J:jj vP W)(o:eT p n W)(I:jj vU u)(D:∀v∈u,El p n v/\cX v<n)(N:(Lu u)<=1048576)(H:El p n x)(R:l=Lu x)
  (Q:∀v,K (.fz DF v n (cS (iW p W u x))) σ):zA Li 142 [.ptr s 0,vU,.fz w a l (cS x)] σ K:=by
 have aX:=o.le;have S:=o.pr;unfold te at S;refine Lg Tryz.func142 ?_;refine Lk ?_;refine zA.fzN H.1 (λK'=>Z9 R (by rw[H.1];omega)) λV=>?_;refine Lk ?_;refine zID I (λv E=>⟨by rw[(D v E).1.1];exact(D v E).2,by rw[(D v E).1.1];omega⟩) N λvp=>?_;obtain⟨Y,al,U,rfl,M⟩:=I;refine Lk ?_;refine zF (λm vs h'=>∃i:Nat,i<=Lu u/\m=Lu u-i/\∃v,vs=[.ptr s 0,.fz Y al (Lu u) U,.fz DF v n (cS (iW p W (u.take i) x)),.fz DF vp (Lu u) (cS (Co u)),.int .i64 (Lu u),.int .i64 i]/\σ=h') (Lu u) ?_ ?_
 .exact⟨0,af,af,V,by rw[UT,iW];rfl,rfl⟩
 rintro m vs h' ⟨i,hi,rfl,v,rfl,rfl⟩
 refine Lk ?_;have C:El p n (iW p W (u.take i) x):=Qk o (λv E=>(D v (UY E)).1) H;refine de (λA=>?_) λaG=>?_
 .obtain⟨w4,a4,T⟩:=M.rowI A;have h:=D _ (YZ A);have P:iW p W (u.take (i+1)) x=tE p W (iW p W (u.take i) x) u[i]:=by rw[YN A,zH9]
  generalize hy:iW p W (u.take i) x=y at *
  have G:cX u[i] < (Lu y):=by rw[C.1];exact h.2
  have Z:=C.at o.pr (cX u[i]);rw[dp G]at Z;have O:Lp .i64 (0-y[cX u[i]])=-y[cX u[i]]:=WQ
  have L:(Co u)[i]? = Dc (cX u[i]:Int):=by simp[Co,A]
  simp only[Z3,seval,-ae,A,T,h.2,zN,L,gi G,O];refine Qj hs J o h.1 rfl af λv1=>?_;refine Lk ?_;refine zAZ hs J o C (zK o h.1 h.1) C.1.symm (zK o h.1 h.1).1.symm λX=>?_;simp only[Z3,seval,-ae,WX A];refine⟨_,af,i+1,af,rfl,X,?_⟩;rw[P,tE,dp G,<-zMb o C h.1]
 .have aU:i=Lu u:=af
  subst aU;rw[Yf];exact Q v
def PQ(b:Nat)(h:cg)(v:PV)(m:Nat)(cs:List PV):Prop:=
 (v=Ln/\m=0/\cs=[])\/∃s off cap row,v=.sl s off m cap/\full 1 cap m/\h.bt s=Dc row/\(row.drop off).take m=cs/\off+m<=Lu row/\b<=s/\s<h.aM
def PQ.of{b m:Nat}{h:cg}{v:PV}{cs:List PV}(a:ei b 1 h v m cs):PQ b h v m cs:=by
 rcases a with a|⟨s,cap,rfl,l,u,D,A,C⟩
 .exact .inl a
 .exact .inr ⟨s,0,cap,cs,rfl,l,u,by rw[EC,YS af],af,A,C⟩
def PQ.set{b m t:Nat}{h:cg}{v:PV}{cs:List PV}(a:PQ b h v m cs)(H:t<b)(l:List PV):PQ b (h.set t l) v m cs:=by
 rcases a with a|⟨s,off,cap,row,rfl,u,A,C,D,E,G⟩
 .exact .inl a
 .exact .inr ⟨s,off,cap,row,rfl,u,by rw[zG,DL af];exact A,C,D,E,G⟩
def PQ.mo{b m:Nat}{h:cg}{v:PV}{cs:List PV}(a:PQ b h v m cs):mo v=Dc (.int .i64 m):=by
 rcases a with ⟨rfl,rfl,_⟩|⟨s,off,cap,row,rfl,_⟩<;>rfl
def PQ.uncons{b m:Nat}{h:cg}{v c:PV}{cs:List PV}(a:PQ b h v m (c::cs)):∃s off cap M,v=.sl s off m cap/\h.dR s off=Dc c/\0<m/\Zt 1 v (Dc (.int .i64 1)) none none=Dc M/\PQ b h M (m-1) cs:=by
 rcases a with ⟨_,_,e⟩|⟨s,off,cap,row,rfl,N,u,l,O,H,I⟩
 .cases e
 .have hm:0<m:=by
   rcases F4 m with x|x
   .subst x;cases l
   .exact x
  have D:row.drop off=c::row.drop (off+1):=by
   have C:off<Lu row:=af
   rw[HQ C]at l ⊢;obtain⟨A,rfl⟩:∃A,m=A+1:=⟨m-1,af⟩
   rw[List.take_succ_cons]at l;cases l;rfl
  have E:(row.drop (off+1)).take (m-1)=cs:=by
   rw[D]at l;obtain⟨A,rfl⟩:∃A,m=A+1:=⟨m-1,af⟩
   rw[List.take_succ_cons]at l;cases l;rfl
  have G:row[off]? = Dc c:=by
   have C:off<Lu row:=af
   rw[HQ C]at D;rw[YQ C];cases D;rfl
  have J:(1:Int)<=(m:Int):=af
  rcases N with rfl|rfl
  .refine⟨s,off,_,.sl s (off+1) (m-1) (.grown 1),rfl,by rw[zH u];exact G,hm,?_,.inr ⟨s,off+1,_,row,rfl,.inl rfl,u,E,af,H,I⟩⟩;simp only[Z3,seval,-ae,hm,J]
  .by_cases L:m=1
   .subst L;refine⟨s,off,_,.sl s off 0 (.b6 0),rfl,by rw[zH u];exact G,hm,?_,.inr ⟨s,off,_,row,rfl,.inr rfl,u,by simpa using E,af,H,I⟩⟩;rfl
   .refine⟨s,off,_,.sl s (off+1) (m-1) (.b6 (m-1)),rfl,by rw[zH u];exact G,hm,?_,.inr ⟨s,off+1,_,row,rfl,.inr rfl,u,E,af,H,I⟩⟩;simp only[Z3,seval,-ae,hm,J,L];rfl
def PQ.push{σb h:cg}{bytes m:Nat}{v x:PV}{cs:List PV}{K:PV×cg->Prop}(l:cT σb h)(a:PQ σb.aM h v m cs)
  (C:(m+1)*bytes<=140737488355328) (D:m+1<=4611686018427387904) (k:∀A h',cT σb h'->PQ σb.aM h' A (m+1) (cs++[x])->K (A,h')):fw (qL 1 bytes (h.bf [x]) v (.sl h.aM 0 1 (.b6 1))) K:=by
 rcases a with ⟨rfl,rfl,rfl⟩|⟨s,off,cap,row,rfl,L,M,E,O,P,Q⟩
 .exact ei.push l (ei.nil _ _ _) C D λA h' I J=>k A h' I (.of J.acc)
 .rw[ZZ];have H:ZV 1 (h.bf [x]) (.sl h.aM 0 1 (.b6 1)) 1=Dc [x]:=by simp[ZG,zAS]
  have G:(h.bf [x]).bt s=Dc row:=by simp only[cg.bf];rw[DL af];exact M
  have N:=l.aM;simp only[vd,YP];rw[DL af,H];simp only[YP];have u:(Lu cs)=m:=by rw[<-E,Yh,UQ];omega
  rcases L with rfl|rfl
  .rw[zBE,DK ⟨C,D,rfl⟩,G];simp only[YP];rw[DK af,Fe,E];refine QD rfl (k _ _ (((l.bf _).kill af).bf _) (.inr ⟨(h.bf [x]).aM,0,_,cs++[x],rfl,.inl rfl,by simp[cg.bf,cg.kill],?_,by simp[u],by simp[cg.bf];omega,by simp[cg.bf,cg.kill]⟩));rw[EC,YS (by simp[u])]
  .rw[zCq,DL af,DK ⟨C,D⟩,zV G,DK af,Fe,E];simp only[EF];refine QD rfl (k _ _ ((l.bf _).bf _) (.inr ⟨(h.bf [x]).aM,0,_,cs++[x],rfl,.inl rfl,by simp[cg.bf],?_,by simp[u],by simp[cg.bf];omega,by simp[cg.bf]⟩));rw[EC,YS (by simp[u])]
def zPz{w:Bool}{a:AV}{m:Nat}{rows:List PV}(E:(Lu rows)=m)(D:hZ 0 rows)(G:m<=1048576)(C:rows=[]->K (Ln) σ)(u:∀cap,full 1 cap m->K (.sl σ.aM 0 m cap) (σ.bf rows)):
  zA Li 139 [.fz w a m rows] σ K:=by
 refine zA.nil0 λA=>zA.gh ?_;refine Lg Tryz.func139 ?_;refine Lk ?_;cases hn:ZX a
 .refine Lk ?_;refine eA.cat (bytes:=24) (σb:=σ) (n:=0) (cs:=[]) (zC σ _) (eA.bf _ 1 rfl (na _)) E af af λH h' l h=>?_;simp only[Z3,seval,-ae]at h ⊢;exact h.out l (D.up (YV _)) u
 .refine Lk ?_;exact Gh.ret (C (A hn).2)
def zKl{w:Bool}{a:AV}{m:Nat}{rows:List PV}(u:(Lu rows)=m)(A:hZ 0 rows)(D:m<=1048576)(l:∀v h',cT σ h'->PQ σ.aM h' v m rows->K v h'):
  zA Li 139 [.fz w a m rows] σ K:=
 zPz u A D (λh=>l _ _ (cT.refl _) (.inl ⟨rfl,by rw[<-u,h];rfl,h⟩)) λcap C=>l _ _ (zC _ _) (.of (.inr (eA.own C (by simp[cg.bf]) af (na _) (by simp[cg.bf]))))
def zKn{l:Nat}{w:Bool}{av:AV}{k:Int}{a:V1}(hs:jE σ s p vP vB)(C:jj vP W)(o:eT p n W)(h:El p n a)(E:l=Lu a)(G:-1000000000<=k/\k<=1000000000)(H:0<n)
  (D:∀o cap,K (.fz DF (.sl o 0 n cap) n (cS (ed p W k a))) σ):zA Li 100 [.ptr s 0,.int .i64 k,.fz w av l (cS a)] σ K:=by
 have hlen:=(zK o h h (k:=k) (m:=0)).1;refine zA.gh (zCo hs C o h E G ⟨λA=>?_,λcap u=>?_⟩)
 .exact absurd hlen (by rw[A];simp;omega)
 .rw[hlen]at u ⊢;exact Gh.finF (zC σ _) (by simp[cg.bf]) (na _) (zL _ _) u.ok λo=>D o cap
def jE.cf{h:cg}(hs:jE σ s p vP vB)(l:cT σ h):jE h s p vP vB:=⟨by rw[l.bt s hs.lt];exact hs.bt,Yw hs.lt l.aM⟩
def BRow(n:Nat)(u:V2)(d:Nat)(v:PV):Prop:=
 (v=Ln/\∀y∈u,cX y≠d)\/∃o cap y,v=.fz DF (.sl o 0 n cap) n (cS y)/\y∈u/\cX y=d
def BRows(n:Nat)(u:V2)(l:List PV):Prop:=(Lu l)=n/\∀d (h:d<Lu l),BRow n u d l[d]
def BRows.take{u:V2}{D:List PV}{o d:Nat}{cap:jZ}{y:V1}(h:BRows n u D)(hd:d<n)(H:cX y=d):BRows n (po u y) (D.set d (.fz DF (.sl o 0 n cap) n (cS y))):=by
 refine⟨by rw[YA];exact h.1,λe C=>?_⟩;rw[YA]at C;rw[List.getElem_set];by_cases x:d=e
 .subst x;rw[DK rfl];exact .inr ⟨o,cap,y,rfl,ZL.2 (.inl rfl),H⟩
 .rw[DL x];rcases h.2 e C with ⟨l,A⟩|⟨I,E,J,l,A,G⟩
  .exact .inl ⟨l,λv hv=>by
    rcases ZL.1 hv with rfl|hv
    .omega
    .exact A v hv⟩
  .exact .inr ⟨I,E,J,l,ZL.2 (.inr A),G⟩
def Fp_le{u:V2}{k:Nat}(l:Asc u):(∃y∈u,cX y=k)->∃y∈u,cX y=k/\Fp u k=y::Fp u (k+1):=by
 induction u with
 |nil=>rintro⟨y,hy,_⟩;cases hy
 |cons v t ih=>
  have h:∀w∈t,cX v<cX w:=λw hw=>List.rel_of_pairwise_cons l hw;have A:Asc t:=(List.pairwise_cons.1 l).2
  rintro⟨y,hy,rfl⟩
  rcases YH.1 hy with rfl|hy
  .refine⟨y,aK,rfl,?_⟩;have C:Fp t (cX y)=t:=zEt λw hw=>Y8 (h w hw);have D:Fp t (cX y+1)=t:=zEt λw hw=>h w hw;rw[Fp,J2,DK aK];rw[show(List.filter (λv=>decide (cX y<=cX v)) t)=t from C];rw[Fp,J2,DL aK];rw[show(List.filter (λv=>decide (cX y+1<=cX v)) t)=t from D]
  .obtain⟨I,E,G,H⟩:=ih A ⟨y,hy,rfl⟩
   have:=h y hy
   refine⟨I,Yt _ E,G,?_⟩;rw[Fp,J2,DL (by simp;omega)];rw[Fp,J2,DL (by simp;omega)];exact H
def zSZ{u:V2}{k:Nat}(h:∀y∈u,cX y≠k):Fp u k=Fp u (k+1):=List.filter_congr λv l=>by
 have:=h v l
 simp only[decide_eq_decide];omega
def zMY:∀{u:V2} {k:Nat},mb p n W u->mb p n W (Fp u k)
 |[],k,h=>h
 |v::t,k,h=>by
  by_cases x:k<=cX v
  .have e:Fp (v::t) k=v::t:=zEt λw hw=>by
    rcases YH.1 hw with rfl|hw
    .exact x
    .have:=List.rel_of_pairwise_cons h.asc hw
     omega
   rw[e];exact h
  .rw[Fp,J2,DL (by simpa using x)];cases h with
   |cons _ _ _ h4=>exact zMY (by assumption)
def _root_.Go.Lie.mb.fp'{u:V2}{k:Nat}(h:mb p n W u):mb p n W (Fp u k):=zMY h
def zNG{I:V2}(hs:jE σ s p vP vB)(hP:jj vP W)(o:eT p n W)(hp:jF p)(hL:jj vL I)(he:yx p n I)(pL:(Lu I)<=1048576)(hk:∀v out,Canon p n W I out->jj v out->K v σ):
  zA Li 71 [.ptr s 0,vL] σ K:=by
 have aX:=o.le;have gA:=hp.bd;have xd:-1000000000<=p/\p<=1000000000:=af
 have sL:=o.len;obtain⟨wl,al,rl,rfl,bp⟩:=hL;have Y:=hP;obtain⟨wp,ap,rp,rfl,lT⟩:=hP;have dZ:=hs.lt;have AU:σ.dR s 1=Dc (.fz wp ap (Lu W) rp):=by rw[zH hs.bt];rfl
 refine zA.gh ?_;refine qH mix Tryz.func71 ?_;simp only[Z3,seval,-ae,AU,sL,mk24 (n:=n) af,tn (n:=n) af];have j9:∀{u Q:V2},lg p n W I u Q->(∀v∈u,El p n v/\cX v<n)/\Lu u<=n:=λg=>⟨λv E=>⟨(g.led v E).1,(g.led v E).2.1⟩,zAt (λv E=>(g.led v E).2.1) g.asc⟩
 refine zKl bp.1 (bp.bI 0) pL λX h1 k1 q1=>?_;refine Lk ?_;refine zF (λm vs h'=>∃u Q X l rq,m=2*(n-Lu u)+Lu Q/\vs=[.ptr s 0,.sl σ.aM 0 n (.b6 n),X]/\cT (σ.bf l) h'/\PQ (σ.aM+1) h' X (Lu Q) rq/\dd FI rq Q/\lg p n W I u Q/\BRows n u l/\Lu Q<=Lu I) (2*n+Lu I) ?_ ?_
 .refine⟨[],I,X,_,rl,rfl,rfl,k1,q1,bp,lg.start he,⟨aK,λd hd=>.inl ⟨aK,λy A=>by cases A⟩⟩,na _⟩
 rintro m vs h' ⟨u,Q,X,l,rq,rfl,rfl,Z,hq,px,C,N,RI⟩
 have ez:cT σ h':=Z.of;have cu:=hs.cf ez;have ga:h'.dR s 0=Dc (.int .i64 p):=by rw[zH cu.bt];rfl
 have fg:h'.bt σ.aM=Dc l:=by rw[Z.bt _ (by simp[cg.bf])];simp[cg.bf]
 cases Q with
 |nil=>
  have hlen:mo X=Dc (.int .i64 0):=hq.mo;have hw:Lp .i64 ((n:Int)-1)=(n:Int)-1:=WE;have iE:=C.base;have NM:Fp u n=[]:=List.filter_eq_nil_iff.2 λv E=>by have:=((j9 C).1 v E).2;simp;omega
  simp only[Z3,seval,-ae,hlen,hw];refine Zg (λm vs M=>∃(k:Nat) (vO:PV),k<=n/\m=k/\vs=[.ptr s 0,.sl σ.aM 0 n (.b6 n),vO,.int .i64 ((k:Int)-1)]/\cT (σ.bf l) M/\jj vO (Be p W (Fp u k))) n (.here ⟨n,_,na _,rfl,rfl,Z,by rw[NM];exact⟨_,_,_,rfl,dd.nil _⟩⟩) ?_
  rintro m vs M ⟨k,vO,bM,rfl,rfl,S,T⟩
  have As:cT σ M:=S.of;have ja:=hs.cf As;have mO:M.bt σ.aM=Dc l:=by rw[S.bt _ (by simp[cg.bf])];simp[cg.bf]
  rcases F4 m with rfl|Ai
  .simp only[Z3,seval,-ae,show ¬((0:Int)<=((0:Nat):Int)-1) by omega];have NN:Fp u 0=u:=zEt λv E=>YV _;rw[NN]at T;exact Gh.fin0 As (T.bel _) (hk vO _ (C.done (zFA o iE).1) T)
  .obtain⟨k,rfl⟩:∃k,m=k+1:=⟨m-1,af⟩
   have e:((k+1:Nat):Int)-1=(k:Int):=af
   have gQ:k<n:=bM;have fO:k<Lu l:=by rw[N.1];exact gQ
   have O:=zH mO k;rw[YQ fO]at O;have kK:=iE.fp' (k:=k+1);rw[e];have kQ:Lp .i64 ((k:Int)-1)=(k:Int)-1:=WE;rcases N.2 k fO with ⟨P,J⟩|⟨oo,cap,y,P,J,e3⟩
   .rw[P]at O;simp only[Z3,seval,-ae,gQ,O,kQ];refine⟨_,YM k,.here ⟨k,vO,af,rfl,rfl,S,?_⟩⟩;rw[zSZ J];exact T
   .rw[P]at O;obtain⟨y',y1,y2,y3⟩:=Fp_le C.asc ⟨y,J,e3⟩;obtain rfl:y'=y:=by
     rcases zCC C.asc y1 J with x|x|x
     .exact x
     .omega
     .omega
    simp only[Z3,seval,-ae,gQ,O,kQ];have hF:=(zFA o kK).1;have CV:(Be p W (Fp u (k+1))).length<=n:=zAt (λv E=>(hF.base.led v E).2.1) hF.base.asc;have A:=((j9 C).1 y' J).1;refine zI9 ja Y o T (λv E=>⟨(hF.base.led v E).1,(hF.base.led v E).2.1⟩) af A A.1.symm λV=>?_;have bp:=(Qk o (u:=Be p W (Fp u (k+1))) (λv E=>(hF.base.led v E).1) A).1;have pX:Be p W (Fp u k)=iW p W (Be p W (Fp u (k+1))) y'::Be p W (Fp u (k+1)):=by rw[y3];rfl
    generalize Be p W (Fp u (k+1))=L at *
    generalize iW p W L y'=z at *
    obtain⟨wO,aO,rO,rfl,yV⟩:=T;refine Lk ?_;refine eA.cat (bytes:=24) (σb:=M) (n:=1) (cs:=[.fz DF V n (cS z)]) (zC M _) (eA.bf _ 1 rfl (na _)) yV.1 af af λv3 h3 k3 a3=>?_;obtain⟨s3,iV,rfl,nN,oJ,CE,uV,bN⟩:=a3;have ai:dd FI ([.fz DF V n (cS z)]++rO) (z::L):=(dd.nil FI |>.snoc (⟨DF,V,by rw[bp]⟩:FI (.fz DF V n (cS z)) z)).append yV;have an:σ.aM≠s3:=by
     have:=S.aM
     simp only[cg.bf]at this;omega
    simp only[Z3,seval,-ae,kQ];refine⟨k,YM k,.fz s3 _ oJ (ai.bI 0) λo1=>.here ⟨k,.fz DF (.sl o1 0 (1+Lu L) iV) (1+Lu L) ([.fz DF V n (cS z)]++rO),af,rfl,?_,(S.trans k3).kill (by have:=S.aM;simp only[cg.bf]at this ⊢;omega),by rw[pX];exact⟨DF,_,_,by rw[Yu,Ue],ai⟩⟩⟩;refine Lk ?_;simp only[kq,sb,an,nN.ok,false_and,and_self,if_true,if_false]
 |cons x Q=>
  have hlen:=hq.mo;obtain⟨c,R,rfl,hc,mH⟩:∃c R,rq=c::R/\FI c x/\dd FI R Q:=by
   cases rq with
   |nil=>exact absurd px.1 aK
   |cons c R=>exact⟨c,R,rfl,px.2 0 c x rfl rfl,⟨by simpa using px.1,λk a b ha N=>px.2 (k+1) a b (by simpa using ha) (by simpa using N)⟩⟩
  obtain⟨sq,off,cap,fE,rfl,O,aL,mG,aT⟩:=hq.uncons;obtain⟨w4,a4,rfl⟩:=hc;generalize fO:(x::Q).length=k at *
  have IE:(Lu Q)=k-1:=by rw[<-fO];simp
  have kx:(0:Int)<(k:Int):=af
  have H:=C.els x aK;simp only[Z3,seval,-ae,hlen,kx,aL,O,mG];refine zAp rfl (by rw[H.1];omega) ?_;refine Lk ?_;refine zF (λm vs M=>∃x wX vX,m=n-cX x/\vs=[.ptr s 0,.sl σ.aM 0 n (.b6 n),fE,.fz wX vX n (cS x),.int .i64 (cX x)]/\h'=M/\lg p n W I u (x::Q)) (n-cX x) ?_ ?_
  .exact⟨x,_,_,rfl,by rw[H.1];rfl,rfl,C⟩
  clear C H hlen fO
  rintro m vs M ⟨x,wX,vX,rfl,rfl,rfl,C⟩
  have H:=C.els x aK;have bj:=H.1;have AG:=Qg x;by_cases hd:cX x<n
  .have gZ:cX x<Lu x:=af
   have Et:=H.at0 o (cX x);have an:=ZJ gZ;rw[dp gZ]at Et an;have uW:cX x<Lu l:=by rw[N.1];exact hd
   have U:=zH fg (cX x);rw[YQ uW]at U;rcases N.2 _ uW with ⟨P,J⟩|⟨oo,bn,y,P,J,e3⟩
   .rw[P]at U;have fS:((cX x:Int)=(n:Int))=False:=by simp;omega
    simp only[Z3,seval,-ae,hd,U,fS,ga,zN,gi gZ];refine zDx hp af λq qb uq sy mL=>?_;simp only[Z3,seval,-ae,hd,U,ga,zN,gi gZ];refine zKn cu Y o H bj.symm af af λG D=>?_;have hT:lg p n W I (po u (ed p W q x)) (ed p W p (ed p W q x)::Q):=C.take o hd J (k:=q) (by rw[dp gZ];exact mL);obtain⟨y1,y2⟩:Led p n (ed p W q x)/\cX (ed p W q x)=cX x:=⟨(zCS o H hd (k:=q) (by rw[dp gZ];exact mL)).1,(zCS o H hd (k:=q) (by rw[dp gZ];exact mL)).2.1⟩
    have gF:=N.take (o:=G) (cap:=D) hd y2;generalize ed p W q x=y at *
    have A:=y1.1;have oH:h'.wr σ.aM (cX x) [.fz DF (.sl G 0 n D) n (cS y)]=Dc (h'.set σ.aM (l.set (cX x) (.fz DF (.sl G 0 n D) n (cS y)))):=by
     rw[zR fg,DK ⟨by rw[Yb];omega,rfl⟩];rw[Yv,US,Yb,take_set _ uW]
    have xh:cT (σ.bf (l.set (cX x) (.fz DF (.sl G 0 n D) n (cS y)))) (h'.set σ.aM (l.set (cX x) (.fz DF (.sl G 0 n D) n (cS y)))):=Z.setN _;have EY:=aT.set (YM _) (l.set (cX x) (.fz DF (.sl G 0 n D) n (cS y)));have iI:(h'.set σ.aM (l.set (cX x) (.fz DF (.sl G 0 n D) n (cS y)))).dR σ.aM (cX x)=Dc (.fz DF (.sl G 0 n D) n (cS y)):=by
     rw[zH (by rw[zG,DK rfl]),JS uW]
    have HU:=cu.set af (l.set (cX x) (.fz DF (.sl G 0 n D) n (cS y))) (t:=σ.aM);have uw:(h'.set σ.aM (l.set (cX x) (.fz DF (.sl G 0 n D) n (cS y)))).dR s 0=Dc (.int .i64 p):=by rw[zH HU.bt];rfl
    have di:(l.set (cX x) (.fz DF (.sl G 0 n D) n (cS y)))[cX x]? = Dc (.fz DF (.sl G 0 n D) n (cS y)):=JS uW;simp only[Z3,seval,-ae,hd,oH,Ev dZ,ga,di];generalize h'.set σ.aM (l.set (cX x) (.fz DF (.sl G 0 n D) n (cS y)))=h3 at *
    generalize l.set (cX x) (.fz DF (.sl G 0 n D) n (cS y))=fa at *
    refine Qj HU Y o A A.1.symm af λv2=>?_;have hz:El p n (ed p W p y):=(ZT o A p).1;generalize ed p W p y=z at *
    refine Lk ?_;refine PQ.push (bytes:=24) (σb:=σ.bf fa) xh EY af af λv4 h4 k4 q4=>?_;refine Lk ?_;have dT:=(j9 hT).2;rw[Z8]at dT;refine⟨_,?_,po u y,Q++[z],v4,fa,R++[.fz DF v2 n (cS z)],rfl,rfl,k4,?_,mH.append (dd.nil FI |>.snoc ⟨DF,v2,by rw[hz.1]⟩),hT.perm λv=>by simp[or_comm],gF,by rw[YB,Yb];omega⟩
    .rw[Z8,YB,Yb];omega
    .rw[YB,Yb,IE];exact q4
   .rw[P]at U;have A:=((j9 C).1 y J).1;have dj:Lp .i64 (0-x[cX x])=-x[cX x]:=WQ
    simp only[Z3,seval,-ae,hd,U,zN,gi gZ,dj];refine Qj cu Y o A A.1.symm af λV=>?_;refine Lk ?_;refine zAZ cu Y o H (zK o A A) bj.symm (zK o A A).1.symm λv2=>?_;obtain⟨g2,g3⟩:=C.reduce1 o J e3;have fZ:j3 p W x (ed p W (-x[cX x]) y)=tE p W x y:=by rw[zMb o H A,tE,e3,dp gZ]
    have hz:=g2.els _ (UH ..);rw[fZ];refine Lk ?_;refine zAp hz.1.symm (by rw[hz.1];omega) ?_;refine Lk ?_;exact⟨_,af,_,_,_,rfl,rfl,g2⟩
  .have fS:cX x=n:=af
   simp only[Z3,seval,-ae,fS,Uh];refine⟨_,?_,u,Q,fE,l,R,rfl,rfl,Z,by rw[IE];exact aT,mH,C.drop λj=>?_,N,af⟩
   .omega
   .rcases YG j n with h|h
    .exact zn af
    .exact H.beyond h
variable{vV:PV}
def jg(n:Nat):V2:=(DO n).map (cD n)
def ZA:(jg n).length=n:=by simp[jg]
def zN1{i:Nat}(h:i<n):(jg n)[i]? = Dc (cD n i):=by simp[jg,h]
def zCQ(l:te p):yx p n (jg n):=λv u=>by
 obtain⟨i,h,rfl⟩:=YI.1 u;exact zQ l (UC.1 h)
def zGR{i:Nat}(h:i<n):(jg n).take (i+1)=(jg n).take i++[cD n i]:=by
 have l:i<(jg n).length:=by rw[ZA];exact h
 have e:=zN1 h;rw[YQ l]at e;rw[YN l,Option.some.inj e]
def rj(p:Int)(W:V2)(B:V3)(n:Nat)(u v:V2):V2:=u.flatMap λx=>v.map λy=>br p W B n x y
def zBn(u v:V2):(rj p W B n u v).length=Lu u*Lu v:=by
 induction u with
 |nil=>simp[rj]
 |cons x u ih=>
  have:(rj p W B n (x::u) v)=v.map (λy=>br p W B n x y)++rj p W B n u v:=rfl
  rw[this,YB,YF,ih,Yu,FF,Nat.one_mul,Ue]
def zKW(u v:V2)(x:V1):rj p W B n (u++[x]) v=rj p W B n u v++v.map λy=>br p W B n x y:=by
 simp[rj,List.flatMap_append]
def zDO(o:eT p n W)(q:lS p n B)(u v:V2):yx p n (rj p W B n u v):=λz l=>by
 obtain⟨x,A,h⟩:=UD.1 l;obtain⟨y,C,rfl⟩:=YI.1 h;exact ey o q
def zFP(hs:jE σ s p vP vB)(M:jj vP W)(E:(Lu W)=n)(O:n<=1048576)(N:∀v,jj v (jg n)->K v σ):zA Li 122 [.ptr s 0] σ K:=by
 obtain⟨wp,A,D,rfl,U⟩:=M;have G:σ.dR s 1=Dc (.fz wp A (Lu W) D):=by rw[zH hs.bt];rfl
 refine Lh Tryz.func122 ?_;simp only[Z3,seval,-ae,G,E];refine zF (λm vs h'=>∃(i:Nat) (v:PV) (rows:List PV),i<=n/\m=n-i/\vs=[.ptr s 0,v,.int .i64 n,.int .i64 i]/\cT σ h'/\ei σ.aM 1 h' v i rows/\dd FI rows ((jg n).take i)) n ?_ ?_
 .exact⟨0,_,[],af,af,rfl,cT.refl σ,ei.nil _ _ _,by rw[UT];exact dd.nil _⟩
 rintro m vs h' ⟨i,v,rows,T,rfl,rfl,u,C,h⟩
 refine Lk ?_;have L:=hs.cf u;have H:h'.dR s 1=Dc (.fz wp A (Lu W) D):=by rw[zH L.bt];rfl
 refine de (λl=>?_) λR=>?_
 .simp only[Z3,seval,-ae,H,E];refine zm O l λI=>?_;refine Lk ?_;refine ei.push (bytes:=24) u C af af λQ S P J=>?_;simp only[Z3,seval,-ae,WX l];refine⟨_,af,i+1,Q,_,af,rfl,rfl,P,J.acc,?_⟩;rw[zGR l];exact h.snoc ⟨DF,I,by rw[zU]⟩
 .have aU:i=n:=af
  subst aU;rw[YS (by rw[ZA];exact na _)]at h;exact C.fin u (h.bI 0) λa=>N _ ⟨DF,a,rows,by rw[ZA],h⟩
def zKV{u v:V2}(hs:jE σ s p vP vB)(U:lx vP vB W B)(o:eT p n W)(q:lS p n B)(V:jj vU u)(X:jj vV v)(S:yx p n u)(ev:yx p n v)(dT:(Lu u)<=6)(iq:(Lu v)<=12)
  (Z:∀z,jj z (rj p W B n u v)->K z σ):zA Li 124 [.ptr s 0,vU,vV] σ K:=by
 obtain⟨N,I,M,rfl,jb⟩:=V;obtain⟨G,av,E,rfl,T⟩:=X;have bnd:∀(i j:Nat),i<Lu u->j<=Lu v->(rj p W B n (u.take i) v++(v.take j).map λy=>br p W B n (u.getD i []) y).length<=84:=λi j Y L=>by
  rw[YB,zBn,YF,Yh,Yh]
  have:min i (Lu u)*Lu v<=6*12:=Kq af iq
  omega
 refine Lh Tryz.func124 ?_;refine Lk ?_;refine zF (λm vs h'=>∃(i:Nat) (z:PV) (rows:List PV),i<=Lu u/\m=Lu u-i/\vs=[.ptr s 0,.fz G av (Lu v) E,z,.fz N I (Lu u) M,.int .i64 (Lu u),.int .i64 i]/\cT σ h'/\ei σ.aM 1 h' z (rj p W B n (u.take i) v).length rows/\dd FI rows (rj p W B n (u.take i) v)) (Lu u) ?_ ?_
 .exact⟨0,_,[],af,af,rfl,cT.refl σ,ei.nil _ _ _,by rw[UT];exact dd.nil _⟩
 rintro m vs h' ⟨i,z,rows,Y,rfl,rfl,C,l,h⟩
 refine Lk ?_;refine de (λA=>?_) λaG=>?_
 .obtain⟨w4,Q,hr⟩:=jb.rowI A;have R:=S _ (YZ A);have J:u.getD i []=u[i]:=by simp[YW,A]
  simp only[Z3,seval,-ae,A,hr];refine zF (λm vs h'=>∃(j:Nat) (z:PV) (rows:List PV),j<=Lu v/\m=Lu v-j/\vs=[.ptr s 0,.fz G av (Lu v) E,z,.fz w4 Q u[i].length (cS u[i]),.fz N I (Lu u) M,.int .i64 (Lu u),.int .i64 i,.fz G av (Lu v) E,.int .i64 (Lu v),.int .i64 j]/\cT σ h'/\
   ei σ.aM 1 h' z (rj p W B n (u.take i) v++(v.take j).map λy=>br p W B n (u.getD i []) y).length rows/\dd FI rows (rj p W B n (u.take i) v++(v.take j).map λy=>br p W B n (u.getD i []) y)) (Lu v) ?_ ?_
  .exact⟨0,z,rows,af,af,rfl,C,by simpa using l,by simpa using h⟩
  clear C l h z rows
  rintro m vs h' ⟨j,z,rows,L,rfl,rfl,C,l,h⟩
  refine Lk ?_;refine de (λD=>?_) λMD=>?_
  .obtain⟨w5,a5,py⟩:=T.rowI D;have O:=ev _ (YZ D);simp only[Z3,seval,-ae,D,py];refine qm (hs.cf C) U o q R O rfl rfl λH=>?_;have hb:=bnd i j A L;refine Lk ?_;refine ei.push (bytes:=24) C l af af λv' h2 k2 P=>?_;simp only[Z3,seval,-ae,WX D];have e:(rj p W B n (u.take i) v++(v.take (j+1)).map λy=>br p W B n (u.getD i []) y)=(rj p W B n (u.take i) v++(v.take j).map λy=>br p W B n (u.getD i []) y)++[br p W B n u[i] v[j]]:=by
    rw[YN D,Yx,Yv,J];rfl
   refine⟨_,af,j+1,v',rows++[.fz DF H n (cS (br p W B n u[i] v[j]))],af,rfl,rfl,k2,?_,?_⟩
   .rw[e,YB];exact P.acc
   .rw[e];exact h.snoc ⟨DF,H,by rw[(ey o q).1]⟩
  .have fI:j=Lu v:=af
   subst fI;have e:(rj p W B n (u.take i) v++(v.take (Lu v)).map λy=>br p W B n (u.getD i []) y)=rj p W B n (u.take (i+1)) v:=by
    rw[Yf,YN A,zKW,J]
   rw[e]at l h;simp only[Z3,seval,-ae,WX A];exact⟨_,af,i+1,z,rows,af,rfl,rfl,C,l,h⟩
 .have aU:i=Lu u:=af
  subst aU;rw[Yf]at l h;exact l.fin C (h.bI 0) λa=>Z _ ⟨DF,a,rows,rfl,h⟩
def zLl{u v:V2}(hs:jE σ s p vP vB)(A:lx vP vB W B)(o:eT p n W)(q:lS p n B)(C:jj vU u)(D:jj vV v)(l:yx p n u)(ev:yx p n v)(h:(Lu u)<=6)(G:(Lu v)<=6)
  (E:∀z,jj z (rj p W B n u v)->K z σ):zA Li 124 [.ptr s 0,vU,vV] σ K:=zKV hs A o q C D l ev h af E
def zFb(A:lx vP vB W B)(L:(Lu W)=n)(U:n<=1048576)(T:∀v,jj v (jg n)->K v σ):zA Li 136 [.agg [.int .i64 p,vP,vB]] σ K:=by
 have R:=A.P.one;have G:=A.B.one;have M:=A;obtain⟨⟨wp,h,l,rfl,lT⟩,hB⟩:=A;refine Lh Tryz.func136 ?_;simp only[Z3,seval,-ae,R,G];generalize E:σ.bf [.int .i64 p,.fz wp h (Lu W) l,vB]=H;have Q:H.aM=σ.aM+1:=by rw[<-E];simp only[Z3,seval,-ae]
 have Y:cT σ H:=by rw[<-E];exact zC σ _
 have X:H.bt σ.aM=Dc [.int .i64 p,.fz wp h (Lu W) l,vB]:=by rw[<-E];simp only[Z3,seval,-ae]
 refine zF (λm vs h'=>∃(i:Nat) (v:PV) (rows:List PV),i<=n/\m=n-i/\vs=[.ptr σ.aM 0,v,.int .i64 i]/\cT H h'/\eA H.aM 1 h' v i rows/\dd FI rows ((jg n).take i)) n ?_ ?_
 .refine⟨0,_,[],af,af,rfl,zC H _,?_,by rw[UT];exact dd.nil _⟩;rw[<-Q];exact eA.bf H.aM 1 rfl (na _)
 rintro m vs h' ⟨i,v,rows,hi,rfl,rfl,D,I,u⟩
 have J:h'.bt σ.aM=Dc [.int .i64 p,.fz wp h (Lu W) l,vB]:=by rw[D.bt _ af];exact X
 have P:h'.dR σ.aM 1=Dc (.fz wp h (Lu W) l):=by rw[zH J];rfl
 have pz:h'.rd σ.aM 0 3=Dc [.int .i64 p,.fz wp h (Lu W) l,vB]:=by rw[zV J];rfl
 simp only[Z3,seval,-ae,P,L];refine de (λC=>?_) λaG=>?_
 .simp only[Z3,seval,-ae,pz];refine qf M L U C λN=>?_;refine Lk ?_;refine eA.push (bytes:=24) D I af af λv' G V O=>?_;simp only[Z3,seval,-ae,WX C];refine⟨_,af,i+1,v',_,af,rfl,rfl,V,O,?_⟩;rw[zGR C];exact u.snoc ⟨DF,N,by rw[zU]⟩
 .have aU:i=n:=af
  subst aU;rw[YS (by rw[ZA];exact na _)]at u;obtain⟨s',cap,rfl,S,q2,q3,q4,q5⟩:=I;exact Gh.finF (Y.trans D) q2 af (u.bI 0) S.ok λZ=>T _ ⟨DF,.sl Z 0 i cap,rows,by rw[ZA],u⟩
def zR2{b:Nat}{u:V2}(l:σ.dR b 0=Dc (.ptr s 0))(hs:jE σ s p vP vB)(h:lx vP vB W B)(o:eT p n W)(q:lS p n B)(N:jF p)(D:jj vU u)(J:yx p n u)(C:(Lu u)<=6)
  (M:∀v out,Canon p n W (rj p W B n u (jg n)) out->jj v out->K v σ):zA Li 123 [vU,.ptr b 0] σ K:=by
 have A:=o.le;have Q:=D;obtain⟨wu,R,V,rfl,U⟩:=D;refine Lg Tryz.func123 ?_;simp only[Z3,seval,-ae,l];refine zFP hs h.P o.len af λvV E=>?_;have P:=E;obtain⟨wv,av,X,rfl,T⟩:=E;simp only[Z3,seval,-ae,l];refine zLl hs h o q Q P J (zCQ o.pr) C (by rw[ZA];exact A) λZ G=>?_;have H:=G;obtain⟨wz,S,Y,rfl,wZ⟩:=G;have I:(rj p W B n u (jg n)).length<=1048576:=by
  rw[zBn,ZA]
  have:(Lu u)*n<=6*6:=Kq C A
  omega
 simp only[Z3,seval,-ae,l];refine zNG hs h.P o N H (zDO o q _ _) I λv out L O=>?_;refine Lk ?_;exact M v out L O
def zSV(o:eT p n W)(q:lS p n B){a b:V1}{k:Nat}(l:∀j,j<k->at_ a j=0):∀j,j<k+1->at_ (br p W B n a b) j=0:=by
 have hs:∀t,t<k+1->at_ (xk B a b n) t=0:=λt A=>by
  rw[xk,bi_at q t (na _)];refine qQ _ λi u=>qQ _ λj h=>?_;rcases YG (i+1+j) k with x|x
  .rw[Bc,l i af,l _ x,UU,UU,Int.sub_zero,UU]
  .rw[(q.get u h).2 t af,Y9]
 intro j h;rcases YG j n with x|x
 .exact zBO o (qc q) (d:=min (k+1) n) (KD _ _) (λj h=>hs j af) j af
 .exact nX (by rw[(ey o q).1];exact x)
def zDS(o:eT p n W)(q:lS p n B){u out:V2}(A:Canon p n W (rj p W B n u (jg n)) out){m:Nat}(G:∀x∈u,m<=cX x):∀y∈out,m+1<=cX y:=λy C=>by
 have l:=A.base.led y C;have D:ki p n W (rj p W B n u (jg n)) (at_ y):=(A.gen _).2 (zY C);have J:=zDf o (m:=min (m+1) n) (zDO o q _ _) (KD _ _) (λv H j E=>by
  obtain⟨x,I,h⟩:=UD.1 H;obtain⟨e,L,rfl⟩:=YI.1 h;exact zSV o q (k:=m) (λj E=>zn (by have:=G x I;omega)) j af) l.1 D
 have hd:=zAJ (v:=y) (d:=min (m+1) n) (by rw[l.1.1];exact KD _ _) J
 have:=l.2.1
 omega
def zP8(o:eT p n W)(q:lS p n B){u:V2}(l:Canon p n W (rj p W B n u (jg n)) u):u=[]:=by
 have h:∀m:Nat,∀x∈u,m<=cX x:=λm=>by
  induction m with
  |zero=>exactλx D=>YV _
  |succ m ih=>exact zDS o q l ih
 cases u with
 |nil=>rfl
 |cons x t=>
  have A:=h n x aK;have C:=(l.base.led x aK).2.1;omega
def zR1(o:eT p n W)(q:lS p n B){out:V2}(h:Canon p n W (rj p W B n [] (jg n)) out):out=[]:=by
 cases out with
 |nil=>rfl
 |cons y t=>
  have u:=zDS o q h (m:=n) (λx l=>by cases l) y aK;have A:=(h.base.led y aK).2.1;omega
inductive wV(p:Int)(n:Nat)(W:V2)(B:V3):Nat->V2->Prop where
 |zero:wV p n W B 0 (jg n)
 |succ {k:Nat} {u out:V2} (h:wV p n W B k u) (hc:Canon p n W (rj p W B n u (jg n)) out):wV p n W B (k+1) out
def wV.unique(o:eT p n W):∀{k:Nat} {u v:V2},wV p n W B k u->wV p n W B k v->u=v
 |_,_,_,.zero,.zero=>rfl
 |_,_,_,.succ h hc,.succ h' lA=>by
  have:=wV.unique o h h'
  subst this;exact hc.unique o lA
def wV.els(o:eT p n W):∀{k:Nat} {u:V2},wV p n W B k u->yx p n u/\Lu u<=n
 |_,_,.zero=>⟨zCQ o.pr,by rw[ZA];exact na _⟩
 |_,_,.succ _ hc=>⟨hc.base.els,zAt (λv h=>(hc.base.led v h).2.1) hc.base.asc⟩
def wV.cX(o:eT p n W)(q:lS p n B):∀{k:Nat} {u:V2},wV p n W B k u->∀x∈u,k<=Go.Lie.cX x
 |_,_,.zero=>λx l=>YV _
 |_,_,.succ h hc=>zDS o q hc (wV.cX o q h)
def wV.le(o:eT p n W)(q:lS p n B){k:Nat}{u:V2}(h:wV p n W B k u)(l:u≠[]):k<=n:=by
 cases u with
 |nil=>exact absurd rfl l
 |cons x t=>
  have A:=h.cX o q x aK;have C:=Qg x;have D:=((h.els o).1 x aK).1;omega
def Cls(p:Int)(n:Nat)(W:V2)(B:V3)(c:Nat):Prop:=wV p n W B c []/\∀k u,k<c->wV p n W B k u->u≠[]
def Cls.unique{c d:Nat}(h:Cls p n W B c)(g:Cls p n W B d):c=d:=by
 rcases Eo c d with x|x|x
 .exact absurd rfl (g.2 c _ x h.1)
 .exact x
 .exact absurd rfl (h.2 d _ x g.1)
def zSv:okF Li 188=DF:=by kernel_rfl
def zKk{xs ys:V2}(J:jj vU xs)(L:jj vV ys)(Y:(Lu xs)<=1048576)(H:∀x∈xs,(Lu x)<=1048576)(C:∀t:Bool,(t=DF↔xs=ys)->K (.bool t) σ):
  zA Li 208 [vU,vV,.clo 188 [] []] σ K:=by
 have E:=@Lm
 obtain⟨R,G,P,rfl,N⟩:=J;obtain⟨S,av,Q,rfl,I⟩:=L;refine Lg Tryz.func208 ?_;by_cases D:(Lu xs)=Lu ys
 .simp only[Z3,seval,-ae,D];refine zF (λm vs h'=>∃i:Nat,i<=Lu ys/\m=Lu ys-i/\vs=[.fz S av (Lu ys) Q,.clo 188 [] [],.fz R G (Lu ys) P,.int .i64 (Lu ys),.int .i64 i]/\σ=h'/\xs.take i=ys.take i) (Lu ys) ?_ ?_
  .exact⟨0,af,af,rfl,rfl,aK⟩
  rintro m vs h' ⟨i,X,rfl,rfl,rfl,heq⟩
  refine Lk ?_;refine de (λu=>?_) λV=>?_
  .have gM:i<Lu xs:=af
   obtain⟨Z,T,M⟩:=N.rowI gM;obtain⟨w5,U,O⟩:=I.rowI u;simp only[Z3,seval,-ae,u,M,O];refine⟨zSv,zBC rfl rfl (by have:=H _ (YZ gM);omega) ?_⟩;by_cases l:xs[i]=ys[i]
   .simp only[Z3,seval,-ae,l,WX u];exact⟨_,af,i+1,af,rfl,rfl,zTC D gM heq l⟩
   .simp only[Z3,seval,-ae,l];refine C _ (E λe=>?_);subst e;exact l rfl
  .have aU:i=Lu ys:=af
   subst aU;refine C _ ⟨λ_=>?_,λ_=>rfl⟩;rw[YS af,YS (na _)]at heq;exact heq
 .have Mg:((Lu xs:Int)=(Lu ys:Int))=False:=by simp;omega
  simp only[Z3,seval,-ae,Mg];exact C _ (E λe=>D (by rw[e]))
def zFT{xs ys:V2}(l:jj vU xs)(u:jj vV ys)(D:(Lu xs)<=1048576)(h:∀x∈xs,(Lu x)<=1048576)(A:∀t:Bool,(t=DF↔xs=ys)->K (.bool t) σ):
  zA Li 154 [vU,vV] σ K:=by
 refine Lg Tryz.func154 ?_;refine Lk ?_;refine zKk l u D h λt C=>?_;refine Lk ?_;exact A t C
def zSu:okF Li 123=DF:=by kernel_rfl
def zOA{b:Nat}(hb:σ.bt b=Dc [.ptr s 0])(jH:b<σ.aM)(hs:jE σ s p vP vB)(hR:lx vP vB W B)(o:eT p n W)(q:lS p n B)(hp:jF p)(G:jj vU (jg n))
  (hk:∀c a rows,Cls p n W B c->K (.fz DF a (c+1) rows) σ):zA Li 121 [vU,.clo 123 [] [.ptr b 0]] σ K:=by
 have aX:=o.le;have h1:=G.one;have GH:=G.cells;refine Lh Tryz.func121 ?_;simp only[Z3,seval,-ae,h1,GH];refine zF (λm vs h'=>∃k u h rows v,m=n+1-k/\k<=n+1/\vs=[.clo 123 [] [.ptr b 0],v]/\cT σ h'/\eA σ.aM 1 h' v (k+1) rows/\dd jj rows h/\Lu h=k+1/\h[k]? = Dc u/\wV p n W B k u/\∀j C,j<k->wV p n W B j C->C≠[]) (n+1) ?_ ?_
 .exact⟨0,jg n,[jg n],[vU],_,af,af,rfl,zC σ _,eA.bf _ 1 rfl (na _),dd.nil _ |>.snoc G,rfl,rfl,.zero,λj C hj=>af⟩
 rintro m vs h' ⟨k,u,h,rows,v,rfl,bM,rfl,D,ha,E,M,Z,A,S⟩
 obtain⟨V,cap,rfl,P,I,q3,U,q5⟩:=ha;have O:k<Lu h:=af
 obtain⟨vk,Cr,H⟩:=E.get O;have tU:h[k]=u:=by rw[YQ O]at Z;exact Option.some.inj Z
 rw[tU]at H;have L:h'.dR V k=Dc vk:=by rw[zH I];exact Cr
 have hw:Lp .i64 (((k+1:Nat):Int)-1)=(k:Int):=WQ
 have N:k<k+1:=YM k;obtain⟨e1,e2⟩:=A.els o;have jI:h'.dR b 0=Dc (.ptr s 0):=by rw[zH (by rw[D.bt b jH];exact hb)];rfl
 have X:=H;obtain⟨wk,ak,rk,rfl,cE⟩:=H;simp only[Z3,seval,-ae,hw,N,L];refine⟨zSu,zR2 jI (hs.cf D) hR o q hp X e1 af λvo out l J=>?_⟩;have T:=J;obtain⟨wo,ao,ro,rfl,jc⟩:=J;have lh:(Lu out)<=n:=zAt (λv hv=>(l.base.led v hv).2.1) l.base.asc;simp only[Z3,seval,-ae,hw,N,L];refine zFT T X af (λx hx=>by rw[(l.base.els x hx).1];omega) λt R=>?_;cases t
 .have an:out≠u:=λe=>by have:=R.2 e;cases this
  have Y:u≠[]:=λe=>by
   subst e;exact an (zR1 o q l)
  have gQ:=A.le o q Y;refine Lk ?_;refine eA.push (bytes:=24) (σb:=σ) D ⟨V,cap,rfl,P,I,q3,U,q5⟩ af af λv2 h2 k2 a2=>?_;refine Lk ?_;refine⟨_,?_,k+1,out,h++[out],_,v2,rfl,af,rfl,k2,a2,E.snoc T,by rw[YB,M];rfl,?_,.succ A l,λj C hj Q=>?_⟩
  .omega
  .rw[Yz af,M,Yk];rfl
  .by_cases x:j=k
   .subst x;rw[Q.unique o A];exact Y
   .exact S j C af Q
 .obtain rfl:out=u:=R.1 rfl;obtain rfl:out=[]:=zP8 o q l;refine Lk ?_;exact Gh.finF D I U (E.bL 0) P.ok λo1=>hk k _ _ ⟨A,S⟩
def zFZ(hs:jE σ s p vP vB)(l:lx vP vB W B)(o:eT p n W)(q:lS p n B)(D:jF p)(C:∀c a rows,Cls p n W B c->K (.fz DF a (c+1) rows) σ):zA Li 64 [.ptr s 0] σ K:=by
 have G:=o.le;refine Lh Tryz.func64 ?_;refine Lk ?_;have h:=hs.bf [.ptr s 0];refine zFP h l.P o.len af λvV u=>?_;have E:=u;obtain⟨J,av,I,rfl,H⟩:=u;refine Lk ?_;refine zOA (b:=σ.aM) (by simp only[Z3,seval,-ae]) (by simp only[Z3,seval,-ae]) h l o q D E λc a rows A=>?_;refine Lk ?_;exact Gh.fin0 (zC σ _) trivial (C c a rows A)
def isLz(p:Int)(n:Nat)(W:V2)(B:V3):Prop:=∃c,Cls p n W B c/\(c:Int)<p
def zO5{c:Nat}(h:Cls p n W B c):isLz p n W B↔(c:Int)<p:=⟨λ⟨d,l,u⟩=>by rw[h.unique l];exact u,λe=>⟨c,h,e⟩⟩
def zFf(hs:jE σ s p vP vB)(E:lx vP vB W B)(o:eT p n W)(q:lS p n B)(H:jF p)(G:∀t:Bool,(t=DF↔isLz p n W B)->K (.bool t) σ):zA Li 68 [.ptr s 0] σ K:=by
 have I:=o.le;have u:σ.dR s 0=Dc (.int .i64 p):=by rw[zH hs.bt];rfl
 refine Lg Tryz.func68 ?_;simp only[Z3,seval,-ae,u];refine zFZ hs E o q H λc a rows A=>?_;have J:c<=n+1:=by
  rcases YG n c with x|x
  .obtain⟨l,rfl⟩:∃l,c=l+1:=⟨c-1,af⟩
   obtain⟨C,D⟩:=A;cases C with
   |succ h dK=>exact H6 (h.le o q (D _ _ (YM _) h))
  .omega
 have hw:Lp .i64 (((c+1:Nat):Int)-1)=(c:Int):=WQ
 simp only[Z3,seval,-ae,hw];refine⟨u,G _ ?_⟩;rw[zO5 A,decide_eq_true_eq]
def isLaz(p:Int)(W:V2)(B:V3):Prop:=wq p W B/\isLz p (Lu W) W B
def zLq(u:lx vP vB W B)(sz:SzR W B)(C:∀t:Bool,(t=DF↔isLaz p W B)->K (.bool t) σ):zA Li 27 [.agg [.int .i64 p,vP,vB]] σ K:=by
 have D:=@Lm
 have E:=u.P.one;have G:=u.B.one;refine Lh Tryz.func27 ?_;simp only[Z3,seval,-ae,E,G];refine zCN u sz λt l=>?_;cases t
 .refine Lk ?_;exact Gh.fin0 (zC σ _) trivial (C _ (D λx=>absurd (l.2 x.1) aK))
 .have hl:=l.1 rfl;refine Lk ?_;refine zFf (p:=p) (vP:=vP) (vB:=vB) ⟨by simp only[Z3,seval,-ae],by simp only[Z3,seval,-ae]⟩ u hl.1.w hl.1.b hl.1.1 λt l=>?_;refine Lk ?_;exact Gh.fin0 (zC σ _) trivial (C _ ⟨λe=>⟨hl,l.1 e⟩,λx=>l.2 x.2⟩)
def zHv{u v:V2}(E:lx vP vB W B)(o:eT p n W)(q:lS p n B)(hp:jF p)(hU:jj vU u)(hV:jj vV v)(eu:yx p n u)(ev:yx p n v)(dT:(Lu u)<=6)(Q:(Lu v)<=6)
  (hk:∀z out,Canon p n W (rj p W B n u v) out->jj z out->K z σ):zA Li 250 [.agg [.int .i64 p,vP,vB],vU,vV] σ K:=by
 have h1:=E.P.one;have O:=E.B.one;obtain⟨U,M,S,rfl,jb⟩:=hU;obtain⟨V,av,T,rfl,fA⟩:=hV;have bnd:∀(i j:Nat),i<Lu u->j<=Lu v->(rj p W B n (u.take i) v++(v.take j).map λy=>br p W B n (u.getD i []) y).length<=42:=λi j hi P=>by
  rw[YB,zBn,YF,Yh,Yh]
  have:min i (Lu u)*Lu v<=6*6:=Kq af Q
  omega
 refine Lh Tryz.func250 ?_;simp only[Z3,seval,-ae,h1,O];generalize G:σ.bf [.int .i64 p,vP,vB]=H;have fq:H.aM=σ.aM+1:=by rw[<-G];simp only[Z3,seval,-ae]
 have l9:cT σ H:=by rw[<-G];exact zC σ _
 have R:H.bt σ.aM=Dc [.int .i64 p,vP,vB]:=by rw[<-G];simp only[Z3,seval,-ae]
 refine zF (λm vs h'=>∃(i:Nat) (z:PV) (rows:List PV),i<=Lu u/\m=Lu u-i/\vs=[.fz U M (Lu u) S,.fz V av (Lu v) T,.ptr σ.aM 0,z,.int .i64 i]/\cT H h'/\eA H.aM 1 h' z (rj p W B n (u.take i) v).length rows/\dd FI rows (rj p W B n (u.take i) v)) (Lu u) ?_ ?_
 .refine⟨0,_,[],af,af,rfl,zC H _,?_,by rw[UT];exact dd.nil _⟩;rw[<-fq];exact eA.bf H.aM 1 rfl (na _)
 rintro m vs h' ⟨i,z,rows,hi,rfl,rfl,l,A,h⟩
 refine Lk ?_;refine de (λC=>?_) λaG=>?_
 .obtain⟨w4,a4,hr⟩:=jb.rowI C;have cY:=eu _ (YZ C);have N:u.getD i []=u[i]:=by simp[YW,C]
  refine zF (λm vs h'=>∃(j:Nat) (z:PV) (rows:List PV),j<=Lu v/\m=Lu v-j/\vs=[.fz U M (Lu u) S,.fz V av (Lu v) T,.ptr σ.aM 0,z,.int .i64 i,.int .i64 j]/\cT H h'/\
   eA H.aM 1 h' z (rj p W B n (u.take i) v++(v.take j).map λy=>br p W B n (u.getD i []) y).length rows/\dd FI rows (rj p W B n (u.take i) v++(v.take j).map λy=>br p W B n (u.getD i []) y)) (Lu v) ?_ ?_
  .exact⟨0,z,rows,af,af,rfl,l,by simpa using A,by simpa using h⟩
  clear l A h z rows
  rintro m vs h' ⟨j,z,rows,P,rfl,rfl,l,A,h⟩
  have I:h'.bt σ.aM=Dc [.int .i64 p,vP,vB]:=by rw[l.bt _ af];exact R
  have J:h'.rd σ.aM 0 3=Dc [.int .i64 p,vP,vB]:=by rw[zV I];rfl
  refine Lk ?_;refine de (λD=>?_) λMD=>?_
  .obtain⟨w5,a5,py⟩:=fA.rowI D;have X:=ev _ (YZ D);simp only[Z3,seval,-ae,D,py,C,hr,J];refine qB E o q cY X rfl rfl λL=>?_;have hb:=bnd i j C P;refine Lk ?_;refine eA.push (bytes:=24) l A af af λv' O k2 Y=>?_;simp only[Z3,seval,-ae,WX D];have e:(rj p W B n (u.take i) v++(v.take (j+1)).map λy=>br p W B n (u.getD i []) y)=(rj p W B n (u.take i) v++(v.take j).map λy=>br p W B n (u.getD i []) y)++[br p W B n u[i] v[j]]:=by
    rw[YN D,Yx,Yv,N];rfl
   refine⟨_,af,j+1,v',rows++[.fz DF L n (cS (br p W B n u[i] v[j]))],af,rfl,rfl,k2,?_,?_⟩
   .rw[e,YB];exact Y
   .rw[e];exact h.snoc ⟨DF,L,by rw[(ey o q).1]⟩
  .have fI:j=Lu v:=af
   subst fI;have e:(rj p W B n (u.take i) v++(v.take (Lu v)).map λy=>br p W B n (u.getD i []) y)=rj p W B n (u.take (i+1)) v:=by
    rw[Yf,YN C,zKW,N]
   rw[e]at A h;simp only[Z3,seval,-ae,WX C];exact⟨_,af,i+1,z,rows,af,rfl,rfl,l,A,h⟩
 .have aU:i=Lu u:=af
  subst aU;rw[Yf]at A h;obtain⟨s',cap,rfl,hc,q2,q3,q4,q5⟩:=A;have I:h'.bt σ.aM=Dc [.int .i64 p,vP,vB]:=by rw[l.bt _ af];exact R
  have J:h'.rd σ.aM 0 3=Dc [.int .i64 p,vP,vB]:=by rw[zV I];rfl
  simp only[Z3,seval,-ae,J];refine zA.frz q2 (h.bI 0) λo1=>?_;have hl:(rj p W B n u v).length<=1048576:=by
   rw[zBn]
   have:(Lu u)*Lu v<=6*6:=Kq dT Q
   omega
  obtain⟨⟨wp,ap,rp,rfl,lT⟩,wb,Z,rb,rfl,cB⟩:=E;simp only[kq,sb,hc.ok,and_self,if_true];refine zNQ ⟨⟨wp,ap,rp,rfl,lT⟩,wb,Z,rb,rfl,cB⟩ o hp ⟨DF,_,rows,rfl,h⟩ (zDO o q _ _) hl λz out dK hz=>?_;obtain⟨wz,az,rz,rfl,wZ⟩:=hz;refine Lk ?_;exact Gh.fin0 ((l9.trans l).kill af) trivial (hk _ out dK ⟨wz,az,rz,rfl,wZ⟩)
def zLQ(l:lx vP vB W B)(o:eT p n W)(q:lS p n B)(hp:jF p)(hk:∀c a rows,Cls p n W B c->K (.fz DF a (c+1) rows) σ):zA Li 219 [.agg [.int .i64 p,vP,vB]] σ K:=by
 have aX:=o.le;have h1:=l.P.one;have N:=l.B.one;refine Lh Tryz.func219 ?_;simp only[Z3,seval,-ae,h1,N];generalize G:σ.bf [.int .i64 p,vP,vB]=H;have fq:H.aM=σ.aM+1:=by rw[<-G];simp only[Z3,seval,-ae]
 have l9:cT σ H:=by rw[<-G];exact zC σ _
 have kA:H.bt σ.aM=Dc [.int .i64 p,vP,vB]:=by rw[<-G];simp only[Z3,seval,-ae]
 refine zFb l o.len af λvV O=>?_;have U:=O;obtain⟨wv,av,rv,rfl,fA⟩:=O;refine Lk ?_;refine zF (λm vs h'=>∃k u D rows v vU,m=n+1-k/\k<=n+1/\vs=[.ptr σ.aM 0,vU,v]/\cT H h'/\eA H.aM 1 h' v (k+1) rows/\dd jj rows D/\Lu D=k+1/\jj vU u/\wV p n W B k u/\∀j A,j<k->wV p n W B j A->A≠[]) (n+1) ?_ ?_
 .refine⟨0,jg n,[jg n],[_],_,_,af,af,rfl,zC H _,eA.bf _ 1 rfl (na _),dd.nil _ |>.snoc U,rfl,U,.zero,λj A hj=>af⟩
 rintro m vs h' ⟨k,u,D,rows,v,vU,rfl,bM,rfl,E,Q,L,dT,J,h,T⟩
 have jt:h'.bt σ.aM=Dc [.int .i64 p,vP,vB]:=by rw[E.bt _ af];exact kA
 have I:h'.rd σ.aM 0 3=Dc [.int .i64 p,vP,vB]:=by rw[zV jt];rfl
 obtain⟨e1,e2⟩:=h.els o;have sN:=J;obtain⟨wk,ak,rk,rfl,cE⟩:=J;by_cases C:u=[]
 .subst C;obtain⟨s',cap,rfl,hc,q2,q3,q4,q5⟩:=Q;simp only[Z3,seval,-ae,Eg];exact Gh.finF (l9.trans E) q2 af (L.bL 0) hc.ok λo1=>hk k _ _ ⟨h,T⟩
 .have gQ:=h.le o q C;have Y:(0:Int)<(Lu u:Int):=by
   have:0<Lu u:=List.length_pos_iff.2 C
   omega
  simp only[Z3,seval,-ae,Y,I];refine zFb l o.len af λvW P=>?_;have V:=P;obtain⟨ww,aw,Px,rfl,fy⟩:=P;simp only[Z3,seval,-ae,I];refine zHv l o q hp sN V e1 (zCQ o.pr) af (by rw[ZA];omega) λz out Z S=>?_;have M:=S;obtain⟨wz,az,rz,rfl,wZ⟩:=S;simp only[Z3,seval,-ae,I];refine eA.push (bytes:=24) E Q af af λv2 N k2 X=>?_;refine Lk ?_;refine⟨_,?_,k+1,out,D++[out],_,v2,_,rfl,af,rfl,k2,X,L.snoc M,by rw[YB,dT];rfl,M,.succ h Z,λj A hj R=>?_⟩
  .omega
  .by_cases x:j=k
   .subst x;rw[R.unique o h];exact C
   .exact T j A af R
def Cls.le(o:eT p n W)(q:lS p n B){c:Nat}(C:Cls p n W B c):c<=n+1:=by
 rcases YG n c with x|x
 .obtain⟨l,rfl⟩:∃l,c=l+1:=⟨c-1,af⟩
  obtain⟨u,A⟩:=C;cases u with
  |succ h dK=>exact H6 (h.le o q (A _ _ (YM _) h))
 .omega
def zLR(h:lx vP vB W B)(o:eT p n W)(q:lS p n B)(D:jF p)(C:∀c:Nat,Cls p n W B c->K (.int .i64 c) σ):zA Li 176 [.agg [.int .i64 p,vP,vB]] σ K:=by
 have E:=o.le;have u:=h.P.one;have A:=h.B.one;refine Lh Tryz.func176 ?_;simp only[Z3,seval,-ae,u,A];refine zLQ h o q D λc a rows l=>?_;have G:=l.le o q;have hw:Lp .i64 (((c+1:Nat):Int)-1)=(c:Int):=WQ
 simp only[Z3,seval,-ae,hw];exact Gh.fin0 (zC σ _) trivial (C c l)
def zJn(h:lx vP vB W B)(o:eT p n W)(q:lS p n B)(D:jF p)(C:∀t:Bool,(t=DF↔isLz p n W B)->K (.bool t) σ):zA Li 101 [.agg [.int .i64 p,vP,vB]] σ K:=by
 have l:=h.P.one;have u:=h.B.one;refine Lh Tryz.func101 ?_;simp only[Z3,seval,-ae,l,u];refine zLR h o q D λc A=>?_;simp only[Z3,seval,-ae,l,u];refine Gh.fin0 (zC σ _) trivial (C _ ?_);rw[zO5 A,decide_eq_true_eq]
structure EucI(m a r nx x y:Int):Prop where
 cof:∃s u v:Int,(s=1\/s=-1)/\0<=u/\u<=m/\0<=v/\x=s*u/\y=-s*v/\r*v+nx*u=m
 pos:0<r/\r<=m/\0<=nx/\nx<r
 xa:∃t,x*a=r+t*m
 ya:∃t,y*a=nx+t*m
 dm:∃c d,m=c*r+d*nx
 da:∃c d,a=c*r+d*nx
def zEK{a b m:Int}(l:1<=a)(u:0<=b)(h:a*b<=m):b<=m:=by
 have:=YO l u
 omega
def EucI.start{m a:Int}(h:0<=a)(l:a<m):EucI m a m a 0 1 where
 cof:=⟨-1,0,1,.inr rfl,af,af,af,af,af,af⟩
 pos:=af
 xa:=⟨-1,af⟩
 ya:=⟨0,af⟩
 dm:=⟨1,0,af⟩
 da:=⟨0,1,af⟩
def EucI.step{m a r nx x y:Int}(h:EucI m a r nx x y)(M:nx≠0):EucI m a nx (r-r / nx*nx) y (x-r / nx*y)/\
  (-m<=x/\x<=m/\-m<=y/\y<=m/\-m<=r / nx*y/\r / nx*y<=m/\0<=r / nx/\r / nx<=m/\0<=r / nx*nx/\r / nx*nx<=m/\-m<=x-r / nx*y/\x-r / nx*y<=m):=by
 obtain⟨s,u,v,hs,N,U,l,Y,Z,X⟩:=h.cof;obtain⟨p1,p2,C,p5⟩:=h.pos;obtain⟨P,yw⟩:=h.xa;obtain⟨ty,Q⟩:=h.ya;obtain⟨E,I,S⟩:=h.dm;obtain⟨D,H,T⟩:=h.da;have A:0<=r / nx:=Int.ediv_nonneg af C;have G:=Y3 r M;have J:=Y6 r (show 0<nx by omega);have L:r % nx=r-r / nx*nx:=by have:=IQ r nx;rw[UN];omega
 generalize r / nx=q at *
 rw[L]at G J;have V:0<=q*v:=UG A l;have R:0<=q*nx:=UG A C;have k1:nx*(u+q*v)+(r-q*nx)*v=m:=by grind
 have k2:0<=(r-q*nx)*v:=UG G l;have k3:u+q*v<=m:=zEK (a:=nx) af af af;have k4:0<=nx*u:=UG C N;have O:v<=m:=zEK (a:=r) af l af;have k6:q<=m:=zEK (a:=nx) af A (by rw[UN];omega);refine⟨⟨⟨-s,v,u+q*v,af,l,O,af,by grind,by grind,af⟩,af,⟨ty,Q⟩,⟨P-q*ty,by grind⟩,⟨I+E*q,E,by grind⟩,⟨H+D*q,D,by grind⟩⟩,?_⟩;have k7:q*y=-s*(q*v):=by grind
 have k8:x-q*y=s*(u+q*v):=by grind
 rcases hs with rfl|rfl<;>omega
def zFg{a m:Int}(E:0<=a)(A:a<m)(T:m<=1000000)(G:∀(x:Int) (b:Bool),0<=x->x<m->((∃z w:Int,a*z=1+w*m)->∃t,a*x=1+t*m)->K (.tup [.int .i64 x,.bool b]) σ):zA Li 141 [.int .i64 a,.int .i64 m] σ K:=by
 refine Lg Tryz.func141 ?_;refine Lk ?_;refine zF (λk vs h'=>∃r nx x y:Int,k=nx.toNat/\vs=[.int .i64 m,.int .i64 r,.int .i64 nx,.int .i64 x,.int .i64 y]/\σ=h'/\EucI m a r nx x y) a.toNat ?_ ?_
 .exact⟨m,a,0,1,rfl,rfl,rfl,EucI.start E A⟩
 rintro k vs h' ⟨r,nx,x,y,rfl,rfl,rfl,h⟩
 obtain⟨V,X,Y,Z⟩:=h.pos;by_cases l:nx=0
 .subst l;refine Lk ?_;refine zBc af af ?_;refine Lk ?_;refine G _ _ (Y3 _ af) (Y6 _ af) λ⟨z,w,U⟩=>?_;obtain⟨I,yw⟩:=h.xa;obtain⟨D,Q,J⟩:=h.dm;obtain⟨C,P,L⟩:=h.da;have e:r*(C*z-w*D)=1:=by grind
  have S:r=1:=by
   have hd:r∣1:=⟨_,e.symm⟩
   have:=Int.le_of_dvd af hd
   omega
  have R:=IQ x m;exact⟨I-a*(x / m),by grind⟩
 .obtain⟨u,b⟩:=h.step l;have H:r.tdiv nx=r / nx:=Uq af;obtain⟨O,tB,N,M⟩:=u.pos;simp only[Z3,seval,-ae,l,H,fl (n:=r / nx) af af,fl (n:=r / nx*nx) af af,fl (n:=r / nx*y) af af,fl (n:=r-r / nx*nx) af af,fl (n:=x-r / nx*y) af af];exact⟨_,af,_,_,_,_,rfl,rfl,u⟩
def zDF:∀n:Nat,fG p n=nD p n
 |0=>rfl
 |n+1=>by rw[fG,nD,zDF n,UN]
def vh(p k:Int):Prop:=∃e t:Int,k*e=1+p*t
structure vj(p:Int)(n:Nat)(W:V2)(k:Int)(x z:V1):Prop where
 el:El p n z
 nil:mw x->z=x
 eqv:vh p k->dq p n W (λj=>k*at_ z j) (at_ x)
def zA8{k:Int}(h:vh p k)(l:0<n):∃z w:Int,k*z=1+w*nD p n:=by
 obtain⟨e,t,h⟩:=h;obtain⟨f,s,g⟩:=inv_one (p:=p) t n l;exact⟨e*f,s,by grind⟩
def vj.unique(o:eT p n W){k:Int}{x z u:V1}(H:El p n x)(h:vj p n W k x z)(h':vj p n W k x u)(hk:mw x\/vh p k):z=u:=by
 rcases hk with hk|hk
 .rw[h.nil hk,h'.nil hk]
 .rcases F4 n with hn|hn
  .have e1:=h.el.1;have l:=h'.el.1;rw[YU (e1.trans hn),YU (l.trans hn)]
  .obtain⟨a,w,G⟩:=zA8 (p:=p) hk hn;have e:dq p n W (λj=>k*at_ z j) (λj=>k*at_ u j):=(h.eqv hk).trans (h'.eqv hk).symm;have l:=e.mul a;have one:∀{v:V1},El p n v->dq p n W (λj=>a*(k*at_ v j)) (at_ v):=λ{v} C=>by
    have D:=(Qv o (f:=at_ v) (λj A=>C.beyond A)).mul w;have E:=(dq.refl (p:=p) (n:=n) (W:=W) (at_ v)).add D;exact((dq.of_eq λj=>by grind).trans E).trans (dq.of_eq λj=>af)
   exact qX o h.el.1 h'.el.1 h.el.2 h'.el.2 (((one h.el).symm.trans l).trans (one h'.el))
def vj.mk'(o:eT p n W){k y m:Int}{x:V1}(l:El p n x)(D:¬mw x)(A:dq p n W (λj=>m*at_ x j) λ_=>0)(C:vh p k->∃t,k*y=1+t*m):vj p n W k x (ed p W y x) where
 el:=(ZT o l y).1
 nil:=λh=>absurd h D
 eqv:=λu=>by
  obtain⟨t,H⟩:=C u;have E:=(ZT o l y).2.mul k;have G:=(dq.refl (p:=p) (n:=n) (W:=W) (at_ x)).add (A.mul t);exact(E.trans (dq.of_eq λj=>by grind)).trans (G.trans (dq.of_eq λj=>af))
def zJJ(l:te p):∀k:Nat,1<=nD p k
 |0=>by simp[nD]
 |k+1=>by
  have h:=zJJ l k
  have:=YO (show(1:Int)<=p by have:=l.1;omega) (show 0<=nD p k by omega)
  rw[nD];omega
def zEz(l:te p){j:Nat}:∀{k:Nat},j<=k->nD p j<=nD p k
 |0,h=>by
   have:j=0:=af
   subst this;exact UA _
 |k+1,h=>by
  by_cases e:j=k+1
  .subst e;exact UA _
  .have h1:=zEz l (j:=j) (k:=k) af;have A:=zJJ l k
   have:=YO (show(1:Int)<=p by have:=l.1;omega) (show 0<=nD p k by omega)
   have u:nD p (k+1)=p*nD p k:=rfl;omega
def zLT{l:Nat}{w:Bool}{av:AV}{x:V1}(E:lx vP vB W B)(o:eT p n W)(O:fG p n<=729)(J:El p n x)(U:l=Lu x)
  (T:∀j,j<=n->dq p n W (λi=>nD p j*at_ x i) (λ_=>0)->K (.int .i64 (nD p j)) σ):zA Li 251 [.agg [.int .i64 p,vP,vB],.fz w av l (cS x)] σ K:=by
 have R:=E.P.one;have S:=E.B.one;have aX:=o.le;have A:=o.pr;have Q:=A;unfold te at Q;have P:=J.1;subst U;refine Lh Tryz.func251 ?_;simp only[Z3,seval,-ae,R,S];generalize D:σ.bf [.int .i64 p,vP,vB]=H;have V:cT σ H:=by rw[<-D];exact zC σ _
 have X:H.rd σ.aM 0 3=Dc [.int .i64 p,vP,vB]:=by rw[<-D];simp only[Z3,seval,-ae]
 have L:H.dR σ.aM 0=Dc (.int .i64 p):=by rw[<-D];simp only[Z3,seval,-ae]
 refine zF (λm vs h'=>∃(j:Nat) (y:V1) (N:Bool) (M:AV),m=n-cX y/\j<=cX y/\vs=[.fz N M n (cS y),.ptr σ.aM 0,.int .i64 (nD p j)]/\H=h'/\El p n y/\dq p n W (at_ y) λi=>nD p j*at_ x i) (n-cX x) ?_ ?_
 .exact⟨0,x,w,av,rfl,af,by rw[P];rfl,rfl,J,dq.of_eq λi=>by simp[nD]⟩
 rintro m vs h' ⟨j,y,N,M,rfl,hj,rfl,rfl,h,I⟩
 have C:=h.1;have eR:=Qg y;refine Lk ?_;refine Zb C.symm af ?_;by_cases u:mw y
 .simp only[Z3,seval,-ae,u,decide_true];refine Gh.fin0 V trivial (T j af (I.symm.trans (dq.of_eq λi=>ZW u i)))
 .have hd:cX y<n:=by have:=zCs u;omega
  have Ie:nD p (j+1)<=nD p n:=zEz A af;have Mp:=zJJ A (j+1);rw[zDF]at O;have G:nD p j*p=nD p (j+1):=by rw[nD,UN]
  have hw:Lp .i64 (nD p j*p)=nD p (j+1):=by rw[G];exact fl af af
  simp only[Z3,seval,-ae,u,decide_false,X,L];refine qF E o h h C.symm C.symm af LB λY=>?_;have fK:=zJQ o h hd;obtain⟨Z,z2⟩:=ZT o h p;simp only[Z3,seval,-ae,L,hw];refine⟨_,?_,j+1,_,DF,Y,rfl,af,rfl,Z,(z2.trans (I.mul p)).trans (dq.of_eq λi=>by rw[<-G];grind)⟩;omega
def zBh{l:Nat}{w:Bool}{av:AV}{k:Int}{x:V1}(D:lx vP vB W B)(o:eT p n W)(Q:fG p n<=729)(u:El p n x)(hl:l=Lu x)
  (T:∀w v z,vj p n W k x z->K (.fz w v n (cS z)) σ):zA Li 220 [.agg [.int .i64 p,vP,vB],.fz w av l (cS x),.int .i64 k] σ K:=by
 have C:=D.P.one;have J:=D.B.one;have aX:=o.le;have I:=o.pr;have Z:=u.1;subst hl;refine Lh Tryz.func220 ?_;simp only[Z3,seval,-ae,C,J];generalize R:σ.bf [.int .i64 p,vP,vB]=H;have V:cT σ H:=by rw[<-R];exact zC σ _
 have L:H.rd σ.aM 0 3=Dc [.int .i64 p,vP,vB]:=by rw[<-R];simp only[Z3,seval,-ae]
 refine Zb rfl af ?_;by_cases E:mw x
 .simp only[Z3,seval,-ae,E,decide_true];refine Gh.fin0 V trivial ?_;rw[Z];exact T _ _ x ⟨u,λ_=>rfl,λ_=>dq.of_eq λj=>by rw[ZW E,Y9]⟩
 .have gZ:cX x<n:=by have:=zCs E;omega
  simp only[Z3,seval,-ae,E,decide_false,L];refine zLT D o Q u rfl λj hj S=>?_;have Mp:j≠0:=λe=>by
   subst e;have e0:dq p n W (at_ x) λ_=>0:=(dq.of_eq λi=>by simp[nD]).trans S
   have:=zGB o u e0 (na n) (λ_ _=>rfl) (cX x) gZ
   exact ZJ af this
  have uG:nD p j<=nD p n:=zEz I hj;have Al:nD p 1<=nD p j:=zEz I af;have Rj:nD p 1=p:=by simp[nD]
  rw[zDF]at Q;have mM:=I.1;generalize hm:nD p j=m at *
  refine Lk ?_;refine zF (λq vs h'=>∃y:Int,q=(m-y).toNat/\1<=y/\y<=m/\vs=[.fz w av (Lu x) (cS x),.int .i64 k,.ptr σ.aM 0,.int .i64 m,.int .i64 y]/\H=h'/\∀A,1<=A->A<y->k % m*A % m≠1) (m-1).toNat ?_ ?_
  .exact⟨1,rfl,af,af,rfl,rfl,λA _ _=>af⟩
  rintro q vs h' ⟨y,rfl,oF,P0,rfl,rfl,P⟩
  have Y:=Y3 k (show m≠0 by omega);have RY:=Y6 k (show 0<m by omega);have em:=IQ k m;have fin:(vh p k->∃t,k*y=1+t*m)->∀v,Gh σ K (.fz DF v n (cS (ed p W y x))) H:=λh v=>Gh.fin0 V trivial (T _ v _ (vj.mk' o u E S h));by_cases G:y<m
  .have hb:0<=k % m*y/\k % m*y<=531441:=by
    have a1:=HI (show k % m<=729 by omega) (show y<=729 by omega) af af;have a2:=UG Y (show 0<=y by omega);omega
   simp only[Z3,seval,-ae,G,decide_true];refine zEU af af ?_;have N:m≠0:=af
   have U:(k % m*y).tmod m=k % m*y % m:=Yd hb.1;by_cases C:k % m*y % m=1
   .simp only[Z3,seval,-ae,G,N,fl (n:=k % m*y) af af,U,C,L];refine qF D o u u rfl rfl af LB λM=>?_;refine Lk ?_;refine fin (λ_=>?_) M;have e:=IQ (k % m*y) m;exact⟨k % m*y / m+k / m*y,by grind⟩
   .simp only[Z3,seval,-ae,G,N,fl (n:=k % m*y) af af,U,C,fl (n:=y+1) af af];refine⟨_,?_,y+1,rfl,af,af,rfl,λA J h3=>?_⟩
    .omega
    .by_cases e:A=y
     .subst e;exact C
     .exact P A J af
  .have HK:y=m:=af
   simp only[Z3,seval,-ae,G,decide_false,L];refine qF D o u u rfl rfl af LB λM=>?_;refine Lk ?_;refine fin (λhc=>?_) M;exfalso;obtain⟨z,w',X⟩:=zA8 (p:=p) hc (show 0<j by omega);rw[hm]at X;have f1:=Y3 z (show m≠0 by omega);have f2:=Y6 z (show 0<m by omega);have f3:=IQ z m;have O:k % m*(z % m) % m=1:=by
    have e1:k % m*(z % m)=1+(w'-k / m*z-k % m*(z / m))*m:=by grind
    rw[e1,KE];exact Ys af af
   have cU:z % m≠0:=λe=>by
    rw[e,Y9,IL]at O;omega
   exact P (z % m) af af O
def AS(p:Int)(W:V2)(B:V3)(xs:V2)(c:Int):Prop:=
 (¬(wq p W B/\yx p (Lu W) xs)/\c=1)\/((wq p W B/\yx p (Lu W) xs)/\¬isLz p (Lu W) W B/\c=5)\/((wq p W B/\yx p (Lu W) xs)/\isLz p (Lu W) W B/\c=0)
def AS.unique{xs:V2}{c d:Int}(h:AS p W B xs c)(g:AS p W B xs d):c=d:=by
 rcases h with ⟨A,C⟩|⟨A,C,E⟩|⟨A,C,E⟩<;>rcases g with ⟨l,u⟩|⟨l,u,D⟩|⟨l,u,D⟩<;>first|omega|exact absurd l A|exact absurd A l|exact absurd u C|exact absurd C u
def zIj{xs:V2}(hs:jE σ s p vP vB)(C:lx vP vB W B)(E:SzR W B)(A:jj vL xs)(sz:SzL xs)(u:∀c:Int,AS p W B xs c->K (.int .i64 c) σ):zA Li 52 [.ptr s 0,vL] σ K:=by
 have D:=A;obtain⟨I,al,H,rfl,G⟩:=A;refine Lg Tryz.func52 ?_;refine Lk ?_;refine zHr hs C E D sz λt l=>?_;cases t
 .refine Lk ?_;exact u 1 (.inl ⟨λh=>(by have:=l.2 h;simp at this),rfl⟩)
 .have hl:=l.1 rfl;refine Lk ?_;refine zFf hs C hl.1.1.w hl.1.1.b hl.1.1.1 λt l=>?_;cases t
  .refine Lk ?_;exact u 5 (.inr (.inl ⟨hl,λh=>(by have:=l.2 h;simp at this),rfl⟩))
  .refine Lk ?_;exact u 0 (.inr (.inr ⟨hl,l.1 rfl,rfl⟩))
def zNP{xs:V2}(u:lx vP vB W B)(H:SzR W B)(E:jj vL xs)(sz:SzL xs)(A:∀c:Int,AS p W B xs c->K (.int .i64 c) σ):zA Li 54 [.agg [.int .i64 p,vP,vB],vL] σ K:=by
 have C:=u.P.one;have D:=u.B.one;have G:=E;obtain⟨L,al,J,rfl,I⟩:=E;refine Lh Tryz.func54 ?_;simp only[Z3,seval,-ae,C,D];refine zNR u H λt l=>?_;cases t
 .refine Lk ?_;exact Gh.fin0 (zC σ _) trivial (A 1 (.inl ⟨λh=>(by have:=l.2 h.1;simp at this),rfl⟩))
 .have hl:=l.1 rfl;simp only[Z3,seval,-ae,C,D];refine zHu u G sz hl.1.1.bd λt l=>?_;cases t
  .refine Lk ?_;exact Gh.fin0 (zC σ _) trivial (A 1 (.inl ⟨λh=>(by have:=l.2 h.2;simp at this),rfl⟩))
  .have he:=l.1 rfl;simp only[Z3,seval,-ae,C,D];refine zJn u hl.1.w hl.1.b hl.1.1 λt l=>?_;cases t
   .refine Lk ?_;exact Gh.fin0 (zC σ _) trivial (A 5 (.inr (.inl ⟨⟨hl,he⟩,λh=>(by have:=l.2 h;simp at this),rfl⟩)))
   .refine Lk ?_;exact Gh.fin0 (zC σ _) trivial (A 0 (.inr (.inr ⟨⟨hl,he⟩,l.1 rfl,rfl⟩)))
def fh(B:V3)(n:Nat)(f g:hK):hK:=λt=>jn n λi=>jn (n-1-i) λj=>(f i*g (i+1+j)-f (i+1+j)*g i)*at_ ((B.getD i []).getD j []) t
def zDl(q:lS p n B)(a b:V1)(t:Nat):at_ (xk B a b n) t=fh B n (at_ a) (at_ b) t:=bi_at q t (na _)
def QF(f f' g:hK)(t:Nat):fh B n (λj=>f j+f' j) g t=fh B n f g t+fh B n f' g t:=by
 simp only[fh];rw[<-Qr];refine qP λi _=>?_;rw[<-Qr];refine qP λj _=>?_;grind
def qV(k:Int)(f g:hK)(t:Nat):fh B n (λj=>k*f j) g t=k*fh B n f g t:=by
 simp only[fh];rw[<-Zi];refine qP λi _=>?_;rw[<-Zi];refine qP λj _=>?_;grind
def zf(f g:hK)(t:Nat):fh B n f g t=-1*fh B n g f t:=by
 simp only[fh];rw[<-Zi];refine qP λi _=>?_;rw[<-Zi];refine qP λj _=>?_;grind
def zBY{f f' g g':hK}(h:∀j,j<n->f j=f' j)(h':∀j,j<n->g j=g' j)(t:Nat):fh B n f g t=fh B n f' g' t:=by
 simp only[fh];refine qP λi l=>qP λj u=>?_;rw[h i l,h _ (af:i+1+j<n),h' i l,h' _ (af:i+1+j<n)]
def zBw(g:hK)(t:Nat):∀(m:Nat) (F:Nat->hK),fh B n (λj=>jn m λk=>F k j) g t=jn m λk=>fh B n (F k) g t
 |0,F=>by
  simp only[jn]
  have:=qV (B:=B) (n:=n) 0 (λ_=>0) g t
  simpa using this
 |m+1,F=>by
  simp only[jn];rw[QF,zBw g t m F]
def zDh:∀(m:Nat) (F:Nat->hK),(∀k,k<m->dq p n W (F k) λ_=>0)->dq p n W (λj=>jn m λk=>F k j) λ_=>0
 |0,F,_=>dq.of_eq λj=>rfl
 |m+1,F,h=>((zDh m F λk l=>h k af).add (h m af)).trans (dq.of_eq λj=>rfl)
def zw{j i:Nat}(h:j<n):at_ (cD n j) i=if i=j then 1 else 0:=by
 rw[cD,eJ (by simpa using h),zb]
def zHX(g:hK){i:Nat}(h:i<n):g i=jn n λk=>g k*at_ (cD n k) i:=by
 rw[Qq h λk u l=>by rw[zw u,DL (λe=>l e.symm),Y9]];rw[zw h,DK rfl,Ur]
def zSU(o:eT p n W)(q:lS p n B)(H:ZF p W B n){i:Nat}(C:i<n)(g:hK):dq p n W (fh B n (rel p W i) g) λ_=>0:=by
 have one:∀j,j<n->dq p n W (fh B n (rel p W i) (at_ (cD n j))) λ_=>0:=λj h=>by
  have u:=H.1 i j C h;unfold F1 at u;have D:=(ZT o (ey o q (a:=cD n i) (b:=cD n j)) p).2;have E:dq p n W (at_ (br p W B n (cD n i) (cD n j))) (at_ (xk B (cD n i) (cD n j) n)):=qU o (qc q);have A:dq p n W (at_ (br p W B n (W.getD i []) (cD n j))) (at_ (xk B (W.getD i []) (cD n j) n)):=qU o (qc q);rw[<-u]at A;have hd:dq p n W (λt=>p*at_ (xk B (cD n i) (cD n j) n) t) (at_ (xk B (W.getD i []) (cD n j) n)):=((E.mul p).symm.trans D.symm).trans A;have G:=hd.symm.add (dq.refl (p:=p) (n:=n) (W:=W) λt=>-1*(p*at_ (xk B (cD n i) (cD n j) n) t));refine(dq.of_eq λt=>?_).trans (G.trans (dq.of_eq λt=>by grind));rw[zDl q,zDl q,<-qV,<-qV,<-QF];refine zBY (λk l=>?_) (λ_ _=>rfl) t;rw[zw C,rel];by_cases e:k=i
  .rw[DK e,DK e];grind
  .rw[DL e,DL e];grind
 refine(dq.of_eq λt=>?_).trans (zDh n (λk t=>g k*fh B n (rel p W i) (at_ (cD n k)) t) λk l=>((one k l).mul (g k)).trans (dq.of_eq λt=>by grind));rw[zf,zBY (f':=λj=>jn n λk=>g k*at_ (cD n k) j) (g':=rel p W i) (λj h=>zHX g h) (λ_ _=>rfl),zBw (t:=t) (g:=rel p W i) n (λk j=>g k*at_ (cD n k) j),<-Zi];refine qP λk l=>?_;rw[qV,zf (f:=at_ (cD n k))];grind
def zBA(o:eT p n W)(q:lS p n B)(C:ZF p W B n){f f':hK}(g:hK)(h:dq p n W f f'):dq p n W (fh B n f g) (fh B n f' g):=by
 obtain⟨c,A⟩:=h;have u:=zDh n (λi t=>c i*fh B n (rel p W i) g t) λk l=>((zSU o q C l g).mul (c k)).trans (dq.of_eq λt=>by grind);refine(dq.of_eq λt=>?_).trans (((dq.refl (fh B n f' g)).add u).trans (dq.of_eq λt=>by grind));rw[zBY (f':=λj=>f' j+jn n λi=>c i*rel p W i j) (g':=g) (λj _=>A j) (λ_ _=>rfl),QF,zBw (t:=t) (g:=g) n (λi j=>c i*rel p W i j)];congr 1;exact qP λk l=>by rw[qV]
def zKU(o:eT p n W)(q:lS p n B)(l:ZF p W B n){g g':hK}(f:hK)(h:dq p n W g g'):dq p n W (fh B n f g) (fh B n f g'):=
 ((dq.of_eq λt=>zf f g t).trans ((zBA o q l f h).mul (-1))).trans (dq.of_eq λt=>(zf f g' t).symm)
def ZY(o:eT p n W)(q:lS p n B)(a b:V1):dq p n W (at_ (br p W B n a b)) (fh B n (at_ a) (at_ b)):=
 (qU o (qc q)).trans (dq.of_eq λt=>zDl q a b t)
def qK(o:eT p n W){x:V1}(h:El p n x)(k:Int):dq p n W (at_ (ed p W k x)) λj=>k*at_ x j:=(ZT o h k).2
def qZ(o:eT p n W){x y:V1}(h:El p n x)(l:El p n y):dq p n W (at_ (j3 p W x y)) λj=>at_ x j+at_ y j:=
 (qU o (by rw[zT (h.1.trans l.1.symm)];exact h.1)).trans (dq.of_eq λj=>by rw[qC (h.1.trans l.1.symm)];omega)
def QX(k:Int)(f g:hK)(t:Nat):fh B n f (λj=>k*g j) t=k*fh B n f g t:=by
 rw[zf,qV,zf g f];grind
def third(o:eT p n W)(q:lS p n B)(D:ZF p W B n){x y b:V1}(A:El p n b):
  j3 p W (br p W B n x b) (br p W B n y (ed p W (-1) b))=norm p W (eX 1 (br p W B n x b) (-1) (br p W B n y b)):=by
 have h:El p n (br p W B n x b):=ey o q;have l:El p n (br p W B n y b):=ey o q;have u:El p n (br p W B n y (ed p W (-1) b)):=ey o q;have C:dq p n W (at_ (br p W B n y (ed p W (-1) b))) λj=>-1*at_ (br p W B n y b) j:=
  (ZY o q _ _).trans (((zKU o q D (at_ y) (qK o A (-1))).trans (dq.of_eq λt=>QX (-1) _ _ t)).trans ((ZY o q y b).symm.mul (-1)))
 refine zGl o (by rw[zT (h.1.trans u.1.symm)];exact h.1) (by rw[zT (h.1.trans l.1.symm)];exact h.1) ?_;refine(dq.of_eq λj=>?_).trans (((dq.refl (at_ (br p W B n x b))).add C).trans (dq.of_eq λj=>?_))
 .rw[qC (h.1.trans u.1.symm)];omega
 .rw[qC (h.1.trans l.1.symm)];omega
def zBX(g f:hK)(t:Nat):fh B n f g t=jn n λk=>g k*fh B n f (at_ (cD n k)) t:=by
 rw[zf,zBY (f':=λj=>jn n λk=>g k*at_ (cD n k) j) (g':=f) (λj h=>zHX g h) (λ_ _=>rfl),zBw (t:=t) (g:=f) n (λk j=>g k*at_ (cD n k) j),<-Zi];refine qP λk l=>?_;rw[qV,zf (f:=at_ (cD n k))];grind
def zS5(o:eT p n W)(q:lS p n B)(E:ZF p W B n){u:V2}{f:hK}(A:ki p n W u f):∀g:hK,ki p n W (rj p W B n u (jg n)) (fh B n f g):=by
 have l:=zO (p:=p) (n:=n) (W:=W) (rj p W B n u (jg n));refine zEb (S:=λf=>∀g:hK,ki p n W (rj p W B n u (jg n)) (fh B n f g)) ⟨λg=>?_,λf f' h h' g=>?_,λk f h g=>?_,λf f' h h' g=>?_⟩ (λv D g=>?_) A
 .refine l.eqv _ _ (dq.of_eq λt=>?_) l.zero
  have:=qV (B:=B) (n:=n) 0 (λ_=>0) g t
  simpa using this
 .exact l.eqv _ _ (dq.of_eq λt=>QF f f' g t) (l.add _ _ (h g) (h' g))
 .exact l.eqv _ _ (dq.of_eq λt=>qV k f g t) (l.mul k _ (h g))
 .exact l.eqv _ _ (zBA o q E g h) (h' g)
 .refine l.eqv _ _ (dq.of_eq λt=>zBX g (at_ v) t) (l.sum λk C=>l.mul (g k) _ ?_);refine l.eqv _ _ (ZY o q v (cD n k)).symm (zY (UD.2 ⟨v,D,YI.2 ⟨cD n k,?_,rfl⟩⟩));exact YI.2 ⟨k,UC.2 C,rfl⟩
def zIQ(o:eT p n W){x:V1}(A:El p n x):ki p n W (jg n) (at_ x):=by
 have l:=zO (p:=p) (n:=n) (W:=W) (jg n);refine l.eqv _ _ (dq.of_eq λt=>?_) (l.sum (m:=n) (F:=λk j=>at_ x k*at_ (cD n k) j) λk u=>l.mul (at_ x k) _ (zY (YI.2 ⟨k,UC.2 u,rfl⟩)));rcases YG t n with h|h
 .exact zHX (at_ x) h
 .rw[A.beyond h,qQ];intro k u;rw[zw u,DL af,Y9]
def zR8(o:eT p n W)(q:lS p n B)(A:ZF p W B n){u out:V2}(h:Canon p n W (rj p W B n u (jg n)) out){f:hK}(l:ki p n W u f)(g:hK):ki p n W out (fh B n f g):=
 (h.gen _).1 (zS5 o q A l g)
def zMV(o:eT p n W)(q:lS p n B){c:Nat}(h:Cls p n W B c):∀k,∃u,wV p n W B k u/\(c<=k->u=[])\/k<c:=λk=>by
 rcases YG k c with x|x
 .exact⟨[],.inr x⟩
 .obtain⟨d,rfl⟩:∃d,k=c+d:=⟨k-c,af⟩
  have:wV p n W B (c+d) []:=by
   clear x
   induction d with
   |zero=>exact h.1
   |succ d ih=>
    refine .succ ih ?_;have l:rj p W B n [] (jg n)=[]:=rfl;rw[l];exact⟨.nil,List.Pairwise.nil,λf=>Iff.rfl⟩
  exact⟨[],.inl ⟨this,λ_=>rfl⟩⟩
def Zd(o:eT p n W){z:V1}(u:El p n z)(h:dq p n W (at_ z) λ_=>0):mw z:=by
 have A:=zGB o u h (na n) λ_ _=>rfl;intro x C;obtain⟨j,l,rfl⟩:=YR.1 C;rw[<-dp l];exact A j (by rw[<-u.1];exact l)
end Go.Proofs
