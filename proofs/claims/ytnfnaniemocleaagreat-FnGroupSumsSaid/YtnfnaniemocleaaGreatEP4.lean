/- . -/
import Derived.Test.YtnfnaniemocleaaGreatEP3
open Int renaming reduceNatCast'->ae
set_option maxRecDepth 100000
set_option linter.unusedVariables false
set_option linter.unusedSimpArgs false
namespace Go.Lie
open Go.Ab
variable{p:Int}{n:Nat}{W:V2}
theorem El.at0{v:V1}(h:El p n v)(o:OkW p n W)(j:Nat):0<=at_ v j/\at_ v j<=p-1:=h.2.at (by have:=o.pr.1;omega) j
theorem El.beyond{v:V1}(h:El p n v){j:Nat}(l:n<=j):at_ v j=0:=at_ge (by rw[h.1];exact l)
theorem zBP(o:OkW p n W){v:V1}(h:v.length=n):El p n (norm p W v):=⟨ZC o h,Zx o h⟩
theorem zNy{a b:V1}(l:El p n a)(u:El p n b)(h:∀j,j<n->at_ a j=at_ b j):a=b:=Zr (l.1.trans u.1.symm) λj A=>h j (by rw[<-l.1];exact A)
theorem zNT(o:OkW p n W){v:V1}(u:v.length=n){m:Nat}(I:m<=n)(h:∀j,j<m->0<=at_ v j/\at_ v j<=p-1){j:Nat}(A:j<m):at_ (norm p W v) j=at_ v j:=by
 have D:=o.pr;unfold okp at D;have l:=Zx o u;obtain⟨k,C⟩:=(Q0 o (qN o u) (d:=j) (by omega) (λi _=>l.at (by omega) i) (λi H=>h i (by omega))).2;have E:=l.at (by omega) j;have G:=h j A;rcases Int.lt_trichotomy k 0 with x|x|x
 .have:=YA (show k<=-1 by omega) (show 0<=p by omega)
  omega
 .rw[x]at C;omega
 .have:=YA (show 1<=k by omega) (show 0<=p by omega)
  omega
abbrev red1(p:Int)(W:V2)(x v:V1):V1:=norm p W (lmix 1 x (-(at_ x (dep v))) v)
def redL(p:Int)(W:V2):V2->V1->V1
 |[],x=>x
 |v::u,x=>redL p W u (red1 p W x v)
def Led(p:Int)(n:Nat)(v:V1):Prop:=El p n v/\dep v<n/\at_ v (dep v)=1
theorem zEC(o:OkW p n W){x v:V1}(h:El p n x)(l:El p n v):El p n (red1 p W x v):=zBP o (by rw[zR (h.1.trans l.1.symm)];exact h.1)
theorem zHw(o:OkW p n W){x v:V1}(h:El p n x)(l:El p n v):Eqv p n W (at_ (red1 p W x v)) (λj=>at_ x j-at_ x (dep v)*at_ v j):=
 (qN o (by rw[zR (h.1.trans l.1.symm)];exact h.1)).trans (Eqv.of_eq λj=>by rw[qK (h.1.trans l.1.symm),Ux];omega)
theorem zGc(o:OkW p n W){x v:V1}(u:El p n x)(l:Led p n v){j:Nat}(D:j<=dep v):at_ (red1 p W x v) j=if j=dep v then 0 else at_ x j:=by
 have A:=u.1.trans l.1.1.symm;have E:=o.pr;unfold okp at E;have e:∀i,i<=dep v->at_ (lmix 1 x (-(at_ x (dep v))) v) i=if i=dep v then 0 else at_ x i:=λi C=>by
  rw[qK A];split
  .rename_i h;subst h;rw[l.2.2];omega
  .rw[zg (by omega:i<dep v)];omega
 rw[zNT o (m:=dep v+1) (by rw[zR A];exact u.1) (by have:=l.2.1;omega) (λi C=>by
  rw[e i (by omega)]
  have:=u.at0 o i
  split<;>omega) (by omega),e j D]
theorem zMl(o:OkW p n W){x v:V1}(l:El p n x)(A:El p n v)(h:at_ x (dep v)=0):red1 p W x v=x:=by
 have u:=l.1.trans A.1.symm
 have:lmix 1 x (-(at_ x (dep v))) v=x:=Zr (zR u) λj _=>by rw[qK u,h];omega
 rw[red1,this,zNS o l.1 l.2]
theorem QL(o:OkW p n W):∀{u:V2} {x:V1},(∀v∈u,El p n v)->El p n x->El p n (redL p W u x)
 |[],x,_,hx=>hx
 |v::u,x,hu,hx=>by rw[redL];exact QL o (λw hw=>hu w (by simp[hw])) (zEC o hx (hu v (by simp)))
theorem zAe(o:OkW p n W):∀{u:V2} {x:V1},(∀v∈u,El p n v)->El p n x->Gen p n W u (λj=>at_ x j-at_ (redL p W u x) j)
 |[],x,_,hx=>(zM []).eqv _ _ (Eqv.of_eq λj=>Int.sub_self _) (zM []).zero
 |v::u,x,hu,hx=>by
  have h:=hu v (by simp);have A:=zAe o (u:=u) (λw hw=>hu w (by simp[hw])) (zEC o hx h);have C:Gen p n W (v::u) (λj=>at_ (red1 p W x v) j-at_ (redL p W u (red1 p W x v)) j):=zY (λw hw=>by simp[hw]) A;have D:=(zM (v::u)).mul (at_ x (dep v)) _ (zX (p:=p) (n:=n) (W:=W) (show v∈v::u by simp));have E:=(zM (v::u)).add _ _ D C;refine(zM (v::u)).eqv _ _ ?_ E;have l:=(zHw o hx h).symm.add (Eqv.refl (p:=p) (n:=n) (W:=W) λj=>at_ x (dep v)*at_ v j-at_ (redL p W u (red1 p W x v)) j);refine(Eqv.of_eq λj=>?_).trans (l.trans (Eqv.of_eq λj=>?_))
  .rw[redL];omega
  .omega
abbrev Asc(u:V2):Prop:=u.Pairwise λa b=>dep a<dep b
theorem zAf(o:OkW p n W):∀{u:V2} {x:V1},(∀v∈u,Led p n v)->Asc u->El p n x->
  (∀v∈u,at_ (redL p W u x) (dep v)=0)/\∀j,(∀v∈u,j<dep v)->at_ (redL p W u x) j=at_ x j
 |[],x,_,_,hx=>⟨λv h=>(by cases h),λj _=>rfl⟩
 |v::u,x,hu,ha,hx=>by
  have h:=hu v (by simp);obtain⟨E,D⟩:=List.pairwise_cons.1 ha;obtain⟨G,A⟩:=zAf o (λw hw=>hu w (by simp[hw])) D (zEC o hx h.1);refine⟨λw hw=>?_,λj C=>?_⟩
  .rcases YH.1 hw with rfl|hw
   .rw[redL,A _ (λz l=>E z l),zGc o hx h (na _),if_pos rfl]
   .exact G w hw
  .have:=C v (by simp)
   rw[redL,A j (λz l=>C z (by simp[l])),zGc o hx h (by omega),if_neg (by omega)]
theorem zFN(o:OkW p n W){u:V2}(M:∀v∈u,El p n v){m:Nat}(L:m<=n)(h:∀v∈u,∀j,j<m->at_ v j=0){z:V1}(C:El p n z)(G:Gen p n W u (at_ z)):∀j,j<m->at_ z j=0:=by
 obtain⟨c,E⟩:=G;have D:∀j,j<m->comb c u j=0:=λj A=>ZG _ λk l=>by
  have:u.getD k []=u[k]:=by simp[YB,YQ l]
  rw[this,h _ (YK l) j A,UL]
 intro j A;have H:=o.pr;unfold okp at H;obtain⟨k,l⟩:=(Q0 o E (d:=j) (by omega) (λi _=>C.at0 o i) (λi J=>by rw[D i (by omega)];omega)).2;rw[D j A]at l;have I:=C.at0 o j;rcases Int.lt_trichotomy k 0 with x|x|x
 .have:=YA (show k<=-1 by omega) (show 0<=p by omega)
  omega
 .rw[x]at l;omega
 .have:=YA (show 1<=k by omega) (show 0<=p by omega)
  omega
def tab(n:Nat)(f:Vec):V1:=(List.range n).map f
theorem zA5(f:Vec):(tab n f).length=n:=by simp[tab]
theorem zQu(f:Vec)(h:∀j,n<=j->f j=0)(j:Nat):at_ (tab n f) j=f j:=by
 rcases YG j n with x|x
 .rw[at_eq (by rw[zA5];exact x)];simp[tab]
 .rw[at_ge (by rw[zA5];exact x),h j x]
theorem zKW{u:V2}(A:∀v∈u,El p n v)(c:Nat->Int){j:Nat}(l:n<=j):comb c u j=0:=ZG _ λk h=>by
 have:u.getD k []=u[k]:=by simp[YB,YQ h]
 rw[this,(A _ (YK h)).beyond l,UL]
theorem zQU(o:OkW p n W){u:V2}(E:∀v∈u,El p n v){f:Vec}(C:Gen p n W u f):∃z,El p n z/\Eqv p n W f (at_ z)/\Gen p n W u (at_ z):=by
 obtain⟨c,A⟩:=C;have h:=qN o (zA5 (comb c u));have l:at_ (tab n (comb c u))=comb c u:=funext λj=>zQu _ (λj D=>zKW E c D) j;rw[l]at h;exact⟨_,zBP o (zA5 _),A.trans h.symm,c,h⟩
theorem zN5(c:Nat->Int)(v:V1)(u:V2)(j:Nat):comb c (v::u) j=c 0*at_ v j+comb (λk=>c (k+1)) u j:=by
 unfold comb
 have:∀(m:Nat) (f:Nat->Int),sumN (m+1) f=f 0+sumN m λk=>f (k+1):=by
  intro m f
  induction m with
  |zero=>simp[sumN]
  |succ m ih=>rw[sumN,ih,sumN];omega
 rw[YS,this];rfl
theorem zPL{v:V1}{u:V2}{f:Vec}(l:Gen p n W (v::u) f):∃(k:Int) (g:Vec),Gen p n W u g/\Eqv p n W f λj=>k*at_ v j+g j:=by
 obtain⟨c,h⟩:=l;exact⟨c 0,comb (λk=>c (k+1)) u,⟨_,Eqv.refl _⟩,h.trans (Eqv.of_eq λj=>zN5 c v u j)⟩
inductive Base(p:Int)(n:Nat)(W:V2):V2->Prop where
 |nil:Base p n W []
 |cons {v:V1} {u:V2} (hv:Led p n v) (ha:∀w∈u,dep v<dep w) (hc:Gen p n W u λj=>p*at_ v j) (h:Base p n W u):Base p n W (v::u)
theorem Base.led:∀{u:V2},Base p n W u->∀v∈u,Led p n v
 |_,.nil,v,h=>(by cases h)
 |_,.cons hv _ _ hb,w,h=>(YH.1 h).elim (λe=>e ▸ hv) (λh=>hb.led w h)
theorem Base.asc:∀{u:V2},Base p n W u->Asc u
 |_,.nil=>List.Pairwise.nil
 |_,.cons _ ha _ hb=>List.pairwise_cons.2 ⟨ha,hb.asc⟩
theorem Base.els{u:V2}(h:Base p n W u):∀v∈u,El p n v:=λv l=>(h.led v l).1
theorem zBS(o:OkW p n W):∀{u:V2},Base p n W u->∀{z:V1},El p n z->Gen p n W u (at_ z)->dep z<n->∃v∈u,dep v=dep z
 |_,.nil,z,hz,hg,hd=>by
  have l:=zFN o (u:=[]) (by simp) (na n) (by simp) hz hg;exact absurd (l _ hd) (qz (by rw[hz.1];exact hd))
 |_,.cons (v:=v) (u:=u) hv ha hc hb,z,hz,hg,hd=>by
  have O:=o.pr;unfold okp at O;obtain⟨k,g,Q,N⟩:=zPL hg;have l:Gen p n W u λj=>(k / p)*(p*at_ v j)+g j:=(zM u).add _ _ ((zM u).mul (k / p) _ hc) Q;obtain⟨y,P,I,G⟩:=zQU o hb.els l;have H:=Int.emod_add_mul_ediv k p;have E:Eqv p n W (at_ z) λj=>k % p*at_ v j+at_ y j:=by
   refine N.trans ?_
   have:=(Eqv.refl (p:=p) (n:=n) (W:=W) λj=>k % p*at_ v j).add I
   refine(Eqv.of_eq λj=>?_).trans this;have L:k*at_ v j=(k % p+p*(k / p))*at_ v j:=by rw[H]
   rw[L,Uv,UB p (k / p),UT];omega
  by_cases M:k % p=0
  .obtain⟨w,hw,e⟩:=zBS o hb hz ((zM u).eqv _ _ (E.trans (Eqv.of_eq λj=>by rw[M];omega)) G) hd;exact⟨w,by simp[hw],e⟩
  .refine⟨v,by simp,?_⟩;have J:=zFN o hb.els (m:=dep v+1) (by have:=hv.2.1;omega) (λw hw j A=>zg (by have:=ha w hw;omega)) P G;have T:=Ya k (show p≠0 by omega);have R:=Y4 k (show 0<p by omega);have D:∀j,j<=dep v->k % p*at_ v j+at_ y j=if j=dep v then k % p else 0:=λj A=>by
    rw[J j (by omega)];split
    .rename_i e;subst e;rw[hv.2.2];omega
    .rw[zg (by omega:j<dep v)];simp
   have key:=λd (hd:d<=dep v)=>Q0 o E (d:=d) (by have:=hv.2.1;omega) (λi _=>hz.at0 o i) (λi S=>by rw[D i (by omega),if_neg (by omega)];omega);refine(zGK (λj A=>?_) ?_).symm
   .rw[(key (dep v) (na _)).1 j A,D j (by omega),if_neg (by omega)]
   .obtain⟨t,C⟩:=(key (dep v) (na _)).2;rw[D _ (na _),if_pos rfl]at C;intro h;rw[h]at C;rcases Int.lt_trichotomy t 0 with x|x|x
    .have:=YA (show t<=-1 by omega) (show 0<=p by omega)
     omega
    .rw[x]at C;omega
    .have:=YA (show 1<=t by omega) (show 0<=p by omega)
     omega
theorem zBg{α:Type}{R:α->α->Prop}:∀{l:List α},l.Pairwise R->∀{a b:α},a∈l->b∈l->a=b\/R a b\/R b a
 |[],_,a,b,ha,_=>by cases ha
 |x::l,h,a,b,ha,hb=>by
  obtain⟨C,D⟩:=List.pairwise_cons.1 h;rcases YH.1 ha with A|uo
  .rcases YH.1 hb with u|jn
   .exact .inl (A.trans u.symm)
   .rw[A];exact .inr (.inl (C b jn))
  .rcases YH.1 hb with u|jn
   .rw[u];exact .inr (.inr (C a uo))
   .exact zBg D uo jn
theorem zLA:∀{u w:V2},Asc u->Asc w->(∀v,v∈u↔v∈w)->u=w
 |[],[],_,_,_=>rfl
 |[],x::w,_,_,h=>by have:=(h x).2 (by simp);cases this
 |x::u,[],_,_,h=>by have:=(h x).1 (by simp);cases this
 |x::u,y::w,hu,hw,h=>by
  obtain⟨A,D⟩:=List.pairwise_cons.1 hu;obtain⟨C,E⟩:=List.pairwise_cons.1 hw;have e:x=y:=by
   rcases YH.1 ((h x).1 (by simp))with e|e
   .exact e
   .rcases YH.1 ((h y).2 (by simp))with e'|e'
    .exact e'.symm
    .have:=C x e;have:=A y e';omega
  subst e;congr 1;refine zLA D E λv=>⟨λl=>?_,λl=>?_⟩
  .rcases YH.1 ((h v).1 (by simp[l]))with e|e
   .subst e;have:=A v l;omega
   .exact e
  .rcases YH.1 ((h v).2 (by simp[l]))with e|e
   .subst e;have:=C v l;omega
   .exact e
abbrev Red(u:V2):Prop:=u.Pairwise λa b=>at_ a (dep b)=0
theorem zMk{u:V2}(l:Asc u)(A:Red u){v x:V1}(C:v∈u)(D:x∈u)(h:dep v<dep x):at_ v (dep x)=0:=by
 have:=zBg (R:=λa b:V1=>dep a<dep b/\at_ a (dep b)=0) (List.Pairwise.and l A) C D
 rcases this with e|e|e
 .subst e;omega
 .exact e.2
 .omega
theorem zHI(o:OkW p n W){u w:V2}(G:Base p n W u)(V:Red u)(hw:Base p n W w)(X:Red w)(h:∀f,Gen p n W u f->Gen p n W w f)(h':∀f,Gen p n W w f->Gen p n W u f){v x:V1}(H:v∈u)(I:x∈w)(e:dep x=dep v):v=x:=by
 have lv:=G.led v H;have E:=hw.led x I;have A:=lv.1.1.trans E.1.1.symm;have S:=o.pr;unfold okp at S;have l:(lmix 1 v (-1) x).length=n:=by rw[zR A];exact lv.1.1
 rcases YG (dep (lmix 1 v (-1) x)) n with hd|hd;rotate_left
 .refine zNy lv.1 E.1 λj D=>?_
  have:=zg (v:=lmix 1 v (-1) x) (j:=j) (by omega)
  rw[qK A]at this;omega
 have U:∀j,j<dep (lmix 1 v (-1) x)->at_ (norm p W (lmix 1 v (-1) x)) j=0:=zDZ o l (by omega) λj D=>zg D;have N:at_ (norm p W (lmix 1 v (-1) x)) (dep (lmix 1 v (-1) x))≠0:=by
  rw[zG5 o l hd λj D=>zg D];have R:=qz (v:=lmix 1 v (-1) x) (by rw[l];exact hd);rw[qK A]at R ⊢;have b1:=lv.1.at0 o (dep (lmix 1 v (-1) x));have Y:=E.1.at0 o (dep (lmix 1 v (-1) x));intro Q
  have:=Int.emod_add_mul_ediv (1*at_ v (dep (lmix 1 v (-1) x)) + -1*at_ x (dep (lmix 1 v (-1) x))) p
  rw[Q,Uc]at this;generalize (1*at_ v (dep (lmix 1 v (-1) x)) + -1*at_ x (dep (lmix 1 v (-1) x))) / p=q at this;rcases Int.lt_trichotomy q 0 with y|y|y
  .have:=Yw (show q<=-1 by omega) (show 0<=p by omega)
   omega
  .rw[y]at this;omega
  .have:=Yw (show 1<=q by omega) (show 0<=p by omega)
   omega
 have J:=zGK U N;have L:Gen p n W u (at_ (norm p W (lmix 1 v (-1) x))):=by
  refine(zM u).eqv _ _ ((qN o l).trans (Eqv.of_eq λj=>?_)) ((zM u).sub (zX H) (h' _ (zX I)));rw[qK A];omega
 obtain⟨t,T,P⟩:=zBS o G (zBP o l) L (by omega);obtain⟨s,hs,O⟩:=zBS o hw (zBP o l) (h _ L) (by omega);have C:=qz (v:=lmix 1 v (-1) x) (by rw[l];exact hd);rw[qK A]at C;exfalso;rcases Nat.lt_trichotomy (dep v) (dep t)with y|y|y
 .have q1:=zMk G.asc V H T y;have M:=zMk hw.asc X I hs (by omega);rw[P,J]at q1;rw[O,J]at M;rw[q1,M]at C;omega
 .have e2:dep (lmix 1 v (-1) x)=dep v:=by omega
  rw[e2,lv.2.2,<-e,E.2.2]at C;omega
 .have e2:dep (lmix 1 v (-1) x)<dep v:=by omega
  rw[zg e2,zg (by omega)]at C;omega
theorem zI5(o:OkW p n W){u w:V2}(A:Base p n W u)(D:Red u)(hw:Base p n W w)(E:Red w)(h:∀f,Gen p n W u f->Gen p n W w f)(h':∀f,Gen p n W w f->Gen p n W u f):u=w:=by
 refine zLA A.asc hw.asc λv=>⟨λl=>?_,λl=>?_⟩
 .have lv:=A.led v l;obtain⟨x,C,e⟩:=zBS o hw lv.1 (h _ (zX l)) lv.2.1;rw[zHI o A D hw E h h' l C e];exact C
 .have lv:=hw.led v l;obtain⟨x,C,e⟩:=zBS o A lv.1 (h' _ (zX l)) lv.2.1;rw[zHI o hw E A D h' h l C e];exact C
theorem zIo(o:OkW p n W){v:V1}{t t' s:V2}(O:Base p n W (v::t))(Q:Base p n W t')(P:Red t')(A:∀f,Gen p n W t f↔Gen p n W t' f)(hs:Base p n W s)(R:∀x∈t',∃y∈s,dep y=dep x)(L:∀y∈s,dep v<dep y)(C:∀f,Gen p n W s f->Gen p n W t' f)(I:∀x∈t',dep v<dep x):
  Base p n W (redL p W s v::t')/\Red (redL p W s v::t')/\(∀f,Gen p n W (v::t) f↔Gen p n W (redL p W s v::t') f)/\dep (redL p W s v)=dep v:=by
 cases O with
 |cons hv ha hc IG=>
 have J:=QL o hs.els hv.1;obtain⟨M,N⟩:=zAf o hs.led hs.asc hv.1;have G:=zAe o hs.els hv.1;have D:∀j,j<=dep v->at_ (redL p W s v) j=at_ v j:=λj H=>N j λy h=>by have:=L y h;omega
 have u:dep (redL p W s v)=dep v:=zGK (λj H=>by rw[D j (by omega)];exact zg H) (by rw[D _ (na _),hv.2.2];decide);refine⟨.cons ⟨J,by rw[u];exact hv.2.1,by rw[u,D _ (na _)];exact hv.2.2⟩ (λx hx=>by rw[u];exact I x hx) ?_ Q,List.pairwise_cons.2 ⟨λx hx=>?_,P⟩,λf=>⟨λE=>?_,λE=>?_⟩,u⟩
 .have q1:=(zM t').mul p _ (C _ G);have l:=(zM t').sub ((A _).1 hc) q1;exact(zM t').eqv _ _ (Eqv.of_eq λj=>by rw[Int.mul_sub];omega) l
 .obtain⟨y,h,e⟩:=R x hx;rw[<-e];exact M y h
 .refine ZK (λx hx=>?_) E;rcases YH.1 hx with rfl|hx
  .have q1:Gen p n W (redL p W s x::t') λj=>at_ x j-at_ (redL p W s x) j:=zY (λy h=>by simp[h]) (C _ G);have l:=(zM (redL p W s x::t')).add _ _ q1 (zX (v:=redL p W s x) (by simp));exact(zM _).eqv _ _ (Eqv.of_eq λj=>by omega) l
  .exact zY (λy h=>by simp[h]) ((A _).1 (zX hx))
 .refine ZK (λx hx=>?_) E;rcases YH.1 hx with rfl|hx
  .have q1:Gen p n W (v::t) λj=>at_ v j-at_ (redL p W s v) j:=zY (λy h=>by simp[h]) ((A _).2 (C _ G));have l:=(zM (v::t)).sub (zX (v:=v) (by simp)) q1;exact(zM _).eqv _ _ (Eqv.of_eq λj=>by omega) l
  .exact zY (λy h=>by simp[h]) ((A _).2 (zX hx))
def finS(p:Int)(W:V2):V2->V2
 |[]=>[]
 |v::t=>redL p W t v::finS p W t
def finI(p:Int)(W:V2):V2->V2
 |[]=>[]
 |v::t=>redL p W (finI p W t) v::finI p W t
structure Canon(p:Int)(n:Nat)(W:V2)(aH out:V2):Prop where
 base:Base p n W out
 red:Red out
 gen:∀f,Gen p n W aH f↔Gen p n W out f
theorem zK0(o:OkW p n W):∀{u:V2},Base p n W u->Canon p n W u (finS p W u)/\(finS p W u).map dep=u.map dep
 |_,.nil=>⟨⟨.nil,List.Pairwise.nil,λ_=>Iff.rfl⟩,rfl⟩
 |_,.cons (v:=v) (u:=t) hv ha hc hb=>by
  obtain⟨c,hd⟩:=zK0 o hb;have A:∀x∈finS p W t,∃y∈t,dep y=dep x:=λx h=>by
   have:dep x∈t.map dep:=by rw[<-hd];exact List.mem_map_of_mem h
   obtain⟨y,l,e⟩:=Yj.1 this;exact⟨y,l,e⟩
  obtain⟨D,E,G,H⟩:=zIo o (.cons hv ha hc hb) c.base c.red c.gen hb A ha (λf C=>(c.gen f).1 C) λx h=>by
   obtain⟨y,l,e⟩:=A x h;have:=ha y l;omega
  exact⟨⟨D,E,G⟩,by simp only[finS,YO,H,hd]⟩
theorem zEP(o:OkW p n W):∀{u:V2},Base p n W u->Canon p n W u (finI p W u)/\(finI p W u).map dep=u.map dep
 |_,.nil=>⟨⟨.nil,List.Pairwise.nil,λ_=>Iff.rfl⟩,rfl⟩
 |_,.cons (v:=v) (u:=t) hv ha hc hb=>by
  obtain⟨c,hd⟩:=zEP o hb;have l:∀x∈finI p W t,dep v<dep x:=λx h=>by
   have:dep x∈t.map dep:=by rw[<-hd];exact List.mem_map_of_mem h
   obtain⟨y,C,e⟩:=Yj.1 this
   have:=ha y C;omega
  obtain⟨D,E,G,H⟩:=zIo o (.cons hv ha hc hb) c.base c.red c.gen c.base (λx h=>⟨x,h,rfl⟩) l (λf A=>A) l;exact⟨⟨D,E,G⟩,by simp only[finI,YO,H,hd]⟩
theorem Canon.unique(o:OkW p n W){A a b:V2}(h:Canon p n W A a)(l:Canon p n W A b):a=b:=
 zI5 o h.base h.red l.base l.red (λf u=>(l.gen f).1 ((h.gen f).2 u)) λf u=>(h.gen f).1 ((l.gen f).2 u)
theorem Canon.trans{l u out:V2}(h:Canon p n W u out)(A:∀f,Gen p n W l f↔Gen p n W u f):Canon p n W l out:=⟨h.base,h.red,λf=>(A f).trans (h.gen f)⟩
abbrev Dp(u:V2)(d:Nat):V2:=u.filter λv=>decide (d<dep v)
abbrev Fp(u:V2)(d:Nat):V2:=u.filter λv=>decide (d<=dep v)
structure Grow(p:Int)(n:Nat)(W aH u Q:V2):Prop where
 led:∀v∈u,Led p n v
 asc:Asc u
 els:∀x∈Q,El p n x
 clo:∀v∈u,Gen p n W (Dp u (dep v)) (λj=>p*at_ v j)\/∃x∈Q,dep v<dep x/\Gen p n W (Dp u (dep v)) λj=>p*at_ v j-at_ x j
 gen:∀f,Gen p n W aH f↔Gen p n W (u++Q) f
theorem Grow.perm{D u Q C:V2}(g:Grow p n W D u Q)(h:∀x,x∈Q↔x∈C):Grow p n W D u C:=
 ⟨g.led,g.asc,λx A=>g.els x ((h x).2 A),λv l=>(g.clo v l).imp id λ⟨x,A,r⟩=>⟨x,(h x).1 A,r⟩,
  λf=>(g.gen f).trans ⟨zY λv l=>by simp only[YY]at l ⊢;exact l.imp id (h v).1,zY λv l=>by simp only[YY]at l ⊢;exact l.imp id (h v).2⟩⟩
theorem Grow.start{l:V2}(h:∀v∈l,El p n v):Grow p n W l [] l:=⟨λv u=>(by cases u),List.Pairwise.nil,h,λv u=>(by cases u),λf=>Iff.rfl⟩
theorem Grow.replace{E u Q:V2}{g x:V1}(h:Grow p n W E u (g::Q))(J:El p n x)(hd:dep g<=dep x)(H:Gen p n W (Fp u (dep g)) λj=>at_ g j-at_ x j):Grow p n W E u (x::Q):=by
 have D:∀M:V2,(∀v∈u,v∈M)->Gen p n W M λj=>at_ g j-at_ x j:=λM I=>zY (λv l=>I v (List.mem_filter.1 l).1) H;refine⟨h.led,h.asc,λy hy=>(YH.1 hy).elim (λe=>e ▸ J) λhy=>h.els y (by simp[hy]),λv l=>?_,λf=>(h.gen f).trans ⟨ZK λy hy=>?_,ZK λy hy=>?_⟩⟩
 .rcases h.clo v l with C|⟨y,hy,C,G⟩
  .exact .inl C
  .rcases YH.1 hy with rfl|hy
   .refine .inr ⟨x,by simp,by omega,?_⟩;have A:Gen p n W (Dp u (dep v)) λj=>at_ y j-at_ x j:=zY (λw hw=>by
     simp only[List.mem_filter,decide_eq_true_eq]at hw ⊢;exact⟨hw.1,by omega⟩) H
    have L:=(zM _).add _ _ G A;exact(zM _).eqv _ _ (Eqv.of_eq λj=>by omega) L
   .exact .inr ⟨y,by simp[hy],C,G⟩
 .simp only[YY,YH]at hy;rcases hy with hy|rfl|hy
  .exact zX (by simp[hy])
  .have A:=(zM (p:=p) (n:=n) (W:=W) (u++x::Q)).add _ _ (D _ λv l=>by simp[l]) (zX (v:=x) (by simp));exact(zM _).eqv _ _ (Eqv.of_eq λj=>by omega) A
  .exact zX (by simp[hy])
 .simp only[YY,YH]at hy;rcases hy with hy|rfl|hy
  .exact zX (by simp[hy])
  .have A:=(zM (p:=p) (n:=n) (W:=W) (u++g::Q)).sub (zX (v:=g) (by simp)) (D _ λv l=>by simp[l]);exact(zM _).eqv _ _ (Eqv.of_eq λj=>by omega) A
  .exact zX (by simp[hy])
theorem Grow.drop{A u Q:V2}{x:V1}(h:Grow p n W A u (x::Q))(C:∀j,at_ x j=0):Grow p n W A u Q:=by
 have G:∀M:V2,Gen p n W M (at_ x):=λM=>(zM M).eqv _ _ (Eqv.of_eq C) (zM M).zero;refine⟨h.led,h.asc,λy hy=>h.els y (by simp[hy]),λv E=>?_,λf=>(h.gen f).trans ⟨ZK λy hy=>?_,zY λy hy=>by simp only[YY,YH]at hy ⊢;exact hy.imp id .inr⟩⟩
 .rcases h.clo v E with l|⟨y,hy,l,D⟩
  .exact .inl l
  .rcases YH.1 hy with rfl|hy
   .exact .inl ((zM _).eqv _ _ (Eqv.of_eq λj=>by rw[C j];omega) D)
   .exact .inr ⟨y,hy,l,D⟩
 .simp only[YY,YH]at hy;rcases hy with hy|rfl|hy
  .exact zX (by simp[hy])
  .exact G _
  .exact zX (by simp[hy])
def insD:V2->V1->V2
 |[],x=>[x]
 |v::u,x=>if dep v<dep x then v::insD u x else x::v::u
theorem q9:∀{u:V2} {x v:V1},v∈insD u x↔v=x\/v∈u
 |[],x,v=>by simp[insD]
 |w::u,x,v=>by
  simp only[insD];split
  .rw[YH,q9,YH];constructor
   .rintro(h|h|h);exact .inr (.inl h);exact .inl h;exact .inr (.inr h)
   .rintro(h|h|h);exact .inr (.inl h);exact .inl h;exact .inr (.inr h)
  .simp
theorem zIi:∀{u:V2} {x:V1},Asc u->(∀v∈u,dep v≠dep x)->Asc (insD u x)
 |[],x,_,_=>List.pairwise_singleton _ _
 |w::u,x,hu,hx=>by
  obtain⟨h,A⟩:=List.pairwise_cons.1 hu;simp only[insD];split
  .rename_i l;refine List.pairwise_cons.2 ⟨λv hv=>?_,zIi A λv hv=>hx v (by simp[hv])⟩;rcases q9.1 hv with rfl|hv
   .exact l
   .exact h v hv
  .rename_i C
   have:=hx w (by simp)
   refine List.pairwise_cons.2 ⟨λv hv=>?_,hu⟩;rcases YH.1 hv with rfl|hv
   .omega
   .have:=h v hv;omega
theorem Zk:∀(u:V2) (x:V1),(insD u x).length=u.length+1
 |[],x=>rfl
 |w::u,x=>by simp only[insD];split<;>simp[Zk u x]
theorem Grow.insert{C u Q:V2}{x y z:V1}(h:Grow p n W C u (x::Q))(L:Led p n y)(hd:dep y=dep x)(J:∀v∈u,dep v≠dep x)(D:Gen p n W [y] (at_ x))(N:Gen p n W [x] (at_ y))(M:El p n z)(I:dep y<dep z)(A:Eqv p n W (at_ z) λj=>p*at_ y j):Grow p n W C (insD u y) (z::Q):=by
 have sub:∀d,∀v∈Dp u d,v∈Dp (insD u y) d:=λd v hv=>by
  simp only[List.mem_filter,decide_eq_true_eq]at hv ⊢;exact⟨q9.2 (.inr hv.1),hv.2⟩
 have H:∀d,d<dep y->y∈Dp (insD u y) d:=λd hd=>by
  simp only[List.mem_filter,decide_eq_true_eq];exact⟨q9.2 (.inl rfl),hd⟩
 refine⟨λv hv=>?_,zIi h.asc λv hv=>by rw[hd];exact J v hv,λv hv=>?_,λv hv=>?_,λf=>(h.gen f).trans ⟨ZK λv hv=>?_,ZK λv hv=>?_⟩⟩
 .rcases q9.1 hv with rfl|hv
  .exact L
  .exact h.led v hv
 .rcases YH.1 hv with rfl|hv
  .exact M
  .exact h.els v (by simp[hv])
 .rcases q9.1 hv with rfl|hv
  .refine .inr ⟨z,by simp,I,?_⟩
   have:=A.symm.add (Eqv.refl (p:=p) (n:=n) (W:=W) λj=>- at_ z j)
   refine(zM _).eqv _ _ ((Eqv.of_eq λj=>?_).trans (this.trans (Eqv.of_eq λj=>?_))) (zM _).zero
   .omega
   .omega
  .rcases h.clo v hv with l|⟨t,ht,l,E⟩
   .exact .inl (zY (sub _) l)
   .rcases YH.1 ht with rfl|ht
    .have q1:Gen p n W (Dp (insD u y) (dep v)) (at_ t):=zY (λw hw=>by rw[YN.1 hw];exact H _ (by omega)) D;have O:=(zM _).add _ _ (zY (sub (dep v)) E) q1;exact .inl ((zM _).eqv _ _ (Eqv.of_eq λj=>by omega) O)
    .exact .inr ⟨t,by simp[ht],l,zY (sub _) E⟩
 .simp only[YY,YH]at hv;rcases hv with hv|rfl|hv
  .exact zX (by simp[q9,hv])
  .exact zY (λw hw=>by rw[YN.1 hw];simp[q9]) D
  .exact zX (by simp[hv])
 .simp only[YY,YH,q9]at hv;have G:Gen p n W (u++x::Q) (at_ y):=zY (λw hw=>by rw[YN.1 hw];simp) N;rcases hv with (rfl|hv)|rfl|hv
  .exact G
  .exact zX (by simp[hv])
  .exact(zM _).eqv _ _ A ((zM _).mul p _ G)
  .exact zX (by simp[hv])
theorem zEx{v:V1}{t:V2}(h:∀w∈t,dep v<dep w):Dp (v::t) (dep v)=t:=by
 rw[Dp,List.filter_cons,if_neg (by simp)];exact List.filter_eq_self.2 λw hw=>by simpa using h w hw
theorem Grow.base{E:V2}:∀{u:V2},Grow p n W E u []->Base p n W u:=by
 have key:∀(u:V2),(∀v∈u,Led p n v)->Asc u->(∀v∈u,Gen p n W (Dp u (dep v)) λj=>p*at_ v j)->Base p n W u:=by
  intro u
  induction u with
  |nil=>intro _ _ _;exact .nil
  |cons v t ih=>
   intro D H C;obtain⟨A,G⟩:=List.pairwise_cons.1 H;have l:=C v (by simp);rw[zEx A]at l;refine .cons (D v (by simp)) A l (ih (λw hw=>D w (by simp[hw])) G λw hw=>?_);have J:=C w (by simp[hw])
   have:Dp (v::t) (dep w)=Dp t (dep w):=by
    rw[Dp,List.filter_cons,if_neg (by have:=A w hw;simp;omega)]
   rwa[this]at J
 intro u h;exact key u h.led h.asc λv l=>(h.clo v l).elim id λ⟨x,I,_⟩=>by cases I
theorem Grow.done{l u out:V2}(h:Grow p n W l u [])(c:Canon p n W u out):Canon p n W l out:=c.trans λf=>by
 have:=h.gen f
 rwa[Y0]at this
theorem zAZ{u:V2}(D:∀v∈u,dep v<n)(h:Asc u):u.length<=n:=by
 have:∀(u:V2) (m:Nat),(∀v∈u,m<=dep v/\dep v<n)->Asc u->m+u.length<=max m n:=by
  intro u
  induction u with
  |nil=>intro m _ _;simp;omega
  |cons v t ih=>
   intro m l h;obtain⟨A,C⟩:=List.pairwise_cons.1 h;have q:=l v (by simp)
   have:=ih (dep v+1) (λw hw=>⟨A w hw,(l w (by simp[hw])).2⟩) C
   rw[YS];omega
 have:=this u 0 (λv E=>⟨YW _,D v E⟩) h
 omega
theorem zLL(l:0<p){a k:Int}(h:0<=a/\a<=p-1)(e:a=0-k*p):a=0:=by
 rcases Int.lt_trichotomy k 0 with x|x|x
 .have:=YA (show k<=-1 by omega) (show 0<=p by omega)
  omega
 .rw[x]at e;omega
 .have:=YA (show 1<=k by omega) (show 0<=p by omega)
  omega
theorem zFR(o:OkW p n W){z:V1}{g:Vec}(A:El p n z)(h:Eqv p n W (at_ z) g){m:Nat}(G:m<=n)(l:∀j,j<m->g j=0):∀j,j<m->at_ z j=0:=by
 intro j C;have D:=o.pr;unfold okp at D;obtain⟨k,u⟩:=(Q0 o h (d:=j) (by omega) (λi _=>A.at0 o i) (λi E=>by rw[l i (by omega)];omega)).2;rw[l j C]at u;exact zLL (by omega) (A.at0 o j) u
theorem zD8{u:V2}{d:Nat}(h:∀v∈u,d<=dep v):Fp u d=u:=List.filter_eq_self.2 λv l=>by simpa using h v l
theorem zEB(o:OkW p n W):∀{u:V2} {g:V1},(∀v∈u,El p n v)->Asc u->El p n g->redL p W u g=redL p W (Fp u (dep g)) g
 |[],g,_,_,_=>rfl
 |v::u,g,hu,ha,hg=>by
  obtain⟨h,l⟩:=List.pairwise_cons.1 ha;by_cases hd:dep g<=dep v
  .rw[zD8];intro w hw;rcases YH.1 hw with rfl|hw
   .exact hd
   .have:=h w hw;omega
  .have e:Fp (v::u) (dep g)=Fp u (dep g):=by rw[Fp,List.filter_cons,if_neg (by simpa using hd)]
   rw[e,redL,zMl o hg (hu v (by simp)) (zg (by omega))];exact zEB o (λw hw=>hu w (by simp[hw])) l hg
theorem zCp{u:V2}{d:Nat}{v:V1}:v∈Fp u d↔v∈u/\d<=dep v:=by simp[Fp]
theorem zOX(o:OkW p n W){u:V2}{g:V1}(A:∀v∈u,Led p n v)(C:Asc u)(l:El p n g):dep g<=dep (redL p W u g):=by
 have D:=QL o (λv h=>(A v h).1) l;refine zAU (by rw[D.1,<-l.1];exact QG g) λj E=>?_;rw[zEB o (λv h=>(A v h).1) C l]
 have:=(zAf o (u:=Fp u (dep g)) (λv h=>A v (zCp.1 h).1) (C.sublist List.filter_sublist) l).2 j λv h=>by have:=(zCp.1 h).2;omega
 rw[this];exact zg E
theorem Grow.reduce(o:OkW p n W){D u Q:V2}{g:V1}(h:Grow p n W D u (g::Q)):Grow p n W D u (redL p W u g::Q):=by
 have l:=h.els g (by simp);have A:∀v∈u,El p n v:=λv C=>(h.led v C).1;refine h.replace (QL o A l) (zOX o h.led h.asc l) ?_;rw[zEB o A h.asc l];exact zAe o (λv C=>A v (zCp.1 C).1) l
theorem Grow.reduce1(o:OkW p n W){A u Q:V2}{g v:V1}(h:Grow p n W A u (g::Q))(D:v∈u)(hd:dep v=dep g):Grow p n W A u (red1 p W g v::Q)/\dep g<dep (red1 p W g v):=by
 have l:=h.els g (by simp);have lv:=h.led v D;have C:=zEC o l lv.1;have E:dep g<dep (red1 p W g v):=zAU (by rw[C.1];have:=lv.2.1;omega) λj H=>by
  rw[zGc o l lv (by omega)];split
  .rfl
  .exact zg (by omega)
 refine⟨h.replace C (by omega) ?_,E⟩;have G:=(zM (p:=p) (n:=n) (W:=W) (Fp u (dep g))).mul (at_ g (dep v)) _ (zX (zCp.2 ⟨D,by omega⟩));refine(zM _).eqv _ _ ?_ G
 have:=(zHw o l lv.1).symm.add (Eqv.refl (p:=p) (n:=n) (W:=W) λj=>at_ g (dep v)*at_ v j-at_ (red1 p W g v) j)
 refine(Eqv.of_eq λj=>?_).trans (this.trans (Eqv.of_eq λj=>?_))
 .omega
 .omega
theorem ZR(o:OkW p n W){x:V1}(l:El p n x)(k:Int):El p n (norm p W (lmix k x 0 x))/\Eqv p n W (at_ (norm p W (lmix k x 0 x))) λj=>k*at_ x j:=by
 have h:(lmix k x 0 x).length=n:=by rw[zR rfl];exact l.1
 exact⟨zBP o h,(qN o h).trans (Eqv.of_eq λj=>by rw[qK rfl];omega)⟩
theorem zBt(o:OkW p n W){x:V1}(A:El p n x)(hd:dep x<n){k:Int}(M:at_ x (dep x)*k % p=1):
  Led p n (norm p W (lmix k x 0 x))/\dep (norm p W (lmix k x 0 x))=dep x/\Gen p n W [norm p W (lmix k x 0 x)] (at_ x)/\Gen p n W [x] (at_ (norm p W (lmix k x 0 x))):=by
 have N:=o.pr;unfold okp at N;have C:(lmix k x 0 x).length=n:=by rw[zR rfl];exact A.1
 obtain⟨G,heq⟩:=ZR o A k;have D:∀j,j<dep x->at_ (lmix k x 0 x) j=0:=λj u=>by rw[qK rfl,zg u];simp
 have I:=zDZ o C (by omega) D;have l:=zG5 o C hd D;have e:at_ (lmix k x 0 x) (dep x)=at_ x (dep x)*k:=by rw[qK rfl,UB k];omega
 rw[e,M]at l;have h:dep (norm p W (lmix k x 0 x))=dep x:=zGK I (by rw[l];decide);refine⟨⟨G,by rw[h];exact hd,by rw[h];exact l⟩,h,?_,?_⟩
 .obtain⟨t,ht⟩:∃t,at_ x (dep x)*k=1+p*t:=⟨at_ x (dep x)*k / p,by have:=Int.emod_add_mul_ediv (at_ x (dep x)*k) p;omega⟩
  obtain⟨e,s,E⟩:=inv_one (p:=p) t n (by omega);have H:=(zM (p:=p) (n:=n) (W:=W) [norm p W (lmix k x 0 x)]).mul (e*at_ x (dep x)) _ (zX (YN.2 rfl));have O:=(zAk o (f:=at_ x) λj u=>A.beyond u).mul (-s);refine(zM _).eqv _ _ ?_ H;have J:=heq.symm.mul (e*at_ x (dep x));have L:=J.add O;refine(Eqv.of_eq λj=>?_).trans (L.trans (Eqv.of_eq λj=>by simp))
  have:e*at_ x (dep x)*(k*at_ x j)=(e*(at_ x (dep x)*k))*at_ x j:=by simp only[UT]
  rw[this,ht,E,Uv,Uf]
  have:-s*(pw_ p n*at_ x j)=-(pw_ p n*s*at_ x j):=by rw[Ux,Int.mul_left_comm,UT]
  rw[this];omega
 .refine(zM _).eqv _ _ heq ((zM _).mul k _ (zX (YN.2 rfl)))
theorem zIB(o:OkW p n W){y:V1}(u:El p n y)(hd:dep y<n):dep y<dep (norm p W (lmix p y 0 y)):=by
 obtain⟨l,heq⟩:=ZR o u p;obtain⟨g,A,C,D⟩:=push o hd (f:=at_ y) (λj h=>zg h) λj h=>u.beyond h
 have:=zFR o l (heq.trans A) (m:=dep y+1) (by omega) λj h=>C j (by omega)
 exact zAU (by rw[l.1];omega) this
theorem Grow.take(o:OkW p n W){A u Q:V2}{x:V1}{k:Int}(h:Grow p n W A u (x::Q))(hd:dep x<n)(C:∀v∈u,dep v≠dep x)(J:at_ x (dep x)*k % p=1):
  Grow p n W A (insD u (norm p W (lmix k x 0 x))) (norm p W (lmix p (norm p W (lmix k x 0 x)) 0 (norm p W (lmix k x 0 x)))::Q):=by
 have L:=h.els x (by simp);obtain⟨l,D,E,G⟩:=zBt o L hd J;obtain⟨H,I⟩:=ZR o l.1 p;exact h.insert l D C E G H (zIB o l.1 l.2.1) I
theorem zDo{p a:Int}(h:p=2\/p=3\/p=5\/p=7)(l:0<a)(u:a<p):∃x,1<=x/\x<p/\a*x % p=1:=by
 rcases h with rfl|rfl|rfl|rfl
 .exact⟨1,by omega,by omega,by
   have:a=1:=by omega
   subst this;decide⟩
 .obtain rfl|rfl:a=1\/a=2:=by omega
  .exact⟨1,by decide,by decide,by decide⟩
  .exact⟨2,by decide,by decide,by decide⟩
 .obtain rfl|rfl|rfl|rfl:a=1\/a=2\/a=3\/a=4:=by omega
  .exact⟨1,by decide,by decide,by decide⟩
  .exact⟨3,by decide,by decide,by decide⟩
  .exact⟨2,by decide,by decide,by decide⟩
  .exact⟨4,by decide,by decide,by decide⟩
 .obtain rfl|rfl|rfl|rfl|rfl|rfl:a=1\/a=2\/a=3\/a=4\/a=5\/a=6:=by omega
  .exact⟨1,by decide,by decide,by decide⟩
  .exact⟨4,by decide,by decide,by decide⟩
  .exact⟨5,by decide,by decide,by decide⟩
  .exact⟨2,by decide,by decide,by decide⟩
  .exact⟨3,by decide,by decide,by decide⟩
  .exact⟨6,by decide,by decide,by decide⟩
end Go.Lie
namespace Go.Proofs
open Go.Ab Go.Lie
variable{σ:PHeap}{K:PV->PHeap->Prop}{p:Int}{n:Nat}{W:V2}{B:V3}{vP vB vU:PV}
theorem zNl{a p:Int}(A:isP p)(u:0<a/\a<p)(H:∀x,1<=x->x<p->a*x % p=1->K (.int .i64 x) σ):zA Tryz.prog 151 [.int .i64 a,.int .i64 p] σ K:=by
 have M:=A.bd;obtain⟨y,J,O,C⟩:=zDo A u.1 u.2;refine zD mix Tryz.func151 ?_;simp only[Z3,seval,-ae];refine zF (λm vs h'=>∃i:Int,1<=i/\i<=y/\m=(y-i).toNat/\vs=[.int .i64 a,.int .i64 p,.int .i64 i]/\σ=h') (y-1).toNat ?_ ?_
 .exact⟨1,by omega,J,rfl,rfl,rfl⟩
 rintro m vs h' ⟨i,G,L,rfl,rfl,rfl⟩
 have l:i<p:=by omega
 simp only[Z3,seval,-ae,l];refine zDk (by omega) (by omega) ?_;have D:a % p=a:=Yc (by omega) (by omega);have I:a*i<=49/\0<=a*i:=by
  have h:=Yw (show i<=7 by omega) (show 0<=a by omega);have N:=UY (show 0<=a by omega) (show 0<=i by omega);omega
 have E:p≠0:=by omega
 rw[D];simp only[Z3,seval,-ae,wrap64 (n:=a*i) (by omega) (by omega),E];have e:(a*i).tmod p=a*i % p:=Yr I.2;rw[e];by_cases h:a*i % p=1
 .simp only[Z3,seval,-ae,h];exact H i G l h
 .have an:i≠y:=λe=>h (by rw[e];exact C);simp only[Z3,seval,-ae,h,wrap64 (n:=i+1) (by omega) (by omega)];exact⟨_,by omega,i+1,by omega,by omega,rfl,rfl⟩
theorem zKO{l:Nat}{w:Bool}{a:AV}{xs:V1}(C:l=xs.length)(E:xs.length<=1048576)(A:K (.int .i64 (dep xs)) σ):zA Tryz.prog 207 [.fz w a l (pis xs)] σ K:=by
 subst C;refine zD mix Tryz.func207 ?_;simp only[Z3,seval,-ae];refine zF (λm vs h'=>∃i:Nat,i<=dep xs/\m=dep xs-i/\vs=[.fz w a xs.length (pis xs),.int .i64 i]/\σ=h') (dep xs) ?_ ?_
 .exact⟨0,by omega,by omega,rfl,rfl⟩
 rintro m vs h' ⟨i,G,rfl,rfl,rfl⟩
 have D:=QG xs;by_cases h:i<xs.length
 .simp only[Z3,seval,-ae,h,zK,gi h];refine iteI (λu=>?_) λu=>?_
  .have jJ:i<dep xs:=by
    rcases YG i (dep xs)with x|x
    .exact x
    .have:i=dep xs:=by omega
     subst this;exact absurd (by rw[at_eq h];exact u) (qz h)
   simp only[Z3,seval,-ae,WX h];exact⟨_,by omega,i+1,by omega,rfl,rfl⟩
  .have jJ:i=dep xs:=by
    rcases YG i (dep xs)with x|x
    .exact absurd (by rw[<-at_eq h];exact zg x) u
    .omega
   subst jJ;exact A
 .have jJ:i=dep xs:=by omega
  subst jJ;simp only[Z3,seval,-ae,h];exact A
theorem zAs{l:Nat}{w:Bool}{a:AV}{xs:V1}(A:l=xs.length)(h:xs.length<=1048576)(u:K (.int .i64 (dep xs)) σ):zA Tryz.prog 152 [.fz w a l (pis xs)] σ K:=by
 refine zD mix Tryz.func152 ?_;simp only[Z3,seval,-ae];refine zKO A h ?_;simp only[Z3,seval,-ae];exact u
theorem zHB{l:Nat}{w:Bool}{a:AV}{xs:V1}(A:l=xs.length)(h:xs.length<=4294967296)(u:∀v,K (.fz true v xs.length (pis xs)) σ):zA Tryz.prog 206 [.fz w a l (pis xs)] σ K:=
 zA.fz (λK'=>qg A h) (zL _ _) λo cap=>u _
theorem zGy(u:V2)(v x:V1):redL p W (u++[v]) x=red1 p W (redL p W u x) v:=by
 induction u generalizing x with
 |nil=>rfl
 |cons w u ih=>rw[Yo,redL,ih,redL]
theorem zBj{l:Nat}{w:Bool}{a:AV}{u:V2}{x:V1}(E:IsR vP vB W B)(o:OkW p n W)(P:FII vU u)(I:∀v∈u,El p n v/\dep v<n)(dO:u.length<=1048576)(G:El p n x)(R:l=x.length)
  (Q:∀v,K (.fz true v n (pis (redL p W u x))) σ):zA Tryz.prog 149 [.agg [.int .i64 p,vP,vB],vU,.fz w a l (pis x)] σ K:=by
 have N:=E.P.one;have O:=E.B.one;have be:=o.le;have S:=o.pr;unfold okp at S;obtain⟨Y,al,U,rfl,J⟩:=P;refine zA.gh ?_;refine zD mix Tryz.func149 ?_;simp only[Z3,seval,-ae,N,O];refine zHB R (by rw[G.1];omega) λX=>?_;rw[G.1];simp only[Z3,seval,-ae];refine zF (λm vs h'=>∃i:Nat,i<=u.length/\m=u.length-i/\∃v,vs=[.fz Y al u.length U,.ptr σ.next 0,.fz true v n (pis (redL p W (u.take i) x)),.int .i64 i]/\σ.new [.int .i64 p,vP,vB]=h') u.length ?_ ?_
 .exact⟨0,by omega,by omega,X,by rw[UP,redL];rfl,rfl⟩
 rintro m vs h' ⟨i,hi,rfl,v,rfl,rfl⟩
 simp only[Z3,seval,-ae];have A:El p n (redL p W (u.take i) x):=QL o (λv T=>(I v (UM T)).1) G;refine iteI (λh=>?_) λaF=>?_
 .obtain⟨w4,a4,H⟩:=J.rowI h;have C:=I _ (YK h);have M:redL p W (u.take (i+1)) x=red1 p W (redL p W (u.take i) x) u[i]:=by rw[YU h,zGy]
  generalize hy:redL p W (u.take i) x=y at *
  have D:dep u[i] < y.length:=by rw[A.1];exact C.2
  have Z:=A.at o.pr (dep u[i]);rw[at_eq D]at Z;simp only[Z3,seval,-ae,h,H];refine zAs rfl (by rw[C.1.1];omega) ?_;have L:IntKind.i64.wrap (0-y[dep u[i]])=-y[dep u[i]]:=WQ
  simp only[Z3,seval,-ae,h,H,C.2,zK,gi D,L];refine z8 E o A C.1 A.1.symm rfl (by decide) (by omega) λV=>?_;simp only[Z3,seval,-ae,WX h];refine⟨_,by omega,i+1,by omega,rfl,V,?_⟩;rw[M,red1,at_eq D]
 .have aU:i=u.length:=by omega
  subst aU;rw[Yg];exact Gh.fin0 (zC σ _) trivial (Q v)
theorem zHE:∀(u:V2) (x:V1) (k:Nat),k<=u.length->(∀j (h:j<u.length),j<k->dep u[j] < dep x)->(∀h:k<u.length,¬dep u[k] < dep x)->insD u x=u.take k++[x]++u.drop k
 |[],x,k,hk,_,_=>by
  have:k=0:=by simpa using hk
  subst this;rfl
 |v::u,x,0,_,_,h2=>by
  have:=h2 (by simp)
  simp only[List.getElem_cons_zero]at this;rw[insD,if_neg this];rfl
 |v::u,x,k+1,hk,h1,h2=>by
  have:=h1 0 (by simp) (by omega)
  simp only[List.getElem_cons_zero]at this;rw[insD,if_pos this,zHE u x k (by simpa using hk) (λj h l=>by have:=h1 (j+1) (by simpa using h) (by omega);simpa using this) (λh=>by have:=h2 (by simpa using h);simpa using this)];rfl
theorem zIX{l:Nat}{w:Bool}{a:AV}{u:V2}{x:V1}(hL:FII vU u)(hu:∀v∈u,v.length<=1048576)(dO:u.length<=1048576)(X:x.length<=1048576)(hl:l=x.length)
  (hk:∀v,FII v (insD u x)->K v σ):zA Tryz.prog 153 [vU,.fz w a l (pis x)] σ K:=by
 subst hl;obtain⟨wl,al,C,rfl,G⟩:=hL;refine zA.gh ?_;refine zD mix Tryz.func153 ?_;simp only[Z3,seval,-ae];refine zF (λm vs h'=>∃i:Nat,i<=u.length/\m=u.length-i/\vs=[.fz wl al u.length C,.fz w a x.length (pis x),.int .i64 i]/\σ=h'/\∀j (h:j<u.length),j<i->dep u[j] < dep x) u.length ?_ ?_
 .exact⟨0,by omega,by omega,rfl,rfl,λj h hj=>by omega⟩
 rintro m vs h' ⟨i,S,rfl,rfl,rfl,R⟩
 have fin:(∀h:i<u.length,¬dep u[i] < dep x)->insD u x=u.take i++[x]++u.drop i:=zHE u x i S R;have tail:(∀h:i<u.length,¬dep u[i] < dep x)->∀O h',Keep σ h'->PSl σ.next 1 h' O (u.length+1) (C.take i++[PV.fz w a x.length (pis x)]++C.drop i)->Gh σ K O h':=λhs O h' V ha=>by
  have Q:All2 FI (C.take i++[PV.fz w a x.length (pis x)]++C.drop i) (insD u x):=by
   rw[fin hs];exact((G.take i).append (All2.nil FI |>.snoc ⟨w,a,rfl⟩)).append (G.drop i)
  exact ha.fin V (Q.bI 0) λo cap=>hk _ ⟨true,.sl o 0 (u.length+1) cap,_,by rw[Zk],Q⟩
 have My:=G.1;have H:i<=u.length:=S;have U:(C.drop i).take (u.length-i)=C.drop i:=YR (by rw[UK];omega);by_cases A:i<u.length
 .obtain⟨w4,a4,T⟩:=G.rowI A;simp only[Z3,seval,-ae,A,T];refine zAs rfl (hu _ (YK A)) ?_;simp only[Z3,seval,-ae,A,T];refine zAs rfl X ?_;simp only[Z3,seval,-ae];refine iteI (λhd=>?_) λhd=>?_
  .simp only[Z3,seval,-ae,WX A];refine⟨_,by omega,i+1,by omega,rfl,rfl,λj h hj=>?_⟩;by_cases e:j=i
   .subst e;exact hd
   .exact R j h (by omega)
  .simp only[Z3,seval,-ae,H,Nat.sub_zero];refine PSl.cat (bytes:=24) (σb:=σ) (n:=0) (cs:=[]) (zC σ _) (PSl.new _ 1 rfl (na _)) (by rw[Yu];omega) (by omega) (by omega) λv1 Y L D=>?_;rw[Ys,Y5]at D;simp only[Z3,seval,-ae];refine PSl.push (bytes:=24) L D (by omega) (by omega) λv2 Z M I=>?_;simp only[Z3,seval,-ae,H,U];refine PSl.cat (bytes:=24) M I (by rw[UK];omega) (by omega) (by omega) λP J N E=>?_;simp only[Z3,seval,-ae];refine tail ?_ P J N ?_
   .exactλ_=>hd
   .have:i+1+(u.length-i)=u.length+1:=by omega
    rw[this]at E;exact E
 .simp only[Z3,seval,-ae,A];simp only[Z3,seval,-ae,A,Int.ofNat_le,H,Nat.sub_zero];refine PSl.cat (bytes:=24) (σb:=σ) (n:=0) (cs:=[]) (zC σ _) (PSl.new _ 1 rfl (na _)) (by rw[Yu];omega) (by omega) (by omega) λv1 Y L D=>?_;rw[Ys,Y5]at D;simp only[Z3,seval,-ae];refine PSl.push (bytes:=24) L D (by omega) (by omega) λv2 Z M I=>?_;simp only[Z3,seval,-ae,H,U];refine PSl.cat (bytes:=24) M I (by rw[UK];omega) (by omega) (by omega) λP J N E=>?_;simp only[Z3,seval,-ae];refine tail ?_ P J N ?_
  .exactλh=>absurd h A
  .have:i+1+(u.length-i)=u.length+1:=by omega
   rw[this]at E;exact E
variable{vL:PV}
theorem Qt:∀u:V2,(finS p W u).length=u.length
 |[]=>rfl
 |v::t=>by simp[finS,Qt t]
theorem zIp:∀(u:V2) (k:Nat) (h:k<u.length),(finS p W u)[k]? = some (redL p W (u.drop (k+1)) u[k])
 |[],k,h=>by simp at h
 |v::t,0,h=>by simp[finS]
 |v::t,k+1,h=>by
  have:=zIp t k (by simpa using h)
  simp only[finS,List.getElem?_cons_succ,List.drop_succ_cons,List.getElem_cons_succ];exact this
theorem zCe{xs:V1}(h:isZ xs)(j:Nat):at_ xs j=0:=by
 rcases YG j xs.length with x|x
 .rw[at_eq x];exact h _ (YK x)
 .exact at_ge x
theorem zCJ{xs:V1}(h:¬isZ xs):dep xs<xs.length:=by
 rcases YG (dep xs) xs.length with x|x
 .exact x
 .exact absurd (zPS (by have:=QG xs;omega)) h
theorem zRH{u:V2}{x:V1}(A:∀v∈u,at_ x (dep v)=0)(l:dep x<x.length):∀v∈u,dep v≠dep x:=λv h e=>qz l (by rw[<-e];exact A v h)
theorem zNf{h:V2}(E:IsR vP vB W B)(o:OkW p n W)(hp:isP p)(hL:FII vL h)(he:Els p n h)(Ce:h.length<=1048576)(hk:∀out rows cap,Canon p n W h out->All2 FI rows out->full 1 cap out.length->K (.sl σ.next 0 out.length cap) (σ.new rows)):
  zA Tryz.prog 75 [.agg [.int .i64 p,vP,vB],vL] σ K:=by
 have h1:=E.P.one;have h2:=E.B.one;have be:=o.le;have gX:=hp.bd;have u9:-1000000000<=p/\p<=1000000000:=by omega
 obtain⟨wl,al,rl,rfl,bF⟩:=hL;refine zA.gh ?_;refine qG mix Tryz.func75 ?_;simp only[Z3,seval,-ae,h1,h2];generalize N:((σ.new [.int .i64 p,vP,vB]).new []).kill (σ.next+1)=H;have eX:H.next=σ.next+2:=by rw[<-N];simp only[Z3,seval,-ae]
 have ll:Keep σ H:=by rw[<-N];exact((zC σ _).new _).kill (by omega)
 have G:H.rd σ.next 0 3=some [.int .i64 p,vP,vB]:=by rw[<-N];simp only[Z3,seval,-ae]
 have M:H.rd1 σ.next 0=some (.int .i64 p):=by rw[<-N];simp only[Z3,seval,-ae]
 have D:∀{u Q:V2},Grow p n W h u Q->(∀v∈u,El p n v/\dep v<n)/\u.length<=n:=λg=>⟨λv C=>⟨(g.led v C).1,(g.led v C).2.1⟩,zAZ (λv C=>(g.led v C).2.1) g.asc⟩
 refine ZU (λm vs h'=>∃i:Nat,i<=h.length/\m=h.length-i/\∃vU u,vs=[.fz wl al h.length rl,.ptr σ.next 0,vU,.int .i64 i]/\H=h'/\FII vU u/\Grow p n W h u (h.drop i)) h.length ?_ ?_
 .refine .fz (σ.next+1) [] (by simp only[Z3,seval,-ae]) trivial λo1=>.here ?_;rw[N];refine⟨0,by omega,by omega,.fz true (.sl o1 0 0 (.known 0)) 0 [],[],?_,rfl,⟨_,_,_,rfl,All2.nil _⟩,by rw[List.drop_zero];exact Grow.start he⟩;simp only[Z3,seval,-ae];simp only[sbs,sb,capOK,na,decide_true,and_self,if_true];rfl
 rintro m vs h' ⟨i,hi,rfl,vU,u,rfl,rfl,L,l⟩
 simp only[Z3,seval,-ae];refine iteI (λA=>?_) λP=>?_
 .obtain⟨w4,a4,hr⟩:=bF.rowI A;have P:=he _ (YK A);have hd:h.drop i=h[i]::h.drop (i+1):=List.drop_eq_getElem_cons A;rw[hd]at l;simp only[Z3,seval,-ae,A,hr,G,M];refine zBj E o L (D l).1 (by have:=(D l).2;omega) P rfl λv0=>?_;simp only[Z3,seval,-ae];refine zF (λm vs h'=>∃vU u vX x,m=n-u.length/\vs=[.fz wl al h.length rl,.ptr σ.next 0,vU,.int .i64 i,.fz true vX n (pis x)]/\H=h'/\FII vU u/\Grow p n W h u (x::h.drop (i+1))/\∀v∈u,at_ x (dep v)=0) (n-u.length) ?_ ?_
  .exact⟨vU,u,v0,_,rfl,rfl,rfl,L,l.reduce o,(zAf o l.led l.asc P).1⟩
  rintro m vs h' ⟨vU,u,vX,x,rfl,rfl,rfl,L,l,hz⟩
  have O:=l.els x (by simp);have S:=O.1;simp only[Z3,seval,-ae];refine ZO S.symm (by omega) ?_;by_cases U:isZ x
  .simp only[Z3,seval,-ae,U,WX A];exact⟨_,by omega,.here ⟨i+1,by omega,rfl,vU,u,rfl,rfl,L,l.drop (zCe U)⟩⟩
  .have gu:dep x<x.length:=zCJ U;have T:dep x<n:=by omega
   have Ei:=O.at0 o (dep x);have an:=qz gu;rw[at_eq gu]at Ei an;simp only[Z3,seval,-ae,U,G,M];refine zAs S.symm (by omega) ?_;simp only[Z3,seval,-ae,T,gu,gi gu,zK,G,M];refine zNl hp (by omega) λk bQ dq vj=>?_;simp only[Z3,seval,-ae,T,gu,gi gu,zK,G,M];refine z8 E o O O S.symm S.symm (by omega) (by decide) λv1=>?_;have J:=l.take o T (zRH hz gu) (k:=k) (by rw[at_eq gu];exact vj);obtain⟨I,y2,y3,y4⟩:=zBt o O T (k:=k) (by rw[at_eq gu];exact vj);generalize norm p W (lmix k x 0 x)=y at *
   simp only[Z3,seval,-ae];refine zIX L (λv C=>by rw[((D l).1 v C).1.1];omega) (by have:=(D l).2;omega) (by rw[I.1.1];omega) I.1.1.symm λKo IL=>?_;simp only[Z3,seval,-ae,G,M];refine z8 E o I.1 I.1 I.1.1.symm I.1.1.symm u9 (by decide) λv2=>?_;obtain⟨z1,z2⟩:=ZR o I.1 p;generalize norm p W (lmix p y 0 y)=z at *
   simp only[Z3,seval,-ae,G,M];refine zBj E o IL (D J).1 (by have:=(D J).2;omega) z1 z1.1.symm λv3=>?_;simp only[Z3,seval,-ae];have hlen:=(D J).2;rw[Zk]at hlen;exact⟨_,by rw[Zk];omega,Ko,insD u y,v3,_,rfl,rfl,IL,J.reduce o,(zAf o J.led J.asc z1).1⟩
 .have aU:i=h.length:=by omega
  subst aU;rw[List.drop_length]at l;have X:=l.base;have y8:=(D l).2;obtain⟨eE,_⟩:=zK0 o X;obtain⟨wu,au,Z,rfl,Y⟩:=L;have Mw:=Y.1;refine zF (λm vs h'=>∃k:Nat,k<=u.length/\m=u.length-k/\∃vO rows,vs=[.ptr σ.next 0,.fz wu au u.length Z,vO,.int .i64 k]/\Keep H h'/\PSl H.next 1 h' vO k rows/\All2 FI rows ((finS p W u).take k)) u.length ?_ ?_
  .exact⟨0,by omega,by omega,_,[],rfl,zC H _,PSl.new _ 1 rfl (na _),by simpa using All2.nil _⟩
  rintro m vs h' ⟨k,bA,rfl,vO,rows,rfl,V,ha,R⟩
  simp only[Z3,seval,-ae];refine iteI (λA=>?_) λP=>?_
  .obtain⟨w5,a5,cK⟩:=Y.rowI A;have hle:k+1<=u.length:=A;have j9:(Z.drop (k+1)).take (u.length-(k+1))=Z.drop (k+1):=YR (by rw[UK];omega);have F5:h'.rd σ.next 0 3=some [.int .i64 p,vP,vB]:=by rw[V.rd (by omega)];exact G
   simp only[Z3,seval,-ae,A,cK,F5,hle,j9,WX A];refine zBj E o (u:=u.drop (k+1)) ⟨false,pslA 1 au (k+1) u.length,_,by rw[UK],Y.drop _⟩ (λv C=>(D l).1 v (List.mem_of_mem_drop C)) (by rw[UK];omega) (X.led _ (YK A)).1 rfl λv1=>?_;simp only[Z3,seval,-ae];refine PSl.push (bytes:=24) V ha (by omega) (by omega) λKp h2 k2 a2=>?_;simp only[Z3,seval,-ae,WX A];refine⟨_,by omega,k+1,by omega,rfl,Kp,_,rfl,k2,a2,?_⟩;have vE:=zIp (p:=p) (W:=W) u k A;have ij:k<(finS p W u).length:=by rw[Qt];exact A
   rw[YU ij];rw[YQ ij]at vE;rw[Option.some.inj vE];have EI:=(QL o (u:=u.drop (k+1)) (λv C=>((D l).1 v (List.mem_of_mem_drop C)).1) (X.led _ (YK A)).1).1;exact R.snoc ⟨true,v1,by rw[EI]⟩
  .have aU:k=u.length:=by omega
   subst aU;rw[YR (by rw[Qt];exact na _)]at R;obtain⟨s,cap,rfl,hc,q2,q3,q4,q5⟩:=ha;have fA:=hk (finS p W u) rows cap (l.done eE) R (by rw[Qt];exact hc);rw[Qt]at fA;exact Gh.finS (ll.trans V) q2 (by omega) (R.bI _) fA
theorem zLx{h:V2}(D:IsR vP vB W B)(o:OkW p n W)(I:isP p)(C:FII vL h)(G:Els p n h)(u:h.length<=1048576)(H:∀v out,Canon p n W h out->FII v out->K v σ):
  zA Tryz.prog 75 [.agg [.int .i64 p,vP,vB],vL] σ K:=by
 refine zA.gh (zNf D o I C G u λout rows cap E l A=>?_);exact Gh.finF (s:=σ.next) (zC σ _) (by rw[zH,if_pos rfl]) (na _) (l.bI 0) A.ok λJ=>H _ out E ⟨true,.sl J 0 out.length cap,rows,rfl,l⟩
variable{s:Nat}
def euc(p a:Int):Nat->Int×Int×Int×Int
 |0=>(p,a,0,1)
 |k+1=>let t:=euc p a k
  if t.2.1=0 then t else(t.2.1,t.1-t.1.tdiv t.2.1*t.2.1,t.2.2.2,t.2.2.1-t.1.tdiv t.2.1*t.2.2.2)
def eucOK(p a:Int)(k:Nat):Bool:=
 let t:=euc p a k
 decide (-7<=t.1/\t.1<=7/\-7<=t.2.1/\t.2.1<=7/\-7<=t.2.2.1/\t.2.2.1<=7/\-7<=t.2.2.2/\t.2.2.2<=7/\-7<=t.1.tdiv t.2.1/\t.1.tdiv t.2.1<=7/\-49<=t.1.tdiv t.2.1*t.2.1/\t.1.tdiv t.2.1*t.2.1<=49/\-49<=t.1.tdiv t.2.1*t.2.2.2/\t.1.tdiv t.2.1*t.2.2.2<=49/\(k=8->t.2.1=0)/\(t.2.1=0->a*(t.2.2.1 % p) % p=1 % p))
theorem zQZ:∀p∈[2,3,5,7],∀a∈[1,2,3,4,5,6],(a:Int)<p->∀k∈[0,1,2,3,4,5,6,7,8],eucOK p a k=true:=by decide +kernel
theorem zRN{a:Int}(l:isP p)(u:0<a/\a<p){k:Nat}(C:k<=8):eucOK p a k=true:=by
 have A:=l.bd;refine zQZ p ?_ a ?_ u.2 k ?_
 .rcases l with h|h|h|h<;>simp[h]
 .have:a=1\/a=2\/a=3\/a=4\/a=5\/a=6:=by omega
  rcases this with h|h|h|h|h|h<;>simp[h]
 .have:k=0\/k=1\/k=2\/k=3\/k=4\/k=5\/k=6\/k=7\/k=8:=by omega
  rcases this with h|h|h|h|h|h|h|h|h<;>simp[h]
theorem zDG{a:Int}(A:isP p)(G:0<a/\a<p)(H:∀(x:Int) (b:Bool),0<=x->x<p->a*x % p=1->K (.tup [.int .i64 x,.bool b]) σ):zA Tryz.prog 141 [.int .i64 a,.int .i64 p] σ K:=by
 have Y:=A.bd;refine zD mix Tryz.func141 ?_;simp only[Z3,seval,-ae];refine zF (λm vs h'=>∃k:Nat,k<=8/\m=8-k/\vs=[.int .i64 p,.int .i64 (euc p a k).1,.int .i64 (euc p a k).2.1,.int .i64 (euc p a k).2.2.1,.int .i64 (euc p a k).2.2.2]/\σ=h') 8 ?_ ?_
 .exact⟨0,by omega,by omega,rfl,rfl⟩
 rintro m vs h' ⟨k,C,rfl,rfl,rfl⟩
 have l:=zRN A G C;unfold eucOK at l;have u:euc p a (k+1)=if (euc p a k).2.1=0 then euc p a k else((euc p a k).2.1,(euc p a k).1-(euc p a k).1.tdiv (euc p a k).2.1*(euc p a k).2.1,(euc p a k).2.2.2,(euc p a k).2.2.1-(euc p a k).1.tdiv (euc p a k).2.1*(euc p a k).2.2.2):=rfl
 generalize Z:euc p a k=T at *
 obtain⟨r,nx,x,y⟩:=T;dsimp only at l u ⊢;simp only[decide_eq_true_eq]at l;obtain⟨b1,O,P,Q,R,S,U,V,X,I,N,M,L,J,E,D⟩:=l;by_cases h:nx=0
 .subst h;simp only[Z3,seval,-ae];refine zA6 (by omega) (by omega) ?_;simp only[Z3,seval,-ae];refine H _ _ (Ya _ (by omega)) (Y4 _ (by omega)) ?_;rw[D rfl];exact Yc (by omega) (by omega)
 .rw[if_neg h]at u;have iI:k≠8:=λe=>h (E e);simp only[Z3,seval,-ae,h,wrap64 (n:=r.tdiv nx) (by omega) (by omega),wrap64 (n:=r.tdiv nx*nx) (by omega) (by omega),wrap64 (n:=r.tdiv nx*y) (by omega) (by omega),wrap64 (n:=r-r.tdiv nx*nx) (by omega) (by omega),wrap64 (n:=x-r.tdiv nx*y) (by omega) (by omega)];refine⟨_,by omega,k+1,by omega,rfl,?_⟩;rw[u]
theorem zAT{l:Nat}{w:Bool}{a:AV}{xs:V1}(C:l=xs.length)(E:xs.length<=1048576)(A:K (.int .i64 (dep xs)) σ):zA Tryz.prog 140 [.fz w a l (pis xs)] σ K:=by
 subst C;refine zD mix Tryz.func140 ?_;simp only[Z3,seval,-ae];refine zF (λm vs h'=>∃i:Nat,i<=dep xs/\m=dep xs-i/\vs=[.fz w a xs.length (pis xs),.fz w a xs.length (pis xs),.int .i64 xs.length,.int .i64 i]/\σ=h') (dep xs) ?_ ?_
 .exact⟨0,by omega,by omega,rfl,rfl⟩
 rintro m vs h' ⟨i,G,rfl,rfl,rfl⟩
 have D:=QG xs;by_cases h:i<xs.length
 .by_cases u:xs[i]=0
  .have jJ:i<dep xs:=by
    rcases YG i (dep xs)with x|x
    .exact x
    .have:i=dep xs:=by omega
     subst this;exact absurd (by rw[at_eq h];exact u) (qz h)
   simp only[Z3,seval,-ae,h,zK,gi h,u,WX h];exact⟨_,by omega,i+1,by omega,rfl,rfl⟩
  .have jJ:i=dep xs:=by
    rcases YG i (dep xs)with x|x
    .exact absurd (by rw[<-at_eq h];exact zg x) u
    .omega
   subst jJ;simp only[Z3,seval,-ae,h,zK,gi h,u];exact A
 .have jJ:i=dep xs:=by omega
  subst jJ;simp only[Z3,seval,-ae,h];have hd:dep xs=xs.length:=by omega
  rw[hd]at A;exact A
theorem zP7{x:Int}(h:K (.bool (!decide (x=0))) σ):zA Tryz.prog 236 [.int .i64 x] σ K:=by
 refine zD mix Tryz.func236 ?_;simp only[Z3,seval,-ae];exact h
theorem zQ7:okF Tryz.prog 236=true:=by kernel_rfl
theorem zJR{l:Nat}{w:Bool}{a:AV}{xs:V1}(C:l=xs.length)(D:xs.length<=1048576)(hd:dep xs<xs.length)(A:K (.int .i64 (dep xs)) σ):
  zA Tryz.prog 235 [.fz w a l (pis xs),.clo 236 [] []] σ K:=by
 subst C;refine zD mix Tryz.func235 ?_;simp only[Z3,seval,-ae];refine zF (λm vs h'=>∃i:Nat,i<=dep xs/\m=dep xs-i/\vs=[.fz w a xs.length (pis xs),.clo 236 [] [],.int .i64 xs.length,.int .i64 i]/\σ=h') (dep xs) ?_ ?_
 .exact⟨0,by omega,by omega,rfl,rfl⟩
 rintro m vs h' ⟨i,E,rfl,rfl,rfl⟩
 have h:i<xs.length:=by omega
 simp only[Z3,seval,-ae,h,zK,gi h];refine⟨zQ7,zP7 ?_⟩;by_cases u:xs[i]=0
 .have jJ:i<dep xs:=by
   rcases YG i (dep xs)with x|x
   .exact x
   .have:i=dep xs:=by omega
    subst this;exact absurd (by rw[at_eq h];exact u) (qz h)
  simp only[Z3,seval,-ae,u,ne_eq,not_true,decide_false,WX h];exact⟨_,by omega,i+1,by omega,rfl,rfl⟩
 .have jJ:i=dep xs:=by
   rcases YG i (dep xs)with x|x
   .exact absurd (by rw[<-at_eq h];exact zg x) u
   .omega
  subst jJ;simp only[Z3,seval,-ae,u,ne_eq,not_false_iff,decide_true];exact A
abbrev deps(u:V2):V1:=u.map λv=>(dep v:Int)
theorem zG3{u:V2}(G:FII vU u)(J:∀v∈u,dep v<v.length/\v.length<=1048576)(R:u.length<=1048576)(H:∀v,K (.fz true v u.length (pis (deps u))) σ):zA Tryz.prog 202 [vU] σ K:=by
 obtain⟨O,al,M,rfl,E⟩:=G;refine zA.gh ?_;refine zD mix Tryz.func202 ?_;simp only[Z3,seval,-ae];refine zF (λm vs h'=>∃(i:Nat) (v:PV),i<=u.length/\m=u.length-i/\vs=[v,.fz O al u.length M,.int .i64 u.length,.int .i64 i]/\Keep σ h'/\PAcc σ.next 1 h' v i (pis (deps (u.take i)))) u.length ?_ ?_
 .exact⟨0,_,by omega,by omega,rfl,Keep.refl σ,PAcc.nil _ _ _⟩
 rintro m vs h' ⟨i,v,T,rfl,rfl,A,l⟩
 simp only[Z3,seval,-ae];refine iteI (λh=>?_) λQ=>?_
 .obtain⟨U,P,I⟩:=E.rowI h;have C:=J _ (YK h);simp only[Z3,seval,-ae,h,I];refine zJR rfl C.2 C.1 ?_;simp only[Z3,seval,-ae];refine PAcc.push (bytes:=8) A l (by omega) (by omega) λN S L D=>?_;simp only[Z3,seval,-ae,WX h];refine⟨_,by omega,i+1,N,by omega,rfl,rfl,L,?_⟩;have e:pis (deps (u.take (i+1)))=pis (deps (u.take i))++[.int .i64 (dep u[i])]:=by rw[YU h,deps,Yh,<-Qj];rfl
  rw[e];exact D.acc
 .have aU:i=u.length:=by omega
  subst aU;rw[Yg]at l;exact l.fin A (zL _ _) H
theorem zLB(o:OkW p n W){y v:V1}(h:El p n y)(l:El p n v)(c:Int):ladd p W y (lmul p W c v)=norm p W (lmix 1 y c v):=by
 have u:(lmix c v 0 v).length=n:=by rw[zR rfl];exact l.1
 have A:El p n (lmul p W c v):=zBP o u;refine zFw o (by rw[zR (h.1.trans A.1.symm)];exact h.1) (by rw[zR (h.1.trans l.1.symm)];exact h.1) ?_;have C:Eqv p n W (λj=>at_ y j+at_ (lmul p W c v) j) (λj=>at_ y j+at_ (lmix c v 0 v) j):=(Eqv.refl _).add (qN o u);refine((Eqv.of_eq λj=>?_).trans C).trans (Eqv.of_eq λj=>?_)
 .rw[qK (h.1.trans A.1.symm)];omega
 .rw[qK (h.1.trans l.1.symm),qK rfl];omega
theorem zHv{l:Nat}{w:Bool}{a:AV}{u:V2}{x:V1}(hs:PtrR σ s p vP vB)(J:FII vP W)(o:OkW p n W)(I:FII vU u)(D:∀v∈u,El p n v/\dep v<n)(N:u.length<=1048576)(H:El p n x)(R:l=x.length)
  (Q:∀v,K (.fz true v n (pis (redL p W u x))) σ):zA Tryz.prog 142 [.ptr s 0,vU,.fz w a l (pis x)] σ K:=by
 have be:=o.le;have S:=o.pr;unfold okp at S;refine zD mix Tryz.func142 ?_;simp only[Z3,seval,-ae];refine zA.fzN H.1 (λK'=>Qc R (by rw[H.1];omega)) λV=>?_;simp only[Z3,seval,-ae];refine zG3 I (λv E=>⟨by rw[(D v E).1.1];exact(D v E).2,by rw[(D v E).1.1];omega⟩) N λvp=>?_;obtain⟨Y,al,U,rfl,M⟩:=I;simp only[Z3,seval,-ae];refine zF (λm vs h'=>∃i:Nat,i<=u.length/\m=u.length-i/\∃v,vs=[.ptr s 0,.fz Y al u.length U,.fz true v n (pis (redL p W (u.take i) x)),.fz true vp u.length (pis (deps u)),.int .i64 u.length,.int .i64 i]/\σ=h') u.length ?_ ?_
 .exact⟨0,by omega,by omega,V,by rw[UP,redL];rfl,rfl⟩
 rintro m vs h' ⟨i,hi,rfl,v,rfl,rfl⟩
 simp only[Z3,seval,-ae];have C:El p n (redL p W (u.take i) x):=QL o (λv E=>(D v (UM E)).1) H;refine iteI (λA=>?_) λaF=>?_
 .obtain⟨w4,a4,T⟩:=M.rowI A;have h:=D _ (YK A);have P:redL p W (u.take (i+1)) x=red1 p W (redL p W (u.take i) x) u[i]:=by rw[YU A,zGy]
  generalize hy:redL p W (u.take i) x=y at *
  have G:dep u[i] < y.length:=by rw[C.1];exact h.2
  have Z:=C.at o.pr (dep u[i]);rw[at_eq G]at Z;have O:IntKind.i64.wrap (0-y[dep u[i]])=-y[dep u[i]]:=WQ
  have L:(deps u)[i]? = some (dep u[i]:Int):=by simp[deps,A]
  simp only[Z3,seval,-ae,A,T,h.2,zK,L,gi G,O];refine QK hs J o h.1 rfl (by omega) λv1=>?_;simp only[Z3,seval,-ae];refine Qa hs J o C (zP o h.1 h.1) C.1.symm (zP o h.1 h.1).1.symm λX=>?_;simp only[Z3,seval,-ae,WX A];refine⟨_,by omega,i+1,by omega,rfl,X,?_⟩;rw[P,red1,at_eq G,<-zLB o C h.1]
 .have aU:i=u.length:=by omega
  subst aU;rw[Yg];exact Q v
def PQ(b:Nat)(h:PHeap)(v:PV)(m:Nat)(cs:List PV):Prop:=
 (v=.fz true .nils 0 []/\m=0/\cs=[])\/∃s off cap row,v=.sl s off m cap/\full 1 cap m/\h.obj s=some row/\(row.drop off).take m=cs/\off+m<=row.length/\b<=s/\s<h.next
theorem PQ.of{b m:Nat}{h:PHeap}{v:PV}{cs:List PV}(a:PAcc b 1 h v m cs):PQ b h v m cs:=by
 rcases a with a|⟨s,cap,rfl,l,u,D,A,C⟩
 .exact .inl a
 .exact .inr ⟨s,0,cap,cs,rfl,l,u,by rw[List.drop_zero,YR (by omega)],by omega,A,C⟩
theorem PQ.set{b m t:Nat}{h:PHeap}{v:PV}{cs:List PV}(a:PQ b h v m cs)(H:t<b)(l:List PV):PQ b (h.set t l) v m cs:=by
 rcases a with a|⟨s,off,cap,row,rfl,u,A,C,D,E,G⟩
 .exact .inl a
 .exact .inr ⟨s,off,cap,row,rfl,u,by rw[zG,if_neg (by omega)];exact A,C,D,E,G⟩
theorem PQ.pLen{b m:Nat}{h:PHeap}{v:PV}{cs:List PV}(a:PQ b h v m cs):pLen v=some (.int .i64 m):=by
 rcases a with ⟨rfl,rfl,_⟩|⟨s,off,cap,row,rfl,_⟩<;>rfl
theorem PQ.uncons{b m:Nat}{h:PHeap}{v c:PV}{cs:List PV}(a:PQ b h v m (c::cs)):∃s off cap M,v=.sl s off m cap/\h.rd1 s off=some c/\0<m/\zAI 1 v (some (.int .i64 1)) none none=some M/\PQ b h M (m-1) cs:=by
 rcases a with ⟨_,_,e⟩|⟨s,off,cap,row,rfl,N,u,l,O,H,I⟩
 .cases e
 .have hm:0<m:=by
   rcases Nat.eq_zero_or_pos m with x|x
   .subst x;cases l
   .exact x
  have D:row.drop off=c::row.drop (off+1):=by
   have C:off<row.length:=by omega
   rw[List.drop_eq_getElem_cons C]at l ⊢;obtain⟨A,rfl⟩:∃A,m=A+1:=⟨m-1,by omega⟩
   rw[List.take_succ_cons]at l;cases l;rfl
  have E:(row.drop (off+1)).take (m-1)=cs:=by
   rw[D]at l;obtain⟨A,rfl⟩:∃A,m=A+1:=⟨m-1,by omega⟩
   rw[List.take_succ_cons]at l;cases l;rfl
  have G:row[off]? = some c:=by
   have C:off<row.length:=by omega
   rw[List.drop_eq_getElem_cons C]at D;rw[YQ C];cases D;rfl
  have J:(1:Int)<=(m:Int):=by omega
  rcases N with rfl|rfl
  .refine⟨s,off,_,.sl s (off+1) (m-1) (.grown 1),rfl,by rw[zI u];exact G,hm,?_,.inr ⟨s,off+1,_,row,rfl,.inl rfl,u,E,by omega,H,I⟩⟩;simp only[Z3,seval,-ae,hm,J]
  .by_cases L:m=1
   .subst L;refine⟨s,off,_,.sl s off 0 (.known 0),rfl,by rw[zI u];exact G,hm,?_,.inr ⟨s,off,_,row,rfl,.inr rfl,u,by simpa using E,by omega,H,I⟩⟩;rfl
   .refine⟨s,off,_,.sl s (off+1) (m-1) (.known (m-1)),rfl,by rw[zI u];exact G,hm,?_,.inr ⟨s,off+1,_,row,rfl,.inr rfl,u,E,by omega,H,I⟩⟩;simp only[Z3,seval,-ae,hm,J,L];rfl
theorem PQ.push{σb h:PHeap}{bytes m:Nat}{v x:PV}{cs:List PV}{K:PV×PHeap->Prop}(l:Keep σb h)(a:PQ σb.next h v m cs)
  (C:(m+1)*bytes<=140737488355328) (D:m+1<=4611686018427387904) (k:∀A h',Keep σb h'->PQ σb.next h' A (m+1) (cs++[x])->K (A,h')):optK (qB 1 bytes (h.new [x]) v (.sl h.next 0 1 (.known 1))) K:=by
 rcases a with ⟨rfl,rfl,rfl⟩|⟨s,off,cap,row,rfl,L,M,E,O,P,Q⟩
 .exact PAcc.push l (PAcc.nil _ _ _) C D λA h' I J=>k A h' I (.of J.acc)
 .rw[ZM];have H:ZY 1 (h.new [x]) (.sl h.next 0 1 (.known 1)) 1=some [x]:=by simp[ZH,zBO]
  have G:(h.new [x]).obj s=some row:=by simp only[PHeap.new];rw[if_neg (by omega)];exact M
  have N:=l.next;simp only[plen,YM];rw[if_neg (by omega),H];simp only[YM];have u:cs.length=m:=by rw[<-E,Yu,UK];omega
  rcases L with rfl|rfl
  .rw[zAq,if_pos ⟨C,D,rfl⟩,G];simp only[YM];rw[if_pos (by omega),Nat.mul_one,E];refine Zo rfl (k _ _ (((l.new _).kill (by omega)).new _) (.inr ⟨(h.new [x]).next,0,_,cs++[x],rfl,.inl rfl,by simp[PHeap.new,PHeap.kill],?_,by simp[u],by simp[PHeap.new];omega,by simp[PHeap.new,PHeap.kill]⟩));rw[List.drop_zero,YR (by simp[u])]
  .rw[zCH,if_neg (by omega),if_pos ⟨C,D⟩,zZ G,if_pos (by omega),Nat.mul_one,E];simp only[Option.map_some];refine Zo rfl (k _ _ ((l.new _).new _) (.inr ⟨(h.new [x]).next,0,_,cs++[x],rfl,.inl rfl,by simp[PHeap.new],?_,by simp[u],by simp[PHeap.new];omega,by simp[PHeap.new]⟩));rw[List.drop_zero,YR (by simp[u])]
theorem zOJ{w:Bool}{a:AV}{m:Nat}{rows:List PV}(E:rows.length=m)(D:Bels 0 rows)(G:m<=1048576)(C:rows=[]->K (.fz true .nils 0 []) σ)(u:∀cap,full 1 cap m->K (.sl σ.next 0 m cap) (σ.new rows)):
  zA Tryz.prog 139 [.fz w a m rows] σ K:=by
 refine zA.nil0 λA=>zA.gh ?_;refine zD mix Tryz.func139 ?_;simp only[Z3,seval,-ae];cases hn:ZL a
 .simp only[Z3,seval,-ae];refine PSl.cat (bytes:=24) (σb:=σ) (n:=0) (cs:=[]) (zC σ _) (PSl.new _ 1 rfl (na _)) E (by omega) (by omega) λH h' l h=>?_;simp only[Z3,seval,-ae]at h ⊢;exact h.out l (D.up (YW _)) u
 .simp only[Z3,seval,-ae];exact Gh.ret (C (A hn).2)
theorem zJU{w:Bool}{a:AV}{m:Nat}{rows:List PV}(u:rows.length=m)(A:Bels 0 rows)(D:m<=1048576)(l:∀v h',Keep σ h'->PQ σ.next h' v m rows->K v h'):
  zA Tryz.prog 139 [.fz w a m rows] σ K:=
 zOJ u A D (λh=>l _ _ (Keep.refl _) (.inl ⟨rfl,by rw[<-u,h];rfl,h⟩)) λcap C=>l _ _ (zC _ _) (.of (.inr (PSl.own C (by simp[PHeap.new]) (by omega) (na _) (by simp[PHeap.new]))))
theorem zJX{l:Nat}{w:Bool}{av:AV}{k:Int}{a:V1}(hs:PtrR σ s p vP vB)(C:FII vP W)(o:OkW p n W)(h:El p n a)(E:l=a.length)(G:-1000000000<=k/\k<=1000000000)(H:0<n)
  (D:∀o cap,K (.fz true (.sl o 0 n cap) n (pis (lmul p W k a))) σ):zA Tryz.prog 100 [.ptr s 0,.int .i64 k,.fz w av l (pis a)] σ K:=by
 have hlen:=(zP o h h (k:=k) (m:=0)).1;refine zA.gh (zCF hs C o h E G ⟨λA=>?_,λcap u=>?_⟩)
 .exact absurd hlen (by rw[A];simp;omega)
 .rw[hlen]at u ⊢;exact Gh.finF (zC σ _) (by simp[PHeap.new]) (na _) (zL _ _) u.ok λo=>D o cap
theorem PtrR.keep{h:PHeap}(hs:PtrR σ s p vP vB)(l:Keep σ h):PtrR h s p vP vB:=⟨by rw[l.obj s hs.lt];exact hs.obj,Yk hs.lt l.next⟩
def BRow(n:Nat)(u:V2)(d:Nat)(v:PV):Prop:=
 (v=.fz true .nils 0 []/\∀y∈u,dep y≠d)\/∃o cap y,v=.fz true (.sl o 0 n cap) n (pis y)/\y∈u/\dep y=d
def BRows(n:Nat)(u:V2)(l:List PV):Prop:=l.length=n/\∀d (h:d<l.length),BRow n u d l[d]
theorem BRows.take{u:V2}{D:List PV}{o d:Nat}{cap:Cap}{y:V1}(h:BRows n u D)(hd:d<n)(H:dep y=d):BRows n (insD u y) (D.set d (.fz true (.sl o 0 n cap) n (pis y))):=by
 refine⟨by rw[YC];exact h.1,λe C=>?_⟩;rw[YC]at C;rw[List.getElem_set];by_cases x:d=e
 .subst x;rw[if_pos rfl];exact .inr ⟨o,cap,y,rfl,q9.2 (.inl rfl),H⟩
 .rw[if_neg x];rcases h.2 e C with ⟨l,A⟩|⟨I,E,J,l,A,G⟩
  .exact .inl ⟨l,λv hv=>by
    rcases q9.1 hv with rfl|hv
    .omega
    .exact A v hv⟩
  .exact .inr ⟨I,E,J,l,q9.2 (.inr A),G⟩
theorem Fp_le{u:V2}{k:Nat}(l:Asc u):(∃y∈u,dep y=k)->∃y∈u,dep y=k/\Fp u k=y::Fp u (k+1):=by
 induction u with
 |nil=>rintro⟨y,hy,_⟩;cases hy
 |cons v t ih=>
  have h:∀w∈t,dep v<dep w:=λw hw=>List.rel_of_pairwise_cons l hw;have A:Asc t:=(List.pairwise_cons.1 l).2
  rintro⟨y,hy,rfl⟩
  rcases YH.1 hy with rfl|hy
  .refine⟨y,by simp,rfl,?_⟩;have C:Fp t (dep y)=t:=zD8 λw hw=>Y8 (h w hw);have D:Fp t (dep y+1)=t:=zD8 λw hw=>h w hw;rw[Fp,List.filter_cons,if_pos (by simp)];rw[show(List.filter (λv=>decide (dep y<=dep v)) t)=t from C];rw[Fp,List.filter_cons,if_neg (by simp)];rw[show(List.filter (λv=>decide (dep y+1<=dep v)) t)=t from D]
  .obtain⟨I,E,G,H⟩:=ih A ⟨y,hy,rfl⟩
   have:=h y hy
   refine⟨I,Yl _ E,G,?_⟩;rw[Fp,List.filter_cons,if_neg (by simp;omega)];rw[Fp,List.filter_cons,if_neg (by simp;omega)];exact H
theorem zQk{u:V2}{k:Nat}(h:∀y∈u,dep y≠k):Fp u k=Fp u (k+1):=List.filter_congr λv l=>by
 have:=h v l
 simp only[decide_eq_decide];omega
theorem zK9:∀{u:V2} {k:Nat},Base p n W u->Base p n W (Fp u k)
 |[],k,h=>h
 |v::t,k,h=>by
  by_cases x:k<=dep v
  .have e:Fp (v::t) k=v::t:=zD8 λw hw=>by
    rcases YH.1 hw with rfl|hw
    .exact x
    .have:=List.rel_of_pairwise_cons h.asc hw
     omega
   rw[e];exact h
  .rw[Fp,List.filter_cons,if_neg (by simpa using x)];cases h with
   |cons _ _ _ h4=>exact zK9 (by assumption)
theorem _root_.Go.Lie.Base.fp'{u:V2}{k:Nat}(h:Base p n W u):Base p n W (Fp u k):=zK9 h
theorem zLq{I:V2}(hs:PtrR σ s p vP vB)(hP:FII vP W)(o:OkW p n W)(hp:isP p)(hL:FII vL I)(he:Els p n I)(Ce:I.length<=1048576)(hk:∀v out,Canon p n W I out->FII v out->K v σ):
  zA Tryz.prog 71 [.ptr s 0,vL] σ K:=by
 have be:=o.le;have gX:=hp.bd;have u9:-1000000000<=p/\p<=1000000000:=by omega
 have rF:=o.len;obtain⟨wl,al,rl,rfl,bF⟩:=hL;have Y:=hP;obtain⟨wp,ap,rp,rfl,qq⟩:=hP;have gF:=hs.lt;have Aw:σ.rd1 s 1=some (.fz wp ap W.length rp):=by rw[zI hs.obj];rfl
 refine zA.gh ?_;refine qG mix Tryz.func71 ?_;simp only[Z3,seval,-ae,Aw,rF,mk24 (n:=n) (by omega),mkL (n:=n) (by omega)];have jQ:∀{u Q:V2},Grow p n W I u Q->(∀v∈u,El p n v/\dep v<n)/\u.length<=n:=λg=>⟨λv E=>⟨(g.led v E).1,(g.led v E).2.1⟩,zAZ (λv E=>(g.led v E).2.1) g.asc⟩
 refine zJU bF.1 (bF.bI 0) Ce λX h1 k1 q1=>?_;simp only[Z3,seval,-ae];refine zF (λm vs h'=>∃u Q X l rq,m=2*(n-u.length)+Q.length/\vs=[.ptr s 0,.sl σ.next 0 n (.known n),X]/\Keep (σ.new l) h'/\PQ (σ.next+1) h' X Q.length rq/\All2 FI rq Q/\Grow p n W I u Q/\BRows n u l/\Q.length<=I.length) (2*n+I.length) ?_ ?_
 .refine⟨[],I,X,_,rl,rfl,rfl,k1,q1,bF,Grow.start he,⟨by simp,λd hd=>.inl ⟨by simp,λy A=>by cases A⟩⟩,na _⟩
 rintro m vs h' ⟨u,Q,X,l,rq,rfl,rfl,Z,hq,oD,C,N,St⟩
 have fg:Keep σ h':=Z.of;have cw:=hs.keep fg;have fG:h'.rd1 s 0=some (.int .i64 p):=by rw[zI cw.obj];rfl
 have eT:h'.obj σ.next=some l:=by rw[Z.obj _ (by simp[PHeap.new])];simp[PHeap.new]
 cases Q with
 |nil=>
  have hlen:pLen X=some (.int .i64 0):=hq.pLen;have hw:IntKind.i64.wrap ((n:Int)-1)=(n:Int)-1:=WE;have gL:=C.base;have Om:Fp u n=[]:=List.filter_eq_nil_iff.2 λv E=>by have:=((jQ C).1 v E).2;simp;omega
  simp only[Z3,seval,-ae,hlen,hw];refine ZU (λm vs M=>∃(k:Nat) (vO:PV),k<=n/\m=k/\vs=[.ptr s 0,.sl σ.next 0 n (.known n),vO,.int .i64 ((k:Int)-1)]/\Keep (σ.new l) M/\FII vO (finI p W (Fp u k))) n (.here ⟨n,_,na _,rfl,rfl,Z,by rw[Om];exact⟨_,_,_,rfl,All2.nil _⟩⟩) ?_
  rintro m vs M ⟨k,vO,bN,rfl,rfl,S,T⟩
  have Aa:Keep σ M:=S.of;have jz:=hs.keep Aa;have mg:M.obj σ.next=some l:=by rw[S.obj _ (by simp[PHeap.new])];simp[PHeap.new]
  rcases Nat.eq_zero_or_pos m with rfl|yX
  .simp only[Z3,seval,-ae,show ¬((0:Int)<=((0:Nat):Int)-1) by omega];have On:Fp u 0=u:=zD8 λv E=>YW _;rw[On]at T;exact Gh.fin0 Aa (T.bel _) (hk vO _ (C.done (zEP o gL).1) T)
  .obtain⟨k,rfl⟩:∃k,m=k+1:=⟨m-1,by omega⟩
   have e:((k+1:Nat):Int)-1=(k:Int):=by omega
   have gj:k<n:=bN;have fM:k<l.length:=by rw[N.1];exact gj
   have O:=zI mg k;rw[YQ fM]at O;have ki:=gL.fp' (k:=k+1);rw[e];have kx:IntKind.i64.wrap ((k:Int)-1)=(k:Int)-1:=WE;rcases N.2 k fM with ⟨P,J⟩|⟨oo,cap,y,P,J,e3⟩
   .rw[P]at O;simp only[Z3,seval,-ae,gj,O,kx];refine⟨_,YP k,.here ⟨k,vO,by omega,rfl,rfl,S,?_⟩⟩;rw[zQk J];exact T
   .rw[P]at O;obtain⟨y',y1,y2,y3⟩:=Fp_le C.asc ⟨y,J,e3⟩;obtain rfl:y'=y:=by
     rcases zBg C.asc y1 J with x|x|x
     .exact x
     .omega
     .omega
    simp only[Z3,seval,-ae,gj,O,kx];have hF:=(zEP o ki).1;have Cu:(finI p W (Fp u (k+1))).length<=n:=zAZ (λv E=>(hF.base.led v E).2.1) hF.base.asc;have A:=((jQ C).1 y' J).1;refine zHv jz Y o T (λv E=>⟨(hF.base.led v E).1,(hF.base.led v E).2.1⟩) (by omega) A A.1.symm λV=>?_;have bF:=(QL o (u:=finI p W (Fp u (k+1))) (λv E=>(hF.base.led v E).1) A).1;have pn:finI p W (Fp u k)=redL p W (finI p W (Fp u (k+1))) y'::finI p W (Fp u (k+1)):=by rw[y3];rfl
    generalize finI p W (Fp u (k+1))=L at *
    generalize redL p W L y'=z at *
    obtain⟨wO,aO,rO,rfl,yB⟩:=T;simp only[Z3,seval,-ae];refine PSl.cat (bytes:=24) (σb:=M) (n:=1) (cs:=[.fz true V n (pis z)]) (zC M _) (PSl.new _ 1 rfl (na _)) yB.1 (by omega) (by omega) λv3 h3 k3 a3=>?_;obtain⟨s3,iB,rfl,mM,oJ,B5,ud,bK⟩:=a3;have ai:All2 FI ([.fz true V n (pis z)]++rO) (z::L):=(All2.nil FI |>.snoc (⟨true,V,by rw[bF]⟩:FI (.fz true V n (pis z)) z)).append yB;have an:σ.next≠s3:=by
     have:=S.next
     simp only[PHeap.new]at this;omega
    simp only[Z3,seval,-ae,kx];refine⟨k,YP k,.fz s3 _ oJ (ai.bI 0) λo1=>.here ⟨k,.fz true (.sl o1 0 (1+L.length) iB) (1+L.length) ([.fz true V n (pis z)]++rO),by omega,rfl,?_,(S.trans k3).kill (by have:=S.next;simp only[PHeap.new]at this ⊢;omega),by rw[pn];exact⟨true,_,_,by rw[YS,Ud],ai⟩⟩⟩;simp only[Z3,seval,-ae];simp only[sbs,sb,an,mM.ok,false_and,and_self,if_true,if_false]
 |cons x Q=>
  have hlen:=hq.pLen;obtain⟨c,R,rfl,hc,lX⟩:∃c R,rq=c::R/\FI c x/\All2 FI R Q:=by
   cases rq with
   |nil=>exact absurd oD.1 (by simp)
   |cons c R=>exact⟨c,R,rfl,oD.2 0 c x rfl rfl,⟨by simpa using oD.1,λk a b ha N=>oD.2 (k+1) a b (by simpa using ha) (by simpa using N)⟩⟩
  obtain⟨sq,off,cap,Bw,rfl,O,aQ,lV,aR⟩:=hq.uncons;obtain⟨w4,a4,rfl⟩:=hc;generalize fM:(x::Q).length=k at *
  have IP:Q.length=k-1:=by rw[<-fM];simp
  have jZ:(0:Int)<(k:Int):=by omega
  have H:=C.els x (by simp);simp only[Z3,seval,-ae,hlen,jZ,aQ,O,lV];refine zAT rfl (by rw[H.1];omega) ?_;simp only[Z3,seval,-ae];refine zF (λm vs M=>∃x wX vX,m=n-dep x/\vs=[.ptr s 0,.sl σ.next 0 n (.known n),Bw,.fz wX vX n (pis x),.int .i64 (dep x)]/\h'=M/\Grow p n W I u (x::Q)) (n-dep x) ?_ ?_
  .exact⟨x,_,_,rfl,by rw[H.1];rfl,rfl,C⟩
  clear C H hlen fM
  rintro m vs M ⟨x,wX,vX,rfl,rfl,rfl,C⟩
  have H:=C.els x (by simp);have bp:=H.1;have Nr:=QG x;by_cases hd:dep x<n
  .have gu:dep x<x.length:=by omega
   have Ei:=H.at0 o (dep x);have an:=qz gu;rw[at_eq gu]at Ei an;have ue:dep x<l.length:=by rw[N.1];exact hd
   have U:=zI eT (dep x);rw[YQ ue]at U;rcases N.2 _ ue with ⟨P,J⟩|⟨oo,bE,y,P,J,e3⟩
   .rw[P]at U;have fO:((dep x:Int)=(n:Int))=False:=by simp;omega
    simp only[Z3,seval,-ae,hd,U,fO,fG,zK,gi gu];refine zDG hp (by omega) λq qb tF qS mb=>?_;simp only[Z3,seval,-ae,hd,U,fG,zK,gi gu];refine zJX cw Y o H bp.symm (by omega) (by omega) λG D=>?_;have hT:Grow p n W I (insD u (lmul p W q x)) (lmul p W p (lmul p W q x)::Q):=C.take o hd J (k:=q) (by rw[at_eq gu];exact mb);obtain⟨y1,y2⟩:Led p n (lmul p W q x)/\dep (lmul p W q x)=dep x:=⟨(zBt o H hd (k:=q) (by rw[at_eq gu];exact mb)).1,(zBt o H hd (k:=q) (by rw[at_eq gu];exact mb)).2.1⟩
    have gM:=N.take (o:=G) (cap:=D) hd y2;generalize lmul p W q x=y at *
    have A:=y1.1;have pT:h'.wr σ.next (dep x) [.fz true (.sl G 0 n D) n (pis y)]=some (h'.set σ.next (l.set (dep x) (.fz true (.sl G 0 n D) n (pis y)))):=by
     rw[zT eT,if_pos ⟨by rw[Yz];omega,rfl⟩];rw[Yb,UF,Yz,take_set _ ue]
    have vj:Keep (σ.new (l.set (dep x) (.fz true (.sl G 0 n D) n (pis y)))) (h'.set σ.next (l.set (dep x) (.fz true (.sl G 0 n D) n (pis y)))):=Z.setN _;have EW:=aR.set (YP _) (l.set (dep x) (.fz true (.sl G 0 n D) n (pis y)));have gQ:(h'.set σ.next (l.set (dep x) (.fz true (.sl G 0 n D) n (pis y)))).rd1 σ.next (dep x)=some (.fz true (.sl G 0 n D) n (pis y)):=by
     rw[zI (by rw[zG,if_pos rfl]),List.getElem?_set_self ue]
    have yu:=cw.set (by omega) (l.set (dep x) (.fz true (.sl G 0 n D) n (pis y))) (t:=σ.next);have tI:(h'.set σ.next (l.set (dep x) (.fz true (.sl G 0 n D) n (pis y)))).rd1 s 0=some (.int .i64 p):=by rw[zI yu.obj];rfl
    have dX:(l.set (dep x) (.fz true (.sl G 0 n D) n (pis y)))[dep x]? = some (.fz true (.sl G 0 n D) n (pis y)):=List.getElem?_set_self ue;simp only[Z3,seval,-ae,hd,pT,Nat.ne_of_lt gF,fG,dX];generalize h'.set σ.next (l.set (dep x) (.fz true (.sl G 0 n D) n (pis y)))=h3 at *
    generalize l.set (dep x) (.fz true (.sl G 0 n D) n (pis y))=eM at *
    refine QK yu Y o A A.1.symm (by omega) λv2=>?_;have hz:El p n (lmul p W p y):=(ZR o A p).1;generalize lmul p W p y=z at *
    simp only[Z3,seval,-ae];refine PQ.push (bytes:=24) (σb:=σ.new eM) vj EW (by omega) (by omega) λv4 h4 k4 q4=>?_;simp only[Z3,seval,-ae];have dO:=(jQ hT).2;rw[Zk]at dO;refine⟨_,?_,insD u y,Q++[z],v4,eM,R++[.fz true v2 n (pis z)],rfl,rfl,k4,?_,lX.append (All2.nil FI |>.snoc ⟨true,v2,by rw[hz.1]⟩),hT.perm λv=>by simp[or_comm],gM,by rw[YV,Yz];omega⟩
    .rw[Zk,YV,Yz];omega
    .rw[YV,Yz,IP];exact q4
   .rw[P]at U;have A:=((jQ C).1 y J).1;have eV:IntKind.i64.wrap (0-x[dep x])=-x[dep x]:=WQ
    simp only[Z3,seval,-ae,hd,U,zK,gi gu,eV];refine QK cw Y o A A.1.symm (by omega) λV=>?_;simp only[Z3,seval,-ae];refine Qa cw Y o H (zP o A A) bp.symm (zP o A A).1.symm λv2=>?_;obtain⟨g2,g3⟩:=C.reduce1 o J e3;have fF:ladd p W x (lmul p W (-x[dep x]) y)=red1 p W x y:=by rw[zLB o H A,red1,e3,at_eq gu]
    have hz:=g2.els _ (UW ..);rw[fF];simp only[Z3,seval,-ae];refine zAT hz.1.symm (by rw[hz.1];omega) ?_;simp only[Z3,seval,-ae];exact⟨_,by omega,_,_,_,rfl,rfl,g2⟩
  .have fO:dep x=n:=by omega
   simp only[Z3,seval,-ae,fO,Uk];refine⟨_,?_,u,Q,Bw,l,R,rfl,rfl,Z,by rw[IP];exact aR,lX,C.drop λj=>?_,N,by omega⟩
   .omega
   .rcases YG j n with h|h
    .exact zg (by omega)
    .exact H.beyond h
variable{vV:PV}
def units(n:Nat):V2:=(List.range n).map (unitL n)
theorem ql:(units n).length=n:=by simp[units]
theorem zMZ{i:Nat}(h:i<n):(units n)[i]? = some (unitL n i):=by simp[units,h]
theorem zDO(l:okp p):Els p n (units n):=λv u=>by
 obtain⟨i,h,rfl⟩:=Yj.1 u;exact qA l (UC.1 h)
theorem zFd{i:Nat}(h:i<n):(units n).take (i+1)=(units n).take i++[unitL n i]:=by
 have l:i<(units n).length:=by rw[ql];exact h
 have e:=zMZ h;rw[YQ l]at e;rw[YU l,Option.some.inj e]
def brL(p:Int)(W:V2)(B:V3)(n:Nat)(u v:V2):V2:=u.flatMap λx=>v.map λy=>br p W B n x y
theorem zBI(u v:V2):(brL p W B n u v).length=u.length*v.length:=by
 induction u with
 |nil=>simp[brL]
 |cons x u ih=>
  have:(brL p W B n (x::u) v)=v.map (λy=>br p W B n x y)++brL p W B n u v:=rfl
  rw[this,YV,YL,ih,YS,Nat.add_mul,Nat.one_mul,Ud]
theorem zJA(u v:V2)(x:V1):brL p W B n (u++[x]) v=brL p W B n u v++v.map λy=>br p W B n x y:=by
 simp[brL,List.flatMap_append]
theorem zEV(o:OkW p n W)(q:OkB p n B)(u v:V2):Els p n (brL p W B n u v):=λz l=>by
 obtain⟨x,A,h⟩:=UI.1 l;obtain⟨y,C,rfl⟩:=Yj.1 h;exact br_el o q
theorem zEf(hs:PtrR σ s p vP vB)(M:FII vP W)(D:W.length=n)(O:n<=1048576)(N:∀v,FII v (units n)->K v σ):zA Tryz.prog 122 [.ptr s 0] σ K:=by
 obtain⟨wp,A,E,rfl,U⟩:=M;have G:σ.rd1 s 1=some (.fz wp A W.length E):=by rw[zI hs.obj];rfl
 refine zA.gh ?_;refine zD mix Tryz.func122 ?_;simp only[Z3,seval,-ae,G,D];refine zF (λm vs h'=>∃(i:Nat) (v:PV) (rows:List PV),i<=n/\m=n-i/\vs=[.ptr s 0,v,.int .i64 n,.int .i64 i]/\Keep σ h'/\PAcc σ.next 1 h' v i rows/\All2 FI rows ((units n).take i)) n ?_ ?_
 .exact⟨0,_,[],by omega,by omega,rfl,Keep.refl σ,PAcc.nil _ _ _,by rw[UP];exact All2.nil _⟩
 rintro m vs h' ⟨i,v,rows,T,rfl,rfl,u,C,h⟩
 simp only[Z3,seval,-ae];have L:=hs.keep u;have H:h'.rd1 s 1=some (.fz wp A W.length E):=by rw[zI L.obj];rfl
 refine iteI (λl=>?_) λR=>?_
 .simp only[Z3,seval,-ae,H,D];refine qC O l λI=>?_;simp only[Z3,seval,-ae];refine PAcc.push (bytes:=24) u C (by omega) (by omega) λQ S P J=>?_;simp only[Z3,seval,-ae,WX l];refine⟨_,by omega,i+1,Q,_,by omega,rfl,rfl,P,J.acc,?_⟩;rw[zFd l];exact h.snoc ⟨true,I,by rw[zQ]⟩
 .have aU:i=n:=by omega
  subst aU;rw[YR (by rw[ql];exact na _)]at h;exact C.fin u (h.bI 0) λa=>N _ ⟨true,a,rows,by rw[ql],h⟩
theorem zI9{u v:V2}(hs:PtrR σ s p vP vB)(V:IsR vP vB W B)(o:OkW p n W)(q:OkB p n B)(X:FII vU u)(Y:FII vV v)(S:Els p n u)(ev:Els p n v)(dO:u.length<=6)(U:v.length<=12)
  (hk:∀z,FII z (brL p W B n u v)->K z σ):zA Tryz.prog 124 [.ptr s 0,vU,vV] σ K:=by
 obtain⟨N,I,M,rfl,iE⟩:=X;obtain⟨G,av,E,rfl,T⟩:=Y;have bnd:∀(i j:Nat),i<u.length->j<=v.length->(brL p W B n (u.take i) v++(v.take j).map λy=>br p W B n (u.getD i []) y).length<=84:=λi j Z L=>by
  rw[YV,zBI,YL,Yu,Yu]
  have:min i u.length*v.length<=6*12:=Nat.mul_le_mul (by omega) U
  omega
 refine zA.gh ?_;refine zD mix Tryz.func124 ?_;simp only[Z3,seval,-ae];refine zF (λm vs h'=>∃(i:Nat) (z:PV) (rows:List PV),i<=u.length/\m=u.length-i/\vs=[.ptr s 0,.fz G av v.length E,z,.fz N I u.length M,.int .i64 u.length,.int .i64 i]/\Keep σ h'/\PAcc σ.next 1 h' z (brL p W B n (u.take i) v).length rows/\All2 FI rows (brL p W B n (u.take i) v)) u.length ?_ ?_
 .exact⟨0,_,[],by omega,by omega,rfl,Keep.refl σ,PAcc.nil _ _ _,by rw[UP];exact All2.nil _⟩
 rintro m vs h' ⟨i,z,rows,Z,rfl,rfl,C,l,h⟩
 simp only[Z3,seval,-ae];refine iteI (λA=>?_) λaF=>?_
 .obtain⟨w4,Q,hr⟩:=iE.rowI A;have R:=S _ (YK A);have J:u.getD i []=u[i]:=by simp[YB,A]
  simp only[Z3,seval,-ae,A,hr];refine zF (λm vs h'=>∃(j:Nat) (z:PV) (rows:List PV),j<=v.length/\m=v.length-j/\vs=[.ptr s 0,.fz G av v.length E,z,.fz w4 Q u[i].length (pis u[i]),.fz N I u.length M,.int .i64 u.length,.int .i64 i,.fz G av v.length E,.int .i64 v.length,.int .i64 j]/\Keep σ h'/\
   PAcc σ.next 1 h' z (brL p W B n (u.take i) v++(v.take j).map λy=>br p W B n (u.getD i []) y).length rows/\All2 FI rows (brL p W B n (u.take i) v++(v.take j).map λy=>br p W B n (u.getD i []) y)) v.length ?_ ?_
  .exact⟨0,z,rows,by omega,by omega,rfl,C,by simpa using l,by simpa using h⟩
  clear C l h z rows
  rintro m vs h' ⟨j,z,rows,L,rfl,rfl,C,l,h⟩
  simp only[Z3,seval,-ae];refine iteI (λD=>?_) λNc=>?_
  .obtain⟨w5,a5,oE⟩:=T.rowI D;have O:=ev _ (YK D);simp only[Z3,seval,-ae,D,oE];refine qY (hs.keep C) V o q R O rfl rfl λH=>?_;have hb:=bnd i j A L;simp only[Z3,seval,-ae];refine PAcc.push (bytes:=24) C l (by omega) (by omega) λv' h2 k2 P=>?_;simp only[Z3,seval,-ae,WX D];have e:(brL p W B n (u.take i) v++(v.take (j+1)).map λy=>br p W B n (u.getD i []) y)=(brL p W B n (u.take i) v++(v.take j).map λy=>br p W B n (u.getD i []) y)++[br p W B n u[i] v[j]]:=by
    rw[YU D,Yh,Yb,J];rfl
   refine⟨_,by omega,j+1,v',rows++[.fz true H n (pis (br p W B n u[i] v[j]))],by omega,rfl,rfl,k2,?_,?_⟩
   .rw[e,YV];exact P.acc
   .rw[e];exact h.snoc ⟨true,H,by rw[(br_el o q).1]⟩
  .have iY:j=v.length:=by omega
   subst iY;have e:(brL p W B n (u.take i) v++(v.take v.length).map λy=>br p W B n (u.getD i []) y)=brL p W B n (u.take (i+1)) v:=by
    rw[Yg,YU A,zJA,J]
   rw[e]at l h;simp only[Z3,seval,-ae,WX A];exact⟨_,by omega,i+1,z,rows,by omega,rfl,rfl,C,l,h⟩
 .have aU:i=u.length:=by omega
  subst aU;rw[Yg]at l h;exact l.fin C (h.bI 0) λa=>hk _ ⟨true,a,rows,rfl,h⟩
theorem zKY{u v:V2}(hs:PtrR σ s p vP vB)(A:IsR vP vB W B)(o:OkW p n W)(q:OkB p n B)(C:FII vU u)(D:FII vV v)(l:Els p n u)(ev:Els p n v)(h:u.length<=6)(G:v.length<=6)
  (E:∀z,FII z (brL p W B n u v)->K z σ):zA Tryz.prog 124 [.ptr s 0,vU,vV] σ K:=zI9 hs A o q C D l ev h (by omega) E
theorem zEp(A:IsR vP vB W B)(L:W.length=n)(U:n<=1048576)(T:∀v,FII v (units n)->K v σ):zA Tryz.prog 136 [.agg [.int .i64 p,vP,vB]] σ K:=by
 have R:=A.P.one;have G:=A.B.one;have M:=A;obtain⟨⟨wp,h,l,rfl,qq⟩,hB⟩:=A;refine zA.gh ?_;refine zD mix Tryz.func136 ?_;simp only[Z3,seval,-ae,R,G];generalize E:σ.new [.int .i64 p,.fz wp h W.length l,vB]=H;have P:H.next=σ.next+1:=by rw[<-E];simp only[Z3,seval,-ae]
 have Y:Keep σ H:=by rw[<-E];exact zC σ _
 have V:H.obj σ.next=some [.int .i64 p,.fz wp h W.length l,vB]:=by rw[<-E];simp only[Z3,seval,-ae]
 refine zF (λm vs h'=>∃(i:Nat) (v:PV) (rows:List PV),i<=n/\m=n-i/\vs=[.ptr σ.next 0,v,.int .i64 i]/\Keep H h'/\PSl H.next 1 h' v i rows/\All2 FI rows ((units n).take i)) n ?_ ?_
 .refine⟨0,_,[],by omega,by omega,rfl,zC H _,?_,by rw[UP];exact All2.nil _⟩;rw[<-P];exact PSl.new H.next 1 rfl (na _)
 rintro m vs h' ⟨i,v,rows,hi,rfl,rfl,D,I,u⟩
 have J:h'.obj σ.next=some [.int .i64 p,.fz wp h W.length l,vB]:=by rw[D.obj _ (by omega)];exact V
 have Q:h'.rd1 σ.next 1=some (.fz wp h W.length l):=by rw[zI J];rfl
 have oF:h'.rd σ.next 0 3=some [.int .i64 p,.fz wp h W.length l,vB]:=by rw[zZ J];rfl
 simp only[Z3,seval,-ae,Q,L];refine iteI (λC=>?_) λaF=>?_
 .simp only[Z3,seval,-ae,oF];refine qo M L U C λN=>?_;simp only[Z3,seval,-ae];refine PSl.push (bytes:=24) D I (by omega) (by omega) λv' G X O=>?_;simp only[Z3,seval,-ae,WX C];refine⟨_,by omega,i+1,v',_,by omega,rfl,rfl,X,O,?_⟩;rw[zFd C];exact u.snoc ⟨true,N,by rw[zQ]⟩
 .have aU:i=n:=by omega
  subst aU;rw[YR (by rw[ql];exact na _)]at u;obtain⟨s',cap,rfl,S,q2,q3,q4,q5⟩:=I;exact Gh.finF (Y.trans D) q2 (by omega) (u.bI 0) S.ok λZ=>T _ ⟨true,.sl Z 0 i cap,rows,by rw[ql],u⟩
theorem zQH{b:Nat}{u:V2}(l:σ.rd1 b 0=some (.ptr s 0))(hs:PtrR σ s p vP vB)(h:IsR vP vB W B)(o:OkW p n W)(q:OkB p n B)(N:isP p)(D:FII vU u)(J:Els p n u)(C:u.length<=6)
  (M:∀v out,Canon p n W (brL p W B n u (units n)) out->FII v out->K v σ):zA Tryz.prog 123 [vU,.ptr b 0] σ K:=by
 have A:=o.le;have Q:=D;obtain⟨wu,R,V,rfl,U⟩:=D;refine zD mix Tryz.func123 ?_;simp only[Z3,seval,-ae,l];refine zEf hs h.P o.len (by omega) λvV E=>?_;have P:=E;obtain⟨wv,av,X,rfl,T⟩:=E;simp only[Z3,seval,-ae,l];refine zKY hs h o q Q P J (zDO o.pr) C (by rw[ql];exact A) λvZ G=>?_;have H:=G;obtain⟨wz,S,Y,rfl,Z⟩:=G;have I:(brL p W B n u (units n)).length<=1048576:=by
  rw[zBI,ql]
  have:u.length*n<=6*6:=Nat.mul_le_mul C A
  omega
 simp only[Z3,seval,-ae,l];refine zLq hs h.P o N H (zEV o q _ _) I λv out L O=>?_;simp only[Z3,seval,-ae];exact M v out L O
theorem zQg(o:OkW p n W)(q:OkB p n B){a b:V1}{k:Nat}(l:∀j,j<k->at_ a j=0):∀j,j<k+1->at_ (br p W B n a b) j=0:=by
 have hs:∀t,t<k+1->at_ (bsum B a b n) t=0:=λt A=>by
  rw[bsum,bi_at q t (na _)];refine ZG _ λi u=>ZG _ λj h=>?_;rcases YG (i+1+j) k with x|x
  .rw[coef,l i (by omega),l _ x,UR,UR,Int.sub_zero,UR]
  .rw[(q.get u h).2 t (by omega),UL]
 intro j h;rcases YG j n with x|x
 .exact zDZ o (qf q) (d:=min (k+1) n) (Nat.min_le_right _ _) (λj h=>hs j (by omega)) j (by omega)
 .exact at_ge (by rw[(br_el o q).1];exact x)
theorem zE4(o:OkW p n W)(q:OkB p n B){u out:V2}(A:Canon p n W (brL p W B n u (units n)) out){m:Nat}(G:∀x∈u,m<=dep x):∀y∈out,m+1<=dep y:=λy C=>by
 have l:=A.base.led y C;have D:Gen p n W (brL p W B n u (units n)) (at_ y):=(A.gen _).2 (zX C);have J:=zFN o (m:=min (m+1) n) (zEV o q _ _) (Nat.min_le_right _ _) (λv H j E=>by
  obtain⟨x,I,h⟩:=UI.1 H;obtain⟨e,L,rfl⟩:=Yj.1 h;exact zQg o q (k:=m) (λj E=>zg (by have:=G x I;omega)) j (by omega)) l.1 D
 have hd:=zAU (v:=y) (d:=min (m+1) n) (by rw[l.1.1];exact Nat.min_le_right _ _) J
 have:=l.2.1
 omega
theorem zOT(o:OkW p n W)(q:OkB p n B){u:V2}(l:Canon p n W (brL p W B n u (units n)) u):u=[]:=by
 have h:∀m:Nat,∀x∈u,m<=dep x:=λm=>by
  induction m with
  |zero=>exactλx D=>YW _
  |succ m ih=>exact zE4 o q l ih
 cases u with
 |nil=>rfl
 |cons x t=>
  have A:=h n x (by simp);have C:=(l.base.led x (by simp)).2.1;omega
theorem zQG(o:OkW p n W)(q:OkB p n B){out:V2}(h:Canon p n W (brL p W B n [] (units n)) out):out=[]:=by
 cases out with
 |nil=>rfl
 |cons y t=>
  have u:=zE4 o q h (m:=n) (λx l=>by cases l) y (by simp);have A:=(h.base.led y (by simp)).2.1;omega
inductive Low(p:Int)(n:Nat)(W:V2)(B:V3):Nat->V2->Prop where
 |zero:Low p n W B 0 (units n)
 |succ {k:Nat} {u out:V2} (h:Low p n W B k u) (hc:Canon p n W (brL p W B n u (units n)) out):Low p n W B (k+1) out
theorem Low.unique(o:OkW p n W):∀{k:Nat} {u v:V2},Low p n W B k u->Low p n W B k v->u=v
 |_,_,_,.zero,.zero=>rfl
 |_,_,_,.succ h hc,.succ h' kL=>by
  have:=Low.unique o h h'
  subst this;exact hc.unique o kL
theorem Low.els(o:OkW p n W):∀{k:Nat} {u:V2},Low p n W B k u->Els p n u/\u.length<=n
 |_,_,.zero=>⟨zDO o.pr,by rw[ql];exact na _⟩
 |_,_,.succ _ hc=>⟨hc.base.els,zAZ (λv h=>(hc.base.led v h).2.1) hc.base.asc⟩
theorem Low.dep(o:OkW p n W)(q:OkB p n B):∀{k:Nat} {u:V2},Low p n W B k u->∀x∈u,k<=Go.Lie.dep x
 |_,_,.zero=>λx l=>YW _
 |_,_,.succ h hc=>zE4 o q hc (Low.dep o q h)
theorem Low.le(o:OkW p n W)(q:OkB p n B){k:Nat}{u:V2}(h:Low p n W B k u)(l:u≠[]):k<=n:=by
 cases u with
 |nil=>exact absurd rfl l
 |cons x t=>
  have A:=h.dep o q x (by simp);have C:=QG x;have D:=((h.els o).1 x (by simp)).1;omega
def Cls(p:Int)(n:Nat)(W:V2)(B:V3)(c:Nat):Prop:=Low p n W B c []/\∀k u,k<c->Low p n W B k u->u≠[]
theorem Cls.unique{c d:Nat}(h:Cls p n W B c)(g:Cls p n W B d):c=d:=by
 rcases Nat.lt_trichotomy c d with x|x|x
 .exact absurd rfl (g.2 c _ x h.1)
 .exact x
 .exact absurd rfl (h.2 d _ x g.1)
theorem zQ9:okF Tryz.prog 188=true:=by kernel_rfl
theorem zJT{xs ys:V2}(J:FII vU xs)(L:FII vV ys)(Y:xs.length<=1048576)(H:∀x∈xs,x.length<=1048576)(C:∀t:Bool,(t=true↔xs=ys)->K (.bool t) σ):
  zA Tryz.prog 208 [vU,vV,.clo 188 [] []] σ K:=by
 have E:∀{A:Prop},¬A->((false=true)↔A):=λh=>⟨λx=>(by cases x),λx=>absurd x h⟩
 obtain⟨R,G,P,rfl,N⟩:=J;obtain⟨S,av,Q,rfl,I⟩:=L;refine zD mix Tryz.func208 ?_;by_cases D:xs.length=ys.length
 .simp only[Z3,seval,-ae,D];refine zF (λm vs h'=>∃i:Nat,i<=ys.length/\m=ys.length-i/\vs=[.fz S av ys.length Q,.clo 188 [] [],.fz R G ys.length P,.int .i64 ys.length,.int .i64 i]/\σ=h'/\xs.take i=ys.take i) ys.length ?_ ?_
  .exact⟨0,by omega,by omega,rfl,rfl,by simp⟩
  rintro m vs h' ⟨i,X,rfl,rfl,rfl,heq⟩
  simp only[Z3,seval,-ae];refine iteI (λu=>?_) λV=>?_
  .have gd:i<xs.length:=by omega
   obtain⟨Z,T,M⟩:=N.rowI gd;obtain⟨w5,U,O⟩:=I.rowI u;simp only[Z3,seval,-ae,u,M,O];refine⟨zQ9,zAo rfl rfl (by have:=H _ (YK gd);omega) ?_⟩;by_cases l:xs[i]=ys[i]
   .simp only[Z3,seval,-ae,l,WX u];exact⟨_,by omega,i+1,by omega,rfl,rfl,zRP D gd heq l⟩
   .simp only[Z3,seval,-ae,l];refine C _ (E λe=>?_);subst e;exact l rfl
  .have aU:i=ys.length:=by omega
   subst aU;refine C _ ⟨λ_=>?_,λ_=>rfl⟩;rw[YR (by omega),YR (na _)]at heq;exact heq
 .have MS:((xs.length:Int)=(ys.length:Int))=False:=by simp;omega
  simp only[Z3,seval,-ae,MS];exact C _ (E λe=>D (by rw[e]))
theorem zEj{xs ys:V2}(l:FII vU xs)(u:FII vV ys)(D:xs.length<=1048576)(h:∀x∈xs,x.length<=1048576)(A:∀t:Bool,(t=true↔xs=ys)->K (.bool t) σ):
  zA Tryz.prog 154 [vU,vV] σ K:=by
 refine zD mix Tryz.func154 ?_;simp only[Z3,seval,-ae];refine zJT l u D h λt C=>?_;simp only[Z3,seval,-ae];exact A t C
theorem zQ8:okF Tryz.prog 123=true:=by kernel_rfl
theorem zMe{b:Nat}(hb:σ.obj b=some [.ptr s 0])(jm:b<σ.next)(hs:PtrR σ s p vP vB)(hR:IsR vP vB W B)(o:OkW p n W)(q:OkB p n B)(hp:isP p)(G:FII vU (units n))
  (hk:∀c a rows,Cls p n W B c->K (.fz true a (c+1) rows) σ):zA Tryz.prog 121 [vU,.clo 123 [] [.ptr b 0]] σ K:=by
 have be:=o.le;have h1:=G.one;have Gz:=G.cells;refine zA.gh ?_;refine zD mix Tryz.func121 ?_;simp only[Z3,seval,-ae,h1,Gz];refine zF (λm vs h'=>∃k u h rows v,m=n+1-k/\k<=n+1/\vs=[.clo 123 [] [.ptr b 0],v]/\Keep σ h'/\PSl σ.next 1 h' v (k+1) rows/\All2 FII rows h/\h.length=k+1/\h[k]? = some u/\Low p n W B k u/\∀j C,j<k->Low p n W B j C->C≠[]) (n+1) ?_ ?_
 .exact⟨0,units n,[units n],[vU],_,by omega,by omega,rfl,zC σ _,PSl.new _ 1 rfl (na _),All2.nil _ |>.snoc G,rfl,rfl,.zero,λj C hj=>by omega⟩
 rintro m vs h' ⟨k,u,h,rows,v,rfl,bN,rfl,D,ha,E,M,Z,A,S⟩
 obtain⟨X,cap,rfl,P,I,q3,U,q5⟩:=ha;have O:k<h.length:=by omega
 obtain⟨vk,BQ,H⟩:=E.get O;have tc:h[k]=u:=by rw[YQ O]at Z;exact Option.some.inj Z
 rw[tc]at H;have L:h'.rd1 X k=some vk:=by rw[zI I];exact BQ
 have hw:IntKind.i64.wrap (((k+1:Nat):Int)-1)=(k:Int):=WQ
 have N:k<k+1:=YP k;obtain⟨e1,e2⟩:=A.els o;have jn:h'.rd1 b 0=some (.ptr s 0):=by rw[zI (by rw[D.obj b jm];exact hb)];rfl
 have V:=H;obtain⟨wk,ak,rk,rfl,cK⟩:=H;simp only[Z3,seval,-ae,hw,N,L];refine⟨zQ8,zQH jn (hs.keep D) hR o q hp V e1 (by omega) λvo out l J=>?_⟩;have T:=J;obtain⟨wo,ao,ro,rfl,iF⟩:=J;have mf:out.length<=n:=zAZ (λv hv=>(l.base.led v hv).2.1) l.base.asc;simp only[Z3,seval,-ae,hw,N,L];refine zEj T V (by omega) (λx hx=>by rw[(l.base.els x hx).1];omega) λt R=>?_;cases t
 .have an:out≠u:=λe=>by have:=R.2 e;cases this
  have Y:u≠[]:=λe=>by
   subst e;exact an (zQG o q l)
  have gj:=A.le o q Y;simp only[Z3,seval,-ae];refine PSl.push (bytes:=24) (σb:=σ) D ⟨X,cap,rfl,P,I,q3,U,q5⟩ (by omega) (by omega) λv2 h2 k2 a2=>?_;simp only[Z3,seval,-ae];refine⟨_,?_,k+1,out,h++[out],_,v2,rfl,by omega,rfl,k2,a2,E.snoc T,by rw[YV,M];rfl,?_,.succ A l,λj C hj Q=>?_⟩
  .omega
  .rw[Yx (by omega),M,Yv];rfl
  .by_cases x:j=k
   .subst x;rw[Q.unique o A];exact Y
   .exact S j C (by omega) Q
 .obtain rfl:out=u:=R.1 rfl;obtain rfl:out=[]:=zOT o q l;simp only[Z3,seval,-ae];exact Gh.finF D I U (E.bL 0) P.ok λo1=>hk k _ _ ⟨A,S⟩
theorem zJ4(hs:PtrR σ s p vP vB)(l:IsR vP vB W B)(o:OkW p n W)(q:OkB p n B)(D:isP p)(C:∀c a rows,Cls p n W B c->K (.fz true a (c+1) rows) σ):zA Tryz.prog 64 [.ptr s 0] σ K:=by
 have G:=o.le;refine zA.gh ?_;refine zD mix Tryz.func64 ?_;simp only[Z3,seval,-ae];have h:=hs.new [.ptr s 0];refine zEf h l.P o.len (by omega) λvV u=>?_;have E:=u;obtain⟨J,av,I,rfl,H⟩:=u;simp only[Z3,seval,-ae];refine zMe (b:=σ.next) (by simp only[Z3,seval,-ae]) (by simp only[Z3,seval,-ae]) h l o q D E λc a rows A=>?_;simp only[Z3,seval,-ae];exact Gh.fin0 (zC σ _) trivial (C c a rows A)
def isLz(p:Int)(n:Nat)(W:V2)(B:V3):Prop:=∃c,Cls p n W B c/\(c:Int)<p
theorem zNX{c:Nat}(h:Cls p n W B c):isLz p n W B↔(c:Int)<p:=⟨λ⟨d,l,u⟩=>by rw[h.unique l];exact u,λe=>⟨c,h,e⟩⟩
theorem zKT(hs:PtrR σ s p vP vB)(E:IsR vP vB W B)(o:OkW p n W)(q:OkB p n B)(H:isP p)(G:∀t:Bool,(t=true↔isLz p n W B)->K (.bool t) σ):zA Tryz.prog 68 [.ptr s 0] σ K:=by
 have J:=o.le;have u:σ.rd1 s 0=some (.int .i64 p):=by rw[zI hs.obj];rfl
 refine zD mix Tryz.func68 ?_;simp only[Z3,seval,-ae,u];refine zJ4 hs E o q H λc a rows A=>?_;have I:c<=n+1:=by
  rcases YG n c with x|x
  .obtain⟨l,rfl⟩:∃l,c=l+1:=⟨c-1,by omega⟩
   obtain⟨C,D⟩:=A;cases C with
   |succ h eE=>exact Nat.succ_le_succ (h.le o q (D _ _ (YP _) h))
  .omega
 have hw:IntKind.i64.wrap (((c+1:Nat):Int)-1)=(c:Int):=WQ
 simp only[Z3,seval,-ae,hw];refine⟨u,G _ ?_⟩;rw[zNX A,decide_eq_true_eq]
def isLaz(p:Int)(W:V2)(B:V3):Prop:=isLie p W B/\isLz p W.length W B
theorem zGn{u v:V2}(E:IsR vP vB W B)(o:OkW p n W)(q:OkB p n B)(hp:isP p)(hU:FII vU u)(hV:FII vV v)(eu:Els p n u)(ev:Els p n v)(dO:u.length<=6)(N:v.length<=6)
  (hk:∀z out,Canon p n W (brL p W B n u v) out->FII z out->K z σ):zA Tryz.prog 250 [.agg [.int .i64 p,vP,vB],vU,vV] σ K:=by
 have h1:=E.P.one;have P:=E.B.one;obtain⟨U,M,S,rfl,iE⟩:=hU;obtain⟨V,av,T,rfl,fX⟩:=hV;have bnd:∀(i j:Nat),i<u.length->j<=v.length->(brL p W B n (u.take i) v++(v.take j).map λy=>br p W B n (u.getD i []) y).length<=42:=λi j hi Q=>by
  rw[YV,zBI,YL,Yu,Yu]
  have:min i u.length*v.length<=6*6:=Nat.mul_le_mul (by omega) N
  omega
 refine zA.gh ?_;refine zD mix Tryz.func250 ?_;simp only[Z3,seval,-ae,h1,P];generalize G:σ.new [.int .i64 p,vP,vB]=H;have eX:H.next=σ.next+1:=by rw[<-G];simp only[Z3,seval,-ae]
 have ll:Keep σ H:=by rw[<-G];exact zC σ _
 have R:H.obj σ.next=some [.int .i64 p,vP,vB]:=by rw[<-G];simp only[Z3,seval,-ae]
 refine zF (λm vs h'=>∃(i:Nat) (z:PV) (rows:List PV),i<=u.length/\m=u.length-i/\vs=[.fz U M u.length S,.fz V av v.length T,.ptr σ.next 0,z,.int .i64 i]/\Keep H h'/\PSl H.next 1 h' z (brL p W B n (u.take i) v).length rows/\All2 FI rows (brL p W B n (u.take i) v)) u.length ?_ ?_
 .refine⟨0,_,[],by omega,by omega,rfl,zC H _,?_,by rw[UP];exact All2.nil _⟩;rw[<-eX];exact PSl.new H.next 1 rfl (na _)
 rintro m vs h' ⟨i,z,rows,hi,rfl,rfl,l,A,h⟩
 simp only[Z3,seval,-ae];refine iteI (λC=>?_) λaF=>?_
 .obtain⟨w4,a4,hr⟩:=iE.rowI C;have dP:=eu _ (YK C);have O:u.getD i []=u[i]:=by simp[YB,C]
  refine zF (λm vs h'=>∃(j:Nat) (z:PV) (rows:List PV),j<=v.length/\m=v.length-j/\vs=[.fz U M u.length S,.fz V av v.length T,.ptr σ.next 0,z,.int .i64 i,.int .i64 j]/\Keep H h'/\
   PSl H.next 1 h' z (brL p W B n (u.take i) v++(v.take j).map λy=>br p W B n (u.getD i []) y).length rows/\All2 FI rows (brL p W B n (u.take i) v++(v.take j).map λy=>br p W B n (u.getD i []) y)) v.length ?_ ?_
  .exact⟨0,z,rows,by omega,by omega,rfl,l,by simpa using A,by simpa using h⟩
  clear l A h z rows
  rintro m vs h' ⟨j,z,rows,Q,rfl,rfl,l,A,h⟩
  have I:h'.obj σ.next=some [.int .i64 p,vP,vB]:=by rw[l.obj _ (by omega)];exact R
  have J:h'.rd σ.next 0 3=some [.int .i64 p,vP,vB]:=by rw[zZ I];rfl
  simp only[Z3,seval,-ae];refine iteI (λD=>?_) λNc=>?_
  .obtain⟨w5,a5,oE⟩:=fX.rowI D;have X:=ev _ (YK D);simp only[Z3,seval,-ae,D,oE,C,hr,J];refine zo E o q dP X rfl rfl λL=>?_;have hb:=bnd i j C Q;simp only[Z3,seval,-ae];refine PSl.push (bytes:=24) l A (by omega) (by omega) λv' P k2 Y=>?_;simp only[Z3,seval,-ae,WX D];have e:(brL p W B n (u.take i) v++(v.take (j+1)).map λy=>br p W B n (u.getD i []) y)=(brL p W B n (u.take i) v++(v.take j).map λy=>br p W B n (u.getD i []) y)++[br p W B n u[i] v[j]]:=by
    rw[YU D,Yh,Yb,O];rfl
   refine⟨_,by omega,j+1,v',rows++[.fz true L n (pis (br p W B n u[i] v[j]))],by omega,rfl,rfl,k2,?_,?_⟩
   .rw[e,YV];exact Y
   .rw[e];exact h.snoc ⟨true,L,by rw[(br_el o q).1]⟩
  .have iY:j=v.length:=by omega
   subst iY;have e:(brL p W B n (u.take i) v++(v.take v.length).map λy=>br p W B n (u.getD i []) y)=brL p W B n (u.take (i+1)) v:=by
    rw[Yg,YU C,zJA,O]
   rw[e]at A h;simp only[Z3,seval,-ae,WX C];exact⟨_,by omega,i+1,z,rows,by omega,rfl,rfl,l,A,h⟩
 .have aU:i=u.length:=by omega
  subst aU;rw[Yg]at A h;obtain⟨s',cap,rfl,hc,q2,q3,q4,q5⟩:=A;have I:h'.obj σ.next=some [.int .i64 p,vP,vB]:=by rw[l.obj _ (by omega)];exact R
  have J:h'.rd σ.next 0 3=some [.int .i64 p,vP,vB]:=by rw[zZ I];rfl
  simp only[Z3,seval,-ae,J];refine zA.frz q2 (h.bI 0) λo1=>?_;have hl:(brL p W B n u v).length<=1048576:=by
   rw[zBI]
   have:u.length*v.length<=6*6:=Nat.mul_le_mul dO N
   omega
  obtain⟨⟨wp,ap,rp,rfl,qq⟩,wb,Z,rb,rfl,cB⟩:=E;simp only[sbs,sb,hc.ok,and_self,if_true];refine zLx ⟨⟨wp,ap,rp,rfl,qq⟩,wb,Z,rb,rfl,cB⟩ o hp ⟨true,_,rows,rfl,h⟩ (zEV o q _ _) hl λz out eE hz=>?_;obtain⟨wz,az,rz,rfl,u5⟩:=hz;simp only[Z3,seval,-ae];exact Gh.fin0 ((ll.trans l).kill (by omega)) trivial (hk _ out eE ⟨wz,az,rz,rfl,u5⟩)
theorem zKD(l:IsR vP vB W B)(o:OkW p n W)(q:OkB p n B)(hp:isP p)(hk:∀c a rows,Cls p n W B c->K (.fz true a (c+1) rows) σ):zA Tryz.prog 219 [.agg [.int .i64 p,vP,vB]] σ K:=by
 have be:=o.le;have h1:=l.P.one;have N:=l.B.one;refine zA.gh ?_;refine zD mix Tryz.func219 ?_;simp only[Z3,seval,-ae,h1,N];generalize G:σ.new [.int .i64 p,vP,vB]=H;have eX:H.next=σ.next+1:=by rw[<-G];simp only[Z3,seval,-ae]
 have ll:Keep σ H:=by rw[<-G];exact zC σ _
 have j5:H.obj σ.next=some [.int .i64 p,vP,vB]:=by rw[<-G];simp only[Z3,seval,-ae]
 refine zEp l o.len (by omega) λvV O=>?_;have U:=O;obtain⟨wv,av,rv,rfl,fX⟩:=O;simp only[Z3,seval,-ae];refine zF (λm vs h'=>∃k u D rows v vU,m=n+1-k/\k<=n+1/\vs=[.ptr σ.next 0,vU,v]/\Keep H h'/\PSl H.next 1 h' v (k+1) rows/\All2 FII rows D/\D.length=k+1/\FII vU u/\Low p n W B k u/\∀j A,j<k->Low p n W B j A->A≠[]) (n+1) ?_ ?_
 .refine⟨0,units n,[units n],[_],_,_,by omega,by omega,rfl,zC H _,PSl.new _ 1 rfl (na _),All2.nil _ |>.snoc U,rfl,U,.zero,λj A hj=>by omega⟩
 rintro m vs h' ⟨k,u,D,rows,v,vU,rfl,bN,rfl,E,Q,L,Z,J,h,T⟩
 have iU:h'.obj σ.next=some [.int .i64 p,vP,vB]:=by rw[E.obj _ (by omega)];exact j5
 have I:h'.rd σ.next 0 3=some [.int .i64 p,vP,vB]:=by rw[zZ iU];rfl
 obtain⟨e1,e2⟩:=h.els o;have rI:=J;obtain⟨wk,ak,rk,rfl,cK⟩:=J;by_cases C:u=[]
 .subst C;obtain⟨s',cap,rfl,hc,q2,q3,q4,q5⟩:=Q;simp only[Z3,seval,-ae,List.length_nil];exact Gh.finF (ll.trans E) q2 (by omega) (L.bL 0) hc.ok λo1=>hk k _ _ ⟨h,T⟩
 .have gj:=h.le o q C;have Y:(0:Int)<(u.length:Int):=by
   have:0<u.length:=List.length_pos_iff.2 C
   omega
  simp only[Z3,seval,-ae,Y,I];refine zEp l o.len (by omega) λvW P=>?_;have V:=P;obtain⟨ww,aw,Rl,rfl,fa⟩:=P;simp only[Z3,seval,-ae,I];refine zGn l o q hp rI V e1 (zDO o.pr) (by omega) (by rw[ql];omega) λz out eE S=>?_;have M:=S;obtain⟨wz,az,rz,rfl,u5⟩:=S;simp only[Z3,seval,-ae,I];refine PSl.push (bytes:=24) E Q (by omega) (by omega) λv2 N k2 X=>?_;simp only[Z3,seval,-ae];refine⟨_,?_,k+1,out,D++[out],_,v2,_,rfl,by omega,rfl,k2,X,L.snoc M,by rw[YV,Z];rfl,M,.succ h eE,λj A hj R=>?_⟩
  .omega
  .by_cases x:j=k
   .subst x;rw[R.unique o h];exact C
   .exact T j A (by omega) R
theorem Cls.le(o:OkW p n W)(q:OkB p n B){c:Nat}(C:Cls p n W B c):c<=n+1:=by
 rcases YG n c with x|x
 .obtain⟨l,rfl⟩:∃l,c=l+1:=⟨c-1,by omega⟩
  obtain⟨u,A⟩:=C;cases u with
  |succ h eE=>exact Nat.succ_le_succ (h.le o q (A _ _ (YP _) h))
 .omega
theorem zKE(h:IsR vP vB W B)(o:OkW p n W)(q:OkB p n B)(D:isP p)(C:∀c:Nat,Cls p n W B c->K (.int .i64 c) σ):zA Tryz.prog 176 [.agg [.int .i64 p,vP,vB]] σ K:=by
 have G:=o.le;have u:=h.P.one;have A:=h.B.one;refine zA.gh ?_;refine zD mix Tryz.func176 ?_;simp only[Z3,seval,-ae,u,A];refine zKD h o q D λc a rows l=>?_;have E:=l.le o q;have hw:IntKind.i64.wrap (((c+1:Nat):Int)-1)=(c:Int):=WQ
 simp only[Z3,seval,-ae,hw];exact Gh.fin0 (zC σ _) trivial (C c l)
theorem zIW(h:IsR vP vB W B)(o:OkW p n W)(q:OkB p n B)(D:isP p)(C:∀t:Bool,(t=true↔isLz p n W B)->K (.bool t) σ):zA Tryz.prog 101 [.agg [.int .i64 p,vP,vB]] σ K:=by
 have l:=h.P.one;have u:=h.B.one;refine zA.gh ?_;refine zD mix Tryz.func101 ?_;simp only[Z3,seval,-ae,l,u];refine zKE h o q D λc A=>?_;simp only[Z3,seval,-ae,l,u];refine Gh.fin0 (zC σ _) trivial (C _ ?_);rw[zNX A,decide_eq_true_eq]
structure EucI(m a r nx x y:Int):Prop where
 cof:∃s u v:Int,(s=1\/s=-1)/\0<=u/\u<=m/\0<=v/\x=s*u/\y=-s*v/\r*v+nx*u=m
 pos:0<r/\r<=m/\0<=nx/\nx<r
 xa:∃t,x*a=r+t*m
 ya:∃t,y*a=nx+t*m
 dm:∃c d,m=c*r+d*nx
 da:∃c d,a=c*r+d*nx
theorem zDc{a b m:Int}(l:1<=a)(u:0<=b)(h:a*b<=m):b<=m:=by
 have:=YA l u
 omega
theorem EucI.start{m a:Int}(h:0<=a)(l:a<m):EucI m a m a 0 1 where
 cof:=⟨-1,0,1,.inr rfl,by omega,by omega,by omega,by omega,by omega,by omega⟩
 pos:=by omega
 xa:=⟨-1,by omega⟩
 ya:=⟨0,by omega⟩
 dm:=⟨1,0,by omega⟩
 da:=⟨0,1,by omega⟩
theorem EucI.step{m a r nx x y:Int}(h:EucI m a r nx x y)(M:nx≠0):EucI m a nx (r-r / nx*nx) y (x-r / nx*y)/\
  (-m<=x/\x<=m/\-m<=y/\y<=m/\-m<=r / nx*y/\r / nx*y<=m/\0<=r / nx/\r / nx<=m/\0<=r / nx*nx/\r / nx*nx<=m/\-m<=x-r / nx*y/\x-r / nx*y<=m):=by
 obtain⟨s,u,v,hs,N,U,l,Y,Z,X⟩:=h.cof;obtain⟨p1,p2,C,p5⟩:=h.pos;obtain⟨P,xU⟩:=h.xa;obtain⟨ty,Q⟩:=h.ya;obtain⟨E,I,S⟩:=h.dm;obtain⟨D,H,T⟩:=h.da;have A:0<=r / nx:=Int.ediv_nonneg (by omega) C;have G:=Ya r M;have J:=Y4 r (show 0<nx by omega);have L:r % nx=r-r / nx*nx:=by have:=Int.mul_ediv_add_emod r nx;rw[UB];omega
 generalize r / nx=q at *
 rw[L]at G J;have V:0<=q*v:=UY A l;have R:0<=q*nx:=UY A C;have k1:nx*(u+q*v)+(r-q*nx)*v=m:=by grind
 have k2:0<=(r-q*nx)*v:=UY G l;have k3:u+q*v<=m:=zDc (a:=nx) (by omega) (by omega) (by omega);have k4:0<=nx*u:=UY C N;have O:v<=m:=zDc (a:=r) (by omega) l (by omega);have k6:q<=m:=zDc (a:=nx) (by omega) A (by rw[UB];omega);refine⟨⟨⟨-s,v,u+q*v,by omega,l,O,by omega,by grind,by grind,by omega⟩,by omega,⟨ty,Q⟩,⟨P-q*ty,by grind⟩,⟨I+E*q,E,by grind⟩,⟨H+D*q,D,by grind⟩⟩,?_⟩;have k7:q*y=-s*(q*v):=by grind
 have k8:x-q*y=s*(u+q*v):=by grind
 rcases hs with rfl|rfl<;>omega
theorem zEu{a m:Int}(E:0<=a)(A:a<m)(T:m<=1000000)(G:∀(x:Int) (b:Bool),0<=x->x<m->((∃z w:Int,a*z=1+w*m)->∃t,a*x=1+t*m)->K (.tup [.int .i64 x,.bool b]) σ):zA Tryz.prog 141 [.int .i64 a,.int .i64 m] σ K:=by
 refine zD mix Tryz.func141 ?_;simp only[Z3,seval,-ae];refine zF (λk vs h'=>∃r nx x y:Int,k=nx.toNat/\vs=[.int .i64 m,.int .i64 r,.int .i64 nx,.int .i64 x,.int .i64 y]/\σ=h'/\EucI m a r nx x y) a.toNat ?_ ?_
 .exact⟨m,a,0,1,rfl,rfl,rfl,EucI.start E A⟩
 rintro k vs h' ⟨r,nx,x,y,rfl,rfl,rfl,h⟩
 obtain⟨V,X,Y,Z⟩:=h.pos;by_cases l:nx=0
 .subst l;simp only[Z3,seval,-ae];refine zA6 (by omega) (by omega) ?_;simp only[Z3,seval,-ae];refine G _ _ (Ya _ (by omega)) (Y4 _ (by omega)) λ⟨z,w,U⟩=>?_;obtain⟨I,xU⟩:=h.xa;obtain⟨D,Q,J⟩:=h.dm;obtain⟨C,P,L⟩:=h.da;have e:r*(C*z-w*D)=1:=by grind
  have S:r=1:=by
   have hd:r∣1:=⟨_,e.symm⟩
   have:=Int.le_of_dvd (by omega) hd
   omega
  have R:=Int.mul_ediv_add_emod x m;exact⟨I-a*(x / m),by grind⟩
 .obtain⟨u,b⟩:=h.step l;have H:r.tdiv nx=r / nx:=US (by omega);obtain⟨O,sI,N,M⟩:=u.pos;simp only[Z3,seval,-ae,l,H,wrap64 (n:=r / nx) (by omega) (by omega),wrap64 (n:=r / nx*nx) (by omega) (by omega),wrap64 (n:=r / nx*y) (by omega) (by omega),wrap64 (n:=r-r / nx*nx) (by omega) (by omega),wrap64 (n:=x-r / nx*y) (by omega) (by omega)];exact⟨_,by omega,_,_,_,_,rfl,rfl,u⟩
theorem zCg:∀n:Nat,ipow p n=pw_ p n
 |0=>rfl
 |n+1=>by rw[ipow,pw_,zCg n,UB]
def Cop(p k:Int):Prop:=∃e t:Int,k*e=1+p*t
structure DivL(p:Int)(n:Nat)(W:V2)(k:Int)(x z:V1):Prop where
 el:El p n z
 nil:isZ x->z=x
 eqv:Cop p k->Eqv p n W (λj=>k*at_ z j) (at_ x)
theorem zCm{k:Int}(h:Cop p k)(l:0<n):∃z w:Int,k*z=1+w*pw_ p n:=by
 obtain⟨e,t,h⟩:=h;obtain⟨f,s,g⟩:=inv_one (p:=p) t n l;exact⟨e*f,s,by grind⟩
theorem DivL.unique(o:OkW p n W){k:Int}{x z u:V1}(H:El p n x)(h:DivL p n W k x z)(h':DivL p n W k x u)(hk:isZ x\/Cop p k):z=u:=by
 rcases hk with hk|hk
 .rw[h.nil hk,h'.nil hk]
 .rcases Nat.eq_zero_or_pos n with hn|hn
  .have e1:=h.el.1;have l:=h'.el.1;rw[YF (e1.trans hn),YF (l.trans hn)]
  .obtain⟨a,w,G⟩:=zCm (p:=p) hk hn;have e:Eqv p n W (λj=>k*at_ z j) (λj=>k*at_ u j):=(h.eqv hk).trans (h'.eqv hk).symm;have l:=e.mul a;have one:∀{v:V1},El p n v->Eqv p n W (λj=>a*(k*at_ v j)) (at_ v):=λ{v} C=>by
    have D:=(zAk o (f:=at_ v) (λj A=>C.beyond A)).mul w;have E:=(Eqv.refl (p:=p) (n:=n) (W:=W) (at_ v)).add D;exact((Eqv.of_eq λj=>by grind).trans E).trans (Eqv.of_eq λj=>by omega)
   exact zBH o h.el.1 h'.el.1 h.el.2 h'.el.2 (((one h.el).symm.trans l).trans (one h'.el))
theorem DivL.mk'(o:OkW p n W){k y m:Int}{x:V1}(l:El p n x)(D:¬isZ x)(A:Eqv p n W (λj=>m*at_ x j) λ_=>0)(C:Cop p k->∃t,k*y=1+t*m):DivL p n W k x (lmul p W y x) where
 el:=(ZR o l y).1
 nil:=λh=>absurd h D
 eqv:=λu=>by
  obtain⟨t,H⟩:=C u;have E:=(ZR o l y).2.mul k;have G:=(Eqv.refl (p:=p) (n:=n) (W:=W) (at_ x)).add (A.mul t);exact(E.trans (Eqv.of_eq λj=>by grind)).trans (G.trans (Eqv.of_eq λj=>by omega))
theorem zH5(l:okp p):∀k:Nat,1<=pw_ p k
 |0=>by simp[pw_]
 |k+1=>by
  have h:=zH5 l k
  have:=YA (show(1:Int)<=p by have:=l.1;omega) (show 0<=pw_ p k by omega)
  rw[pw_];omega
theorem zED(l:okp p){j:Nat}:∀{k:Nat},j<=k->pw_ p j<=pw_ p k
 |0,h=>by
   have:j=0:=by omega
   subst this;exact UD _
 |k+1,h=>by
  by_cases e:j=k+1
  .subst e;exact UD _
  .have h1:=zED l (j:=j) (k:=k) (by omega);have A:=zH5 l k
   have:=YA (show(1:Int)<=p by have:=l.1;omega) (show 0<=pw_ p k by omega)
   have u:pw_ p (k+1)=p*pw_ p k:=rfl;omega
theorem zKG{l:Nat}{w:Bool}{av:AV}{x:V1}(E:IsR vP vB W B)(o:OkW p n W)(O:ipow p n<=729)(J:El p n x)(U:l=x.length)
  (T:∀j,j<=n->Eqv p n W (λi=>pw_ p j*at_ x i) (λ_=>0)->K (.int .i64 (pw_ p j)) σ):zA Tryz.prog 251 [.agg [.int .i64 p,vP,vB],.fz w av l (pis x)] σ K:=by
 have R:=E.P.one;have S:=E.B.one;have be:=o.le;have A:=o.pr;have Q:=A;unfold okp at Q;have P:=J.1;subst U;refine zA.gh ?_;refine zD mix Tryz.func251 ?_;simp only[Z3,seval,-ae,R,S];generalize D:σ.new [.int .i64 p,vP,vB]=H;have X:Keep σ H:=by rw[<-D];exact zC σ _
 have V:H.rd σ.next 0 3=some [.int .i64 p,vP,vB]:=by rw[<-D];simp only[Z3,seval,-ae]
 have L:H.rd1 σ.next 0=some (.int .i64 p):=by rw[<-D];simp only[Z3,seval,-ae]
 refine zF (λm vs h'=>∃(j:Nat) (y:V1) (N:Bool) (M:AV),m=n-dep y/\j<=dep y/\vs=[.fz N M n (pis y),.ptr σ.next 0,.int .i64 (pw_ p j)]/\H=h'/\El p n y/\Eqv p n W (at_ y) λi=>pw_ p j*at_ x i) (n-dep x) ?_ ?_
 .exact⟨0,x,w,av,rfl,by omega,by rw[P];rfl,rfl,J,Eqv.of_eq λi=>by simp[pw_]⟩
 rintro m vs h' ⟨j,y,N,M,rfl,hj,rfl,rfl,h,I⟩
 have C:=h.1;have eA:=QG y;simp only[Z3,seval,-ae];refine ZO C.symm (by omega) ?_;by_cases u:isZ y
 .simp only[Z3,seval,-ae,u,decide_true];refine Gh.fin0 X trivial (T j (by omega) (I.symm.trans (Eqv.of_eq λi=>zCe u i)))
 .have hd:dep y<n:=by have:=zCJ u;omega
  have Is:pw_ p (j+1)<=pw_ p n:=zED A (by omega);have M2:=zH5 A (j+1);rw[zCg]at O;have G:pw_ p j*p=pw_ p (j+1):=by rw[pw_,UB]
  have hw:IntKind.i64.wrap (pw_ p j*p)=pw_ p (j+1):=by rw[G];exact wrap64 (by omega) (by omega)
  simp only[Z3,seval,-ae,u,decide_false,V,L];refine z8 E o h h C.symm C.symm (by omega) (by decide) λY=>?_;have fq:=zIB o h hd;obtain⟨Z,z2⟩:=ZR o h p;simp only[Z3,seval,-ae,L,hw];refine⟨_,?_,j+1,_,true,Y,rfl,by omega,rfl,Z,(z2.trans (I.mul p)).trans (Eqv.of_eq λi=>by rw[<-G];grind)⟩;omega
theorem zBB{l:Nat}{w:Bool}{av:AV}{k:Int}{x:V1}(D:IsR vP vB W B)(o:OkW p n W)(P:ipow p n<=729)(u:El p n x)(hl:l=x.length)
  (S:∀w v z,DivL p n W k x z->K (.fz w v n (pis z)) σ):zA Tryz.prog 220 [.agg [.int .i64 p,vP,vB],.fz w av l (pis x),.int .i64 k] σ K:=by
 have C:=D.P.one;have J:=D.B.one;have be:=o.le;have I:=o.pr;have Z:=u.1;subst hl;refine zA.gh ?_;refine zD mix Tryz.func220 ?_;simp only[Z3,seval,-ae,C,J];generalize Q:σ.new [.int .i64 p,vP,vB]=H;have U:Keep σ H:=by rw[<-Q];exact zC σ _
 have L:H.rd σ.next 0 3=some [.int .i64 p,vP,vB]:=by rw[<-Q];simp only[Z3,seval,-ae]
 refine ZO rfl (by omega) ?_;by_cases E:isZ x
 .simp only[Z3,seval,-ae,E,decide_true];refine Gh.fin0 U trivial ?_;rw[Z];exact S _ _ x ⟨u,λ_=>rfl,λ_=>Eqv.of_eq λj=>by rw[zCe E,UL]⟩
 .have gu:dep x<n:=by have:=zCJ E;omega
  simp only[Z3,seval,-ae,E,decide_false,L];refine zKG D o P u rfl λj hj R=>?_;have M2:j≠0:=λe=>by
   subst e;have e0:Eqv p n W (at_ x) λ_=>0:=(Eqv.of_eq λi=>by simp[pw_]).trans R
   have:=zFR o u e0 (na n) (λ_ _=>rfl) (dep x) gu
   exact qz (by omega) this
  have tP:pw_ p j<=pw_ p n:=zED I hj;have yZ:pw_ p 1<=pw_ p j:=zED I (by omega);have RX:pw_ p 1=p:=by simp[pw_]
  rw[zCg]at P;have mc:=I.1;generalize hm:pw_ p j=m at *
  simp only[Z3,seval,-ae];refine zF (λq vs h'=>∃y:Int,q=(m-y).toNat/\1<=y/\y<=m/\vs=[.fz w av x.length (pis x),.int .i64 k,.ptr σ.next 0,.int .i64 m,.int .i64 y]/\H=h'/\∀A,1<=A->A<y->k % m*A % m≠1) (m-1).toNat ?_ ?_
  .exact⟨1,rfl,by omega,by omega,rfl,rfl,λA _ _=>by omega⟩
  rintro q vs h' ⟨y,rfl,nJ,RG,rfl,rfl,O⟩
  have Y:=Ya k (show m≠0 by omega);have SE:=Y4 k (show 0<m by omega);have em:=Int.mul_ediv_add_emod k m;have fin:(Cop p k->∃t,k*y=1+t*m)->∀v,Gh σ K (.fz true v n (pis (lmul p W y x))) H:=λh v=>Gh.fin0 U trivial (S _ v _ (DivL.mk' o u E R h));by_cases G:y<m
  .have hb:0<=k % m*y/\k % m*y<=531441:=by
    have a1:=Int.mul_le_mul (show k % m<=729 by omega) (show y<=729 by omega) (by omega) (by omega);have a2:=UY Y (show 0<=y by omega);omega
   simp only[Z3,seval,-ae,G,decide_true];refine zDk (by omega) (by omega) ?_;have V:m≠0:=by omega
   have T:(k % m*y).tmod m=k % m*y % m:=Yr hb.1;by_cases C:k % m*y % m=1
   .simp only[Z3,seval,-ae,G,V,wrap64 (n:=k % m*y) (by omega) (by omega),T,C,L];refine z8 D o u u rfl rfl (by omega) (by decide) λM=>?_;simp only[Z3,seval,-ae];refine fin (λ_=>?_) M;have e:=Int.mul_ediv_add_emod (k % m*y) m;exact⟨k % m*y / m+k / m*y,by grind⟩
   .simp only[Z3,seval,-ae,G,V,wrap64 (n:=k % m*y) (by omega) (by omega),T,C,wrap64 (n:=y+1) (by omega) (by omega)];refine⟨_,?_,y+1,rfl,by omega,by omega,rfl,λA J h3=>?_⟩
    .omega
    .by_cases e:A=y
     .subst e;exact C
     .exact O A J (by omega)
  .have HT:y=m:=by omega
   simp only[Z3,seval,-ae,G,decide_false,L];refine z8 D o u u rfl rfl (by omega) (by decide) λM=>?_;simp only[Z3,seval,-ae];refine fin (λhc=>?_) M;exfalso;obtain⟨z,w',X⟩:=zCm (p:=p) hc (show 0<j by omega);rw[hm]at X;have f1:=Ya z (show m≠0 by omega);have f2:=Y4 z (show 0<m by omega);have f3:=Int.mul_ediv_add_emod z m;have N:k % m*(z % m) % m=1:=by
    have e1:k % m*(z % m)=1+(w'-k / m*z-k % m*(z / m))*m:=by grind
    rw[e1,Int.add_mul_emod_self_right];exact Yc (by omega) (by omega)
   have cR:z % m≠0:=λe=>by
    rw[e,UL,Int.zero_emod]at N;omega
   exact O (z % m) (by omega) (by omega) N
def CodeL(p:Int)(W:V2)(B:V3)(xs:V2)(c:Int):Prop:=
 (¬(isLie p W B/\Els p W.length xs)/\c=1)\/((isLie p W B/\Els p W.length xs)/\¬isLz p W.length W B/\c=5)\/((isLie p W B/\Els p W.length xs)/\isLz p W.length W B/\c=0)
theorem CodeL.unique{xs:V2}{c d:Int}(h:CodeL p W B xs c)(g:CodeL p W B xs d):c=d:=by
 rcases h with ⟨A,C⟩|⟨A,C,E⟩|⟨A,C,E⟩<;>rcases g with ⟨l,u⟩|⟨l,u,D⟩|⟨l,u,D⟩<;>first|omega|exact absurd l A|exact absurd A l|exact absurd u C|exact absurd C u
theorem zHX{xs:V2}(hs:PtrR σ s p vP vB)(C:IsR vP vB W B)(E:SzR W B)(A:FII vL xs)(sz:SzL xs)(u:∀c:Int,CodeL p W B xs c->K (.int .i64 c) σ):zA Tryz.prog 52 [.ptr s 0,vL] σ K:=by
 have D:=A;obtain⟨I,al,H,rfl,G⟩:=A;refine zD mix Tryz.func52 ?_;simp only[Z3,seval,-ae];refine zAj hs C E D sz λt l=>?_;cases t
 .simp only[Z3,seval,-ae];exact u 1 (.inl ⟨λh=>(by have:=l.2 h;simp at this),rfl⟩)
 .have hl:=l.1 rfl;simp only[Z3,seval,-ae];refine zKT hs C hl.1.1.w hl.1.1.b hl.1.1.1 λt l=>?_;cases t
  .simp only[Z3,seval,-ae];exact u 5 (.inr (.inl ⟨hl,λh=>(by have:=l.2 h;simp at this),rfl⟩))
  .simp only[Z3,seval,-ae];exact u 0 (.inr (.inr ⟨hl,l.1 rfl,rfl⟩))
theorem zLw{xs:V2}(u:IsR vP vB W B)(H:SzR W B)(E:FII vL xs)(sz:SzL xs)(A:∀c:Int,CodeL p W B xs c->K (.int .i64 c) σ):zA Tryz.prog 54 [.agg [.int .i64 p,vP,vB],vL] σ K:=by
 have C:=u.P.one;have D:=u.B.one;have G:=E;obtain⟨L,al,J,rfl,I⟩:=E;refine zA.gh ?_;refine zD mix Tryz.func54 ?_;simp only[Z3,seval,-ae,C,D];refine zLy u H λt l=>?_;cases t
 .simp only[Z3,seval,-ae];exact Gh.fin0 (zC σ _) trivial (A 1 (.inl ⟨λh=>(by have:=l.2 h.1;simp at this),rfl⟩))
 .have hl:=l.1 rfl;simp only[Z3,seval,-ae,C,D];refine zGm u G sz hl.1.1.bd λt l=>?_;cases t
  .simp only[Z3,seval,-ae];exact Gh.fin0 (zC σ _) trivial (A 1 (.inl ⟨λh=>(by have:=l.2 h.2;simp at this),rfl⟩))
  .have he:=l.1 rfl;simp only[Z3,seval,-ae,C,D];refine zIW u hl.1.w hl.1.b hl.1.1 λt l=>?_;cases t
   .simp only[Z3,seval,-ae];exact Gh.fin0 (zC σ _) trivial (A 5 (.inr (.inl ⟨⟨hl,he⟩,λh=>(by have:=l.2 h;simp at this),rfl⟩)))
   .simp only[Z3,seval,-ae];exact Gh.fin0 (zC σ _) trivial (A 0 (.inr (.inr ⟨⟨hl,he⟩,l.1 rfl,rfl⟩)))
def brv(B:V3)(n:Nat)(f g:Vec):Vec:=λt=>sumN n λi=>sumN (n-1-i) λj=>(f i*g (i+1+j)-f (i+1+j)*g i)*at_ ((B.getD i []).getD j []) t
theorem zC5(q:OkB p n B)(a b:V1)(t:Nat):at_ (bsum B a b n) t=brv B n (at_ a) (at_ b) t:=bi_at q t (na _)
theorem zEU(f f' g:Vec)(t:Nat):brv B n (λj=>f j+f' j) g t=brv B n f g t+brv B n f' g t:=by
 simp only[brv];rw[<-zAd];refine qL λi _=>?_;rw[<-zAd];refine qL λj _=>?_;grind
theorem Qn(k:Int)(f g:Vec)(t:Nat):brv B n (λj=>k*f j) g t=k*brv B n f g t:=by
 simp only[brv];rw[<-ZV];refine qL λi _=>?_;rw[<-ZV];refine qL λj _=>?_;grind
theorem ZA(f g:Vec)(t:Nat):brv B n f g t=-1*brv B n g f t:=by
 simp only[brv];rw[<-ZV];refine qL λi _=>?_;rw[<-ZV];refine qL λj _=>?_;grind
theorem zCB{f f' g g':Vec}(h:∀j,j<n->f j=f' j)(h':∀j,j<n->g j=g' j)(t:Nat):brv B n f g t=brv B n f' g' t:=by
 simp only[brv];refine qL λi l=>qL λj u=>?_;rw[h i l,h _ (by omega:i+1+j<n),h' i l,h' _ (by omega:i+1+j<n)]
theorem zET(g:Vec)(t:Nat):∀(m:Nat) (F:Nat->Vec),brv B n (λj=>sumN m λk=>F k j) g t=sumN m λk=>brv B n (F k) g t
 |0,F=>by
  simp only[sumN]
  have:=Qn (B:=B) (n:=n) 0 (λ_=>0) g t
  simpa using this
 |m+1,F=>by
  simp only[sumN];rw[zEU,zET g t m F]
theorem zFS:∀(m:Nat) (F:Nat->Vec),(∀k,k<m->Eqv p n W (F k) λ_=>0)->Eqv p n W (λj=>sumN m λk=>F k j) λ_=>0
 |0,F,_=>Eqv.of_eq λj=>rfl
 |m+1,F,h=>((zFS m F λk l=>h k (by omega)).add (h m (by omega))).trans (Eqv.of_eq λj=>rfl)
theorem zb{j i:Nat}(h:j<n):at_ (unitL n j) i=if i=j then 1 else 0:=by
 rw[unitL,at_set (by simpa using h),qF]
theorem zGW(g:Vec){i:Nat}(h:i<n):g i=sumN n λk=>g k*at_ (unitL n k) i:=by
 rw[QR h λk u l=>by rw[zb u,if_neg (λe=>l e.symm),UL]];rw[zb h,if_pos rfl,Ur]
theorem zQf(o:OkW p n W)(q:OkB p n B)(H:Zc p W B n){i:Nat}(C:i<n)(g:Vec):Eqv p n W (brv B n (rel p W i) g) λ_=>0:=by
 have one:∀j,j<n->Eqv p n W (brv B n (rel p W i) (at_ (unitL n j))) λ_=>0:=λj h=>by
  have u:=H.1 i j C h;unfold F1 at u;have D:=(ZR o (br_el o q (a:=unitL n i) (b:=unitL n j)) p).2;have E:Eqv p n W (at_ (br p W B n (unitL n i) (unitL n j))) (at_ (bsum B (unitL n i) (unitL n j) n)):=qN o (qf q);have A:Eqv p n W (at_ (br p W B n (W.getD i []) (unitL n j))) (at_ (bsum B (W.getD i []) (unitL n j) n)):=qN o (qf q);rw[<-u]at A;have hd:Eqv p n W (λt=>p*at_ (bsum B (unitL n i) (unitL n j) n) t) (at_ (bsum B (W.getD i []) (unitL n j) n)):=((E.mul p).symm.trans D.symm).trans A;have G:=hd.symm.add (Eqv.refl (p:=p) (n:=n) (W:=W) λt=>-1*(p*at_ (bsum B (unitL n i) (unitL n j) n) t));refine(Eqv.of_eq λt=>?_).trans (G.trans (Eqv.of_eq λt=>by grind));rw[zC5 q,zC5 q,<-Qn,<-Qn,<-zEU];refine zCB (λk l=>?_) (λ_ _=>rfl) t;rw[zb C,rel];by_cases e:k=i
  .rw[if_pos e,if_pos e];grind
  .rw[if_neg e,if_neg e];grind
 refine(Eqv.of_eq λt=>?_).trans (zFS n (λk t=>g k*brv B n (rel p W i) (at_ (unitL n k)) t) λk l=>((one k l).mul (g k)).trans (Eqv.of_eq λt=>by grind));rw[ZA,zCB (f':=λj=>sumN n λk=>g k*at_ (unitL n k) j) (g':=rel p W i) (λj h=>zGW g h) (λ_ _=>rfl),zET (t:=t) (g:=rel p W i) n (λk j=>g k*at_ (unitL n k) j),<-ZV];refine qL λk l=>?_;rw[Qn,ZA (f:=at_ (unitL n k))];grind
theorem zK8(o:OkW p n W)(q:OkB p n B)(C:Zc p W B n){f f':Vec}(g:Vec)(h:Eqv p n W f f'):Eqv p n W (brv B n f g) (brv B n f' g):=by
 obtain⟨c,A⟩:=h;have u:=zFS n (λi t=>c i*brv B n (rel p W i) g t) λk l=>((zQf o q C l g).mul (c k)).trans (Eqv.of_eq λt=>by grind);refine(Eqv.of_eq λt=>?_).trans (((Eqv.refl (brv B n f' g)).add u).trans (Eqv.of_eq λt=>by grind));rw[zCB (f':=λj=>f' j+sumN n λi=>c i*rel p W i j) (g':=g) (λj _=>A j) (λ_ _=>rfl),zEU,zET (t:=t) (g:=g) n (λi j=>c i*rel p W i j)];congr 1;exact qL λk l=>by rw[Qn]
theorem zPY(o:OkW p n W)(q:OkB p n B)(l:Zc p W B n){g g':Vec}(f:Vec)(h:Eqv p n W g g'):Eqv p n W (brv B n f g) (brv B n f g'):=
 ((Eqv.of_eq λt=>ZA f g t).trans ((zK8 o q l f h).mul (-1))).trans (Eqv.of_eq λt=>(ZA f g' t).symm)
theorem zD3(o:OkW p n W)(q:OkB p n B)(a b:V1):Eqv p n W (at_ (br p W B n a b)) (brv B n (at_ a) (at_ b)):=
 (qN o (qf q)).trans (Eqv.of_eq λt=>zC5 q a b t)
theorem zFE(o:OkW p n W){x:V1}(h:El p n x)(k:Int):Eqv p n W (at_ (lmul p W k x)) λj=>k*at_ x j:=(ZR o h k).2
theorem zIU(o:OkW p n W){x y:V1}(h:El p n x)(l:El p n y):Eqv p n W (at_ (ladd p W x y)) λj=>at_ x j+at_ y j:=
 (qN o (by rw[zR (h.1.trans l.1.symm)];exact h.1)).trans (Eqv.of_eq λj=>by rw[qK (h.1.trans l.1.symm)];omega)
theorem zPX(k:Int)(f g:Vec)(t:Nat):brv B n f (λj=>k*g j) t=k*brv B n f g t:=by
 rw[ZA,Qn,ZA g f];grind
theorem third(o:OkW p n W)(q:OkB p n B)(D:Zc p W B n){x y b:V1}(A:El p n b):
  ladd p W (br p W B n x b) (br p W B n y (lmul p W (-1) b))=norm p W (lmix 1 (br p W B n x b) (-1) (br p W B n y b)):=by
 have h:El p n (br p W B n x b):=br_el o q;have l:El p n (br p W B n y b):=br_el o q;have u:El p n (br p W B n y (lmul p W (-1) b)):=br_el o q;have C:Eqv p n W (at_ (br p W B n y (lmul p W (-1) b))) λj=>-1*at_ (br p W B n y b) j:=
  (zD3 o q _ _).trans (((zPY o q D (at_ y) (zFE o A (-1))).trans (Eqv.of_eq λt=>zPX (-1) _ _ t)).trans ((zD3 o q y b).symm.mul (-1)))
 refine zFw o (by rw[zR (h.1.trans u.1.symm)];exact h.1) (by rw[zR (h.1.trans l.1.symm)];exact h.1) ?_;refine(Eqv.of_eq λj=>?_).trans (((Eqv.refl (at_ (br p W B n x b))).add C).trans (Eqv.of_eq λj=>?_))
 .rw[qK (h.1.trans u.1.symm)];omega
 .rw[qK (h.1.trans l.1.symm)];omega
theorem zD2(g f:Vec)(t:Nat):brv B n f g t=sumN n λk=>g k*brv B n f (at_ (unitL n k)) t:=by
 rw[ZA,zCB (f':=λj=>sumN n λk=>g k*at_ (unitL n k) j) (g':=f) (λj h=>zGW g h) (λ_ _=>rfl),zET (t:=t) (g:=f) n (λk j=>g k*at_ (unitL n k) j),<-ZV];refine qL λk l=>?_;rw[Qn,ZA (f:=at_ (unitL n k))];grind
theorem zRK(o:OkW p n W)(q:OkB p n B)(E:Zc p W B n){u:V2}{f:Vec}(A:Gen p n W u f):∀g:Vec,Gen p n W (brL p W B n u (units n)) (brv B n f g):=by
 have l:=zM (p:=p) (n:=n) (W:=W) (brL p W B n u (units n));refine zIk (S:=λf=>∀g:Vec,Gen p n W (brL p W B n u (units n)) (brv B n f g)) ⟨λg=>?_,λf f' h h' g=>?_,λk f h g=>?_,λf f' h h' g=>?_⟩ (λv D g=>?_) A
 .refine l.eqv _ _ (Eqv.of_eq λt=>?_) l.zero
  have:=Qn (B:=B) (n:=n) 0 (λ_=>0) g t
  simpa using this
 .exact l.eqv _ _ (Eqv.of_eq λt=>zEU f f' g t) (l.add _ _ (h g) (h' g))
 .exact l.eqv _ _ (Eqv.of_eq λt=>Qn k f g t) (l.mul k _ (h g))
 .exact l.eqv _ _ (zK8 o q E g h) (h' g)
 .refine l.eqv _ _ (Eqv.of_eq λt=>zD2 g (at_ v) t) (l.sum λk C=>l.mul (g k) _ ?_);refine l.eqv _ _ (zD3 o q v (unitL n k)).symm (zX (UI.2 ⟨v,D,Yj.2 ⟨unitL n k,?_,rfl⟩⟩));exact Yj.2 ⟨k,UC.2 C,rfl⟩
theorem zNs(o:OkW p n W){x:V1}(A:El p n x):Gen p n W (units n) (at_ x):=by
 have l:=zM (p:=p) (n:=n) (W:=W) (units n);refine l.eqv _ _ (Eqv.of_eq λt=>?_) (l.sum (m:=n) (F:=λk j=>at_ x k*at_ (unitL n k) j) λk u=>l.mul (at_ x k) _ (zX (Yj.2 ⟨k,UC.2 u,rfl⟩)));rcases YG t n with h|h
 .exact zGW (at_ x) h
 .rw[A.beyond h,ZG];intro k u;rw[zb u,if_neg (by omega),UL]
theorem zQO(o:OkW p n W)(q:OkB p n B)(A:Zc p W B n){u out:V2}(h:Canon p n W (brL p W B n u (units n)) out){f:Vec}(l:Gen p n W u f)(g:Vec):Gen p n W out (brv B n f g):=
 (h.gen _).1 (zRK o q A l g)
theorem zK5(o:OkW p n W)(q:OkB p n B){c:Nat}(h:Cls p n W B c):∀k,∃u,Low p n W B k u/\(c<=k->u=[])\/k<c:=λk=>by
 rcases YG k c with x|x
 .exact⟨[],.inr x⟩
 .obtain⟨d,rfl⟩:∃d,k=c+d:=⟨k-c,by omega⟩
  have:Low p n W B (c+d) []:=by
   clear x
   induction d with
   |zero=>exact h.1
   |succ d ih=>
    refine .succ ih ?_;have l:brL p W B n [] (units n)=[]:=rfl;rw[l];exact⟨.nil,List.Pairwise.nil,λf=>Iff.rfl⟩
  exact⟨[],.inl ⟨this,λ_=>rfl⟩⟩
theorem zJV(o:OkW p n W){z:V1}(u:El p n z)(h:Eqv p n W (at_ z) λ_=>0):isZ z:=by
 have A:=zFR o u h (na n) λ_ _=>rfl;intro x C;obtain⟨j,l,rfl⟩:=YE.1 C;rw[<-at_eq l];exact A j (by rw[<-u.1];exact l)
end Go.Proofs
