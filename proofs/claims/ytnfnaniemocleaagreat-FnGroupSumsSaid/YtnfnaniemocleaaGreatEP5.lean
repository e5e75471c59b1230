/- . -/
import Derived.Test.YtnfnaniemocleaaGreatEP3
open Int renaming reduceNatCast'->ae
set_option maxRecDepth 100000
set_option linter.unusedVariables false
set_option linter.unusedSimpArgs false
namespace Go.Grp
end Go.Grp
namespace Go.Grp
open Go.Ab Go.Lie
variable{d i t0:Nat}{O:V1}{P:V2}{C:V3}
section
structure Mon{α:Type}(S:α->Prop)(m:α->α->α)(e:α):Prop where
 one:S e
 cl:∀{a b},S a->S b->S (m a b)
 «as»:∀{a b c},S a->S b->S c->m (m a b) c=m a (m b c)
 l1:∀{a},S a->m e a=a
 r1:∀{a},S a->m a e=a
section
variable{α:Type}{S:α->Prop}{m:α->α->α}{e:α}
def pw(m:α->α->α)(e x:α):Nat->α
 |0=>e
 |k+1=>m (pw m e x k) x
def rep(m:α->α->α)(x:α):Nat->α->α
 |0,a=>a
 |k+1,a=>rep m x k (m a x)
def ph(m:α->α->α)(e:α)(h:Nat->α)(x:Nat->Nat):Nat->Nat->α
 |t,0=>e
 |t,d+1=>m (pw m e (h t) (x t)) (ph m e h x (t+1) d)
def fo(m:α->α->α)(h:Nat->α)(x:Nat->Nat):Nat->Nat->α->α
 |t,0,a=>a
 |t,d+1,a=>fo m h x (t+1) d (rep m (h t) (x t) a)
theorem Mon.pw(M:Mon S m e){x:α}(l:S x):∀k,S (pw m e x k)
 |0=>M.one
 |k+1=>M.cl (M.pw l k) l
theorem Mon.pw_add(M:Mon S m e){x:α}(l:S x)(a:Nat):∀b,Grp.pw m e x (a+b)=m (Grp.pw m e x a) (Grp.pw m e x b)
 |0=>(M.r1 (M.pw l a)).symm
 |b+1=>by
  show m (Grp.pw m e x (a+b)) x=m _ (m (Grp.pw m e x b) x);rw[M.pw_add l a b,M.as (M.pw l a) (M.pw l b) l]
theorem Mon.pw_one(M:Mon S m e){x:α}(l:S x):Grp.pw m e x 1=x:=M.l1 l
theorem Mon.pw_comm(M:Mon S m e){x:α}(l:S x)(a:Nat):m (Grp.pw m e x a) x=m x (Grp.pw m e x a):=by
 have u:=M.pw_add l a 1;have A:=M.pw_add l 1 a;rw[M.pw_one l]at u A;rw[<-u,<-A,Ud]
theorem Mon.rep_eq(M:Mon S m e){x:α}(l:S x):∀(k:Nat) {a:α},S a->rep m x k a=m a (Grp.pw m e x k)
 |0,a,ha=>(M.r1 ha).symm
 |k+1,a,ha=>by
  show rep m x k (m a x)=m a (m (Grp.pw m e x k) x);rw[M.rep_eq l k (M.cl ha l),M.as ha l (M.pw l k),M.pw_comm l k]
theorem Mon.ph(M:Mon S m e){h:Nat->α}{x:Nat->Nat}:∀{d t:Nat},(∀j,t<=j->j<t+d->S (h j))->S (ph m e h x t d)
 |0,t,_=>M.one
 |d+1,t,hh=>M.cl (M.pw (hh t (na _) (by omega)) _) (M.ph λj l u=>hh j (by omega) (by omega))
theorem Mon.fo_eq(M:Mon S m e){h:Nat->α}{x:Nat->Nat}:∀{d t:Nat} {a:α},(∀j,t<=j->j<t+d->S (h j))->S a->fo m h x t d a=m a (Grp.ph m e h x t d)
 |0,t,a,_,ha=>(M.r1 ha).symm
 |d+1,t,a,hh,ha=>by
  have l:=hh t (na _) (by omega);show fo m h x (t+1) d (rep m (h t) (x t) a)=m a (m _ _);rw[M.rep_eq l _ ha,M.fo_eq (λj u A=>hh j (by omega) (by omega)) (M.cl ha (M.pw l _)),M.as ha (M.pw l _) (M.ph λj u A=>hh j (by omega) (by omega))]
theorem zCw{h h':Nat->α}{x l:Nat->Nat}:∀{d t:Nat},(∀j,t<=j->j<t+d->h j=h' j/\x j=l j)->Grp.ph m e h x t d=Grp.ph m e h' l t d
 |0,t,_=>rfl
 |d+1,t,hh=>by
  simp only[Grp.ph];rw[(hh t (na _) (by omega)).1,(hh t (na _) (by omega)).2,zCw λj u A=>hh j (by omega) (by omega)]
theorem Mon.past_pw(M:Mon S m e){g u v:α}(l:S g)(A:S u)(B:S v)(h:m u g=m g v):∀k,m (Grp.pw m e u k) g=m g (Grp.pw m e v k)
 |0=>by rw[Grp.pw,Grp.pw,M.l1 l,M.r1 l]
 |k+1=>by
  show m (m (Grp.pw m e u k) u) g=m g (m (Grp.pw m e v k) v);rw[M.as (M.pw A k) A l,h,<-M.as (M.pw A k) l B,M.past_pw l A B h k,M.as l (M.pw B k) B]
theorem Mon.past_ph(M:Mon S m e){g:α}(l:S g){h h':Nat->α}{x:Nat->Nat}:∀{d t:Nat},(∀j,t<=j->j<t+d->S (h j)/\S (h' j)/\m (h j) g=m g (h' j))->m (Grp.ph m e h x t d) g=m g (Grp.ph m e h' x t d)
 |0,t,_=>by rw[Grp.ph,Grp.ph,M.l1 l,M.r1 l]
 |d+1,t,hh=>by
  obtain⟨u,A,D⟩:=hh t (na _) (by omega);have E:=M.ph (x:=x) (λj a b=>(hh j (show t<=j by omega) (by omega)).1) (d:=d) (t:=t+1);have B:=M.ph (x:=x) (λj a b=>(hh j (show t<=j by omega) (by omega)).2.1) (d:=d) (t:=t+1);show m (m _ _) g=m g (m _ _);rw[M.as (M.pw u _) E l,M.past_ph l λj a b=>hh j (by omega) (by omega),<-M.as (M.pw u _) l B,M.past_pw l u A D,M.as l (M.pw A _) B]
end
variable{O:V1}{P:V2}{C:V3}
structure TT(O:V1)(t:Nat)(x:V1):Prop where
 len:x.length=O.length
 bd:∀j,j<O.length->0<=at_ x j/\at_ x j<at_ O j
 zero:∀j,j<t->at_ x j=0
abbrev nx(x:V1)(j:Nat):Nat:=(at_ x j).toNat
abbrev cvec(C:V3)(i j:Nat):V1:=(C.getD i []).getD (j-i-1) []
abbrev pvec(P:V2)(i:Nat):V1:=P.getD i []
abbrev zv(O:V1):V1:=List.replicate O.length 0
structure Shp(O:V1)(P:V2)(C:V3):Prop where
 le:O.length<=6
 pr:∀j,j<O.length->2<=at_ O j/\at_ O j<=7
 pl:P.length=O.length
 cl:C.length=O.length
 pw:∀i,i<O.length->TT O (i+1) (pvec P i)
 row:∀i,i<O.length->(C.getD i []).length=O.length-1-i
 cj:∀i j,i<j->j<O.length->TT O (i+1) (cvec C i j)
def img(O:V1)(C:V3)(m:V1->V1->V1)(i:Nat)(x:V1):V1:=fo m (cvec C i) (nx x) (i+1) (O.length-1-i) (zv O)
def iter{α:Type}(f:α->α):Nat->α->α
 |0,a=>a
 |k+1,a=>iter f k (f a)
theorem zFJ{α:Type}(f:α->α)(a b:Nat)(x:α):iter f (a+b) x=iter f b (iter f a x):=by
 induction a generalizing x with
 |zero=>rw[Y5];rfl
 |succ a ih=>rw[show a+1+b=(a+b)+1 by omega];exact ih (f x)
def mu(O:V1)(P:V2)(C:V3):Nat->V1->V1->V1
 |0,_,_=>zv O
 |d+1,a,b=>
  let i:=O.length-(d+1)
  let r:=mu O P C d (iter (img O C (mu O P C d) i) (nx b i) (a.set i 0)) (b.set i 0)
  if at_ a i+at_ b i ≥ at_ O i then(mu O P C d (pvec P i) r).set i (at_ a i+at_ b i-at_ O i)else r.set i (at_ a i+at_ b i)
theorem TT.zv(t:Nat)(h:∀j,j<O.length->0<at_ O j):TT O t (zv O):=⟨by simp,λj l=>by rw[qF];exact⟨by omega,h j l⟩,λj _=>qF _ j⟩
theorem TT.mono{t t':Nat}{x:V1}(h:TT O t x)(u:t'<=t):TT O t' x:=⟨h.len,h.bd,λj l=>h.zero j (by omega)⟩
theorem TT.set{t i:Nat}{x:V1}(h:TT O t x)(B:i<O.length)(D:t<=i){c:Int}(A:0<=c/\c<at_ O i):TT O t (x.set i c):=by
 have u:i<x.length:=by rw[h.len];exact B
 refine⟨by rw[YC,h.len],λj l=>?_,λj l=>?_⟩
 .rw[at_set u];split
  .rename_i e;subst e;exact A
  .exact h.bd j l
 .rw[at_set u,if_neg (by omega)];exact h.zero j l
theorem TT.set0{i:Nat}{x:V1}(h:TT O i x)(u:i<O.length)(A:0<at_ O i):TT O (i+1) (x.set i 0):=by
 have B:i<x.length:=by rw[h.len];exact u
 have l:=h.set u (na _) (c:=0) ⟨by omega,A⟩;refine⟨l.len,l.bd,λj D=>?_⟩;rw[at_set B];split
 .rfl
 .exact h.zero j (by omega)
theorem TT.ext{t:Nat}{x y:V1}(h:TT O t x)(g:TT O t y)(l:∀j,t<=j->j<O.length->at_ x j=at_ y j):x=y:=by
 refine Zr (by rw[h.len,g.len]) λj u=>?_;rcases YG j t with e|e
 .rw[h.zero j e,g.zero j e]
 .exact l j e (by rw[<-h.len];exact u)
theorem Shp.pos(s:Shp O P C){j:Nat}(l:j<O.length):0<at_ O j:=by have:=(s.pr j l).1;omega
theorem Shp.zv(s:Shp O P C)(t:Nat):TT O t (zv O):=TT.zv t λj l=>s.pos l
theorem zMi{α:Type}{S:α->Prop}{m:α->α->α}{x:α}(h:∀a,S a->S (m a x)):∀(k:Nat) {a:α},S a->S (rep m x k a)
 |0,a,ha=>ha
 |k+1,a,ha=>zMi h k (h a ha)
theorem fo_in{α:Type}{S:α->Prop}{m:α->α->α}{h:Nat->α}{x:Nat->Nat}:∀{d t:Nat} {a:α},(∀j,t<=j->j<t+d->∀a,S a->S (m a (h j)))->S a->S (fo m h x t d a)
 |0,t,a,_,ha=>ha
 |d+1,t,a,hh,ha=>by
  show S (fo m h x (t+1) d (rep m (h t) (x t) a));exact fo_in (λj l u=>hh j (by omega) (by omega)) (zMi (hh t (na _) (by omega)) (x t) ha)
theorem zBR{α:Type}{S:α->Prop}{f:α->α}(h:∀a,S a->S (f a)):∀(k:Nat) {a:α},S a->S (iter f k a)
 |0,a,ha=>ha
 |k+1,a,ha=>zBR h k (h a ha)
theorem Qr(s:Shp O P C){m:V1->V1->V1}{i:Nat}(u:∀a b,TT O (i+1) a->TT O (i+1) b->TT O (i+1) (m a b))(x:V1):TT O (i+1) (img O C m i x):=
 fo_in (λj A B a l=>u a _ l (s.cj i j (by omega) (by omega))) (s.zv _)
theorem mu_tt(s:Shp O P C):∀{d:Nat} {a b:V1},d<=O.length->TT O (O.length-d) a->TT O (O.length-d) b->TT O (O.length-d) (mu O P C d a b)
 |0,a,b,_,ha,hb=>s.zv _
 |d+1,a,b,hd,ha,hb=>by
  have l:O.length-(d+1)<O.length:=by omega
  have e:O.length-d=O.length-(d+1)+1:=by omega
  have u:∀a b,TT O (O.length-(d+1)+1) a->TT O (O.length-(d+1)+1) b->TT O (O.length-(d+1)+1) (mu O P C d a b):=by
   rw[<-e];exactλa b D E=>mu_tt s (by omega) D E
  have A:=s.pos l;have G:=ha.bd _ l;have H:=hb.bd _ l;have B:=u _ _ (zBR (λx _=>Qr s u x) (nx b (O.length-(d+1))) (ha.set0 l A)) (hb.set0 l A);simp only[mu];split
  .exact((u _ _ (s.pw _ l) B).mono (UQ _)).set l (na _) ⟨by omega,by omega⟩
  .exact(B.mono (UQ _)).set l (na _) ⟨by omega,by omega⟩
end
section
variable{α:Type}{S:α->Prop}{m:α->α->α}{e:α}{h:Nat->α}
abbrev Ph(O:V1)(m:α->α->α)(e:α)(h:Nat->α)(d:Nat)(x:V1):α:=ph m e h (nx x) (O.length-d) d
structure Rel(O:V1)(P:V2)(C:V3)(S:α->Prop)(m:α->α->α)(e:α)(h:Nat->α)(t0:Nat):Prop where
 mem:∀j,t0<=j->j<O.length->S (h j)
 pow:∀j,t0<=j->j<O.length->pw m e (h j) (nx O j)=Ph O m e h (O.length-(j+1)) (pvec P j)
 cj:∀j k,t0<=j->j<k->k<O.length->m (h k) (h j)=m (h j) (Ph O m e h (O.length-(j+1)) (cvec C j k))
theorem Ph_in(M:Mon S m e)(r:Rel O P C S m e h t0){d:Nat}(hd:d<=O.length-t0)(x:V1):S (Ph O m e h d x):=M.ph λj l u=>r.mem j (by omega) (by omega)
theorem zGS{d i:Nat}(A:i<O.length-d){x:V1}(B:x.length=O.length)(c:Int):Ph O m e h d (x.set i c)=Ph O m e h d x:=
 zCw λj l u=>⟨rfl,by show(at_ _ j).toNat=(at_ x j).toNat;rw[at_set (by omega),if_neg (by omega)]⟩
theorem zLC{d:Nat}(hd:d<O.length)(x:V1):Ph O m e h (d+1) x=m (pw m e (h (O.length-(d+1))) (nx x (O.length-(d+1)))) (Ph O m e h d x):=by
 show ph m e h (nx x) _ (d+1)=_;rw[ph,show O.length-(d+1)+1=O.length-d by omega]
theorem Ph_zv(M:Mon S m e):∀d:Nat,Ph O m e h d (zv O)=e:=by
 intro d
 have:∀(d t:Nat),ph m e h (nx (zv O)) t d=e:=by
  intro d
  induction d with
  |zero=>intro t;rfl
  |succ d ih=>
   intro t;have l:nx (zv O) t=0:=by show(at_ (zv O) t).toNat=0;rw[qF];rfl
   rw[ph,ih,l];exact M.l1 M.one
 exact this d _
theorem Ph_fo(M:Mon S m e){T:V1->Prop}{mm:V1->V1->V1}{F:V1->α}(E:∀a b,T a->T b->T (mm a b)/\F (mm a b)=m (F a) (F b)){c:Nat->V1}{x:Nat->Nat}:
  ∀{d t:Nat} {a:V1},(∀j,t<=j->j<t+d->T (c j))->T a->T (fo mm c x t d a)/\F (fo mm c x t d a)=fo m (λj=>F (c j)) x t d (F a)
 |0,t,a,_,l=>⟨l,rfl⟩
 |d+1,t,a,hc,l=>by
  have G:∀(k:Nat) {a:V1},T a->T (rep mm (c t) k a)/\F (rep mm (c t) k a)=rep m (F (c t)) k (F a):=by
   intro k
   induction k with
   |zero=>exactλl=>⟨l,rfl⟩
   |succ k ih=>
    intro a l;obtain⟨u,A⟩:=E a (c t) l (hc t (na _) (by omega));obtain⟨B,D⟩:=ih u;exact⟨B,by show F (rep mm (c t) k (mm a (c t)))=rep m (F (c t)) k (m (F a) (F (c t)));rw[D,A]⟩
  obtain⟨u,A⟩:=G (x t) l;obtain⟨B,D⟩:=Ph_fo M E (c:=c) (x:=x) (d:=d) (t:=t+1) (λj u A=>hc j (by omega) (by omega)) u;refine⟨B,?_⟩;show F (fo mm c x (t+1) d _)=fo m _ x (t+1) d (rep m (F (c t)) (x t) (F a));rw[D,A]
theorem dyck(s:Shp O P C)(M:Mon S m e)(r:Rel O P C S m e h t0):∀{d:Nat},d<=O.length-t0->∀{a b:V1},TT O (O.length-d) a->TT O (O.length-d) b->Ph O m e h d (mu O P C d a b)=m (Ph O m e h d a) (Ph O m e h d b)
 |0,_,a,b,_,_=>(M.l1 M.one).symm
 |d+1,hd,a,b,ha,hb=>by
  have A:O.length-(d+1)<O.length:=by omega
  have J:t0<=O.length-(d+1):=by omega
  have G:O.length-d=O.length-(d+1)+1:=by omega
  have e2:O.length-1-(O.length-(d+1))=d:=by omega
  have X:O.length-(O.length-(d+1)+1)=d:=by omega
  have V:=s.pos A;have ba:=ha.bd _ A;have bb:=hb.bd _ A;have l:=r.mem _ J A;have Q:∀{a b:V1},TT O (O.length-d) a->TT O (O.length-d) b->Ph O m e h d (mu O P C d a b)=m (Ph O m e h d a) (Ph O m e h d b):=λB D=>dyck s M r (by omega) B D;have N:∀{a b:V1},TT O (O.length-d) a->TT O (O.length-d) b->TT O (O.length-d) (mu O P C d a b):=λB D=>mu_tt s (by omega) B D;have u:∀x,S (Ph O m e h d x):=λx=>Ph_in M r (by omega) x;generalize W:O.length-(d+1)=i at *
  have M4:∀{x:V1},TT O (O.length-d) x->TT O (O.length-d) (img O C (mu O P C d) i x)/\m (Ph O m e h d x) (h i)=m (h i) (Ph O m e h d (img O C (mu O P C d) i x)):=by
   intro x E;have hc:∀j,i+1<=j->j<i+1+d->TT O (O.length-d) (cvec C i j):=λj B D=>by rw[G];exact s.cj i j (by omega) (by omega)
   have dT:TT O (O.length-d) (zv O):=s.zv _;obtain⟨f1,f2⟩:=Ph_fo M (T:=TT O (O.length-d)) (mm:=mu O P C d) (F:=Ph O m e h d) (λa b B D=>⟨N B D,Q B D⟩) (c:=cvec C i) (x:=nx x) hc dT;have Pn:img O C (mu O P C d) i x=fo (mu O P C d) (cvec C i) (nx x) (i+1) d (zv O):=by rw[img,e2]
   rw[Pn];refine⟨f1,?_⟩;rw[f2,Ph_zv M,M.fo_eq (λj _ _=>u _) M.one,M.l1 (M.ph λj _ _=>u _)];show m (ph m e h (nx x) (O.length-d) d) (h i)=_;rw[G];refine M.past_ph l λj B D=>⟨r.mem j (by omega) (by omega),u _,?_⟩
   have:=r.cj i j J (by omega) (by omega)
   rw[X]at this;exact this
  have tZ:∀(k:Nat) {x:V1},TT O (O.length-d) x->TT O (O.length-d) (iter (img O C (mu O P C d) i) k x)/\m (Ph O m e h d x) (pw m e (h i) k)=m (pw m e (h i) k) (Ph O m e h d (iter (img O C (mu O P C d) i) k x)):=by
   intro k
   induction k with
   |zero=>exactλ{x} E=>⟨E,by show m _ e=m e _;rw[M.r1 (u x)];exact(M.l1 (u x)).symm⟩
   |succ k ik=>
    intro x E;obtain⟨g1,g2⟩:=M4 E;obtain⟨g3,g4⟩:=ik g1;refine⟨g3,?_⟩;show m _ (m (pw m e (h i) k) (h i))=m (m (pw m e (h i) k) (h i)) (Ph O m e h d (iter _ k (img O C (mu O P C d) i x)));rw[M.pw_comm l,<-M.as (u _) l (M.pw l k),g2,M.as l (u _) (M.pw l k),g4,<-M.as l (M.pw l k) (u _)]
  have um:TT O (O.length-d) (a.set i 0):=by rw[G];exact ha.set0 A V
  have U:TT O (O.length-d) (b.set i 0):=by rw[G];exact hb.set0 A V
  obtain⟨k1,k2⟩:=tZ (nx b i) um;have I:i<O.length-d:=by omega
  rw[zGS I ha.len]at k2;have er:=Q k1 U;rw[zGS I hb.len]at er;have H:=N k1 U;have R:∀x,Ph O m e h (d+1) x=m (pw m e (h i) (nx x i)) (Ph O m e h d x):=λx=>by rw[zLC (by omega),W]
  rw[R a,R b,R];generalize hL:iter (img O C (mu O P C d) i) (nx b i) (a.set i 0)=L at *
  have Pk:mu O P C (d+1) a b=if at_ a i+at_ b i ≥ at_ O i then(mu O P C d (pvec P i) (mu O P C d L (b.set i 0))).set i (at_ a i+at_ b i-at_ O i)else(mu O P C d L (b.set i 0)).set i (at_ a i+at_ b i):=by
   simp only[mu,W,hL]
  have rhs:m (m (pw m e (h i) (nx a i)) (Ph O m e h d a)) (m (pw m e (h i) (nx b i)) (Ph O m e h d b))=m (pw m e (h i) (nx a i+nx b i)) (Ph O m e h d (mu O P C d L (b.set i 0))):=by
   rw[er,M.pw_add l,M.as (M.pw l _) (u _) (M.cl (M.pw l _) (u _)),<-M.as (u _) (M.pw l _) (u _),k2,M.as (M.pw l _) (u _) (u _),<-M.as (M.pw l _) (M.pw l _) (M.cl (u _) (u _))]
  rw[rhs,Pk];have hn:(at_ a i+at_ b i).toNat=nx a i+nx b i:=by show _=(at_ a i).toNat+(at_ b i).toNat;omega
  have Y:∀{x:V1} (c:Int),TT O (O.length-d) x->nx (x.set i c) i=c.toNat:=λ{x} c E=>by show(at_ _ i).toNat=_;rw[at_set (by rw[E.len];exact A),if_pos rfl]
  split
  .rename_i aF;have Z:TT O (O.length-d) (pvec P i):=by rw[G];exact s.pw i A
   have cp:=N Z H;rw[Y _ cp,zGS I cp.len,Q Z H];have rp:=r.pow i J A;rw[X]at rp;rw[<-rp,<-M.as (M.pw l _) (M.pw l _) (u _),<-M.pw_add l];congr 2
   show(at_ a i+at_ b i-at_ O i).toNat+(at_ O i).toNat=(at_ a i).toNat+(at_ b i).toNat
   omega
  .rw[Y _ H,zGS I H.len,hn]
structure Gp{α:Type}(S:α->Prop)(m:α->α->α)(e:α):Prop extends Mon S m e where
 inv:∀{a},S a->∃b,S b/\m a b=e/\m b a=e
theorem Gp.cancel(G:Gp S m e){a b c:α}(l:S a)(u:S b)(A:S c)(h:m a b=m a c):b=c:=by
 obtain⟨i,B,_,D⟩:=G.inv l
 have:=congrArg (m i) h
 rwa[<-G.as B l u,<-G.as B l A,D,G.l1 u,G.l1 A]at this
theorem Gp.of_right(M:Mon S m e)(E:∀{a},S a->∃b,S b/\m a b=e):Gp S m e:=by
 refine⟨M,λ{a} l=>?_⟩;obtain⟨b,u,A⟩:=E l;obtain⟨c,D,B⟩:=E u;refine⟨b,u,A,?_⟩
 have:a=c:=by rw[<-M.r1 l,<-B,<-M.as l u D,A,M.l1 D]
 rw[this];exact B
theorem Mon.pw_ind(M:Mon S m e){Q:α->Prop}(u:Q e)(A:∀a b,S a->S b->Q a->Q b->Q (m a b)){x:α}(l:S x)(B:Q x):∀k,Q (Grp.pw m e x k)
 |0=>u
 |k+1=>A _ _ (M.pw l k) l (M.pw_ind u A l B k) B
theorem Mon.ph_ind(M:Mon S m e){Q:α->Prop}(l:Q e)(u:∀a b,S a->S b->Q a->Q b->Q (m a b)){h:Nat->α}{x:Nat->Nat}:∀{d t:Nat},(∀j,t<=j->j<t+d->S (h j)/\Q (h j))->Q (Grp.ph m e h x t d)
 |0,t,_=>l
 |d+1,t,hh=>by
  obtain⟨A,B⟩:=hh t (na _) (by omega);exact u _ _ (M.pw A _) (M.ph λj a b=>(hh j (by omega) (by omega)).1) (M.pw_ind l u A B _) (M.ph_ind l u λj a b=>hh j (by omega) (by omega))
theorem Mon.ph_skip(M:Mon S m e){h:Nat->α}{x:Nat->Nat}{d:Nat}:∀{k t:Nat},(∀j,t<=j->j<t+k->x j=0)->(∀j,t+k<=j->j<t+k+d->S (h j))->Grp.ph m e h x t (k+d)=Grp.ph m e h x (t+k) d
 |0,t,_,_=>by rw[Y5,UN]
 |k+1,t,h0,hs=>by
  have:=M.ph_skip (h:=h) (x:=x) (d:=d) (k:=k) (t:=t+1) (λj a b=>h0 j (by omega) (by omega)) (λj a b=>hs j (by omega) (by omega))
  rw[show k+1+d=(k+d)+1 by omega,Grp.ph,h0 t (na _) (by omega),this,show t+1+k=t+(k+1) by omega];exact M.l1 (M.ph λj a b=>hs j (by omega) (by omega))
abbrev unit(O:V1)(j:Nat):V1:=(zv O).set j 1
theorem Shp.unit(s:Shp O P C){t j:Nat}(l:j<O.length)(u:t<=j):TT O t (unit O j):=(s.zv t).set l u ⟨by omega,by have:=(s.pr j l).1;omega⟩
structure Lv(O:V1)(P:V2)(C:V3)(i:Nat):Prop where
 pow:∀j,i<j->j<O.length->pw (mu O P C (O.length-1-i)) (zv O) (cvec C i j) (nx O j)=img O C (mu O P C (O.length-1-i)) i (pvec P j)
 cj:∀j k,i<j->j<k->k<O.length->mu O P C (O.length-1-i) (cvec C i k) (cvec C i j)=mu O P C (O.length-1-i) (cvec C i j) (img O C (mu O P C (O.length-1-i)) i (cvec C j k))
 fix:img O C (mu O P C (O.length-1-i)) i (pvec P i)=pvec P i
 inn:∀j,i<j->j<O.length->mu O P C (O.length-1-i) (pvec P i) (iter (img O C (mu O P C (O.length-1-i)) i) (nx O i) (unit O j))=mu O P C (O.length-1-i) (unit O j) (pvec P i)
structure Beh(O:V1)(P:V2)(C:V3)(d:Nat):Prop where
 le:d<=O.length
 gp:Gp (TT O (O.length-d)) (mu O P C d) (zv O)
 nf:∀{x},TT O (O.length-d) x->Ph O (mu O P C d) (zv O) (unit O) d x=x
theorem qM{x:V1}{i:Nat}(h:at_ x i=0)(l:i<x.length):x.set i 0=x:=by
 refine Zr (by simp) λj u=>?_;rw[at_set l];split
 .rename_i e;subst e;exact h.symm
 .rfl
theorem zDP(x:V1)(i:Nat)(a b:Int):(x.set i a).set i b=x.set i b:=List.set_set ..
theorem zMd{x:V1}{i:Nat}(l:i<x.length):(x.set i 0).set i (at_ x i)=x:=by
 rw[zDP];refine Zr (by simp) λj u=>?_;rw[at_set l];split
 .rename_i e;subst e;rfl
 .rfl
section
variable{d i:Nat}
abbrev al(O:V1)(P:V2)(C:V3)(d i:Nat):V1->V1:=img O C (mu O P C d) i
theorem al_ph(s:Shp O P C)(B:Beh O P C d)(l:O.length-d=i+1)(x:V1):al O P C d i x=Ph O (mu O P C d) (zv O) (cvec C i) d x:=by
 have hle:=B.le;have hs:∀j,i+1<=j->j<i+1+d->TT O (O.length-d) (cvec C i j):=λj u A=>by rw[l];exact s.cj i j (by omega) (by omega)
 have e:O.length-1-i=d:=by omega
 show fo _ _ _ _ _ _=ph _ _ _ _ _ _;rw[e,B.gp.fo_eq hs B.gp.one,B.gp.l1 (B.gp.ph hs),l]
theorem al_zv(s:Shp O P C)(B:Beh O P C d)(l:O.length-d=i+1):al O P C d i (zv O)=zv O:=by rw[al_ph s B l,Ph_zv B.gp.toMon]
theorem zRG(s:Shp O P C)(B:Beh O P C d)(A:O.length-d=i+1)(L:Lv O P C i):Rel O P C (TT O (O.length-d)) (mu O P C d) (zv O) (cvec C i) (i+1):=by
 have hle:=B.le;have e:O.length-1-i=d:=by omega
 have hs:∀j,i+1<=j->j<O.length->TT O (O.length-d) (cvec C i j):=λj u l=>by rw[A];exact s.cj i j (by omega) l
 have sk:∀{j:Nat} {x:V1},i<j->j<O.length->TT O (j+1) x->al O P C d i x=Ph O (mu O P C d) (zv O) (cvec C i) (O.length-(j+1)) x:=λ{j x} u l E=>by
  rw[al_ph s B A];show ph _ _ _ _ _ _=ph _ _ _ _ _ _
  have:=B.gp.toMon.ph_skip (h:=cvec C i) (x:=nx x) (d:=O.length-(j+1)) (k:=j-i) (t:=i+1) (λt a b=>by show(at_ x t).toNat=0;rw[E.zero t (by omega)];rfl) (λt a b=>hs t (by omega) (by omega))
  rw[show j-i+(O.length-(j+1))=d by omega,show i+1+(j-i)=O.length-(O.length-(j+1)) by omega]at this;rw[A];exact this
 refine⟨hs,λj u l=>?_,λj k u l D=>?_⟩
 .have:=L.pow j (by omega) l
  rw[e]at this;rw[this];exact sk (by omega) l (s.pw j l)
 .have:=L.cj j k (by omega) l D
  rw[e]at this;rw[this];congr 1;exact sk (by omega) (by omega) (s.cj j k l D)
theorem al_in(s:Shp O P C)(B:Beh O P C d)(l:O.length-d=i+1)(x:V1):TT O (O.length-d) (al O P C d i x):=by
 rw[l];exact Qr s (by rw[<-l];exactλa b u A=>B.gp.cl u A) x
theorem zRc(s:Shp O P C)(B:Beh O P C d)(l:O.length-d=i+1)(L:Lv O P C i){a b:V1}(u:TT O (O.length-d) a)(A:TT O (O.length-d) b):al O P C d i (mu O P C d a b)=mu O P C d (al O P C d i a) (al O P C d i b):=by
 rw[al_ph s B l,al_ph s B l,al_ph s B l];exact dyck s B.gp.toMon (zRG s B l L) (by have:=B.le;omega) u A
theorem it_in(s:Shp O P C)(B:Beh O P C d)(l:O.length-d=i+1)(k:Nat){x:V1}(u:TT O (O.length-d) x):TT O (O.length-d) (iter (al O P C d i) k x):=zBR (λa _=>al_in s B l a) k u
theorem zIe(s:Shp O P C)(B:Beh O P C d)(l:O.length-d=i+1)(L:Lv O P C i):∀(k:Nat) {a b:V1},TT O (O.length-d) a->TT O (O.length-d) b->iter (al O P C d i) k (mu O P C d a b)=mu O P C d (iter (al O P C d i) k a) (iter (al O P C d i) k b)
 |0,a,b,ha,hb=>rfl
 |k+1,a,b,ha,hb=>by
  show iter _ k (al O P C d i _)=_;rw[zRc s B l L ha hb,zIe s B l L k (al_in s B l a) (al_in s B l b)];rfl
theorem zDl{f:V1->V1}{w:V1}(h:f w=w):∀k,iter f k w=w
 |0=>rfl
 |k+1=>by show iter f k (f w)=w;rw[h];exact zDl h k
theorem zQM(s:Shp O P C)(B:Beh O P C d)(l:O.length-d=i+1)(L:Lv O P C i){x:V1}(E:TT O (O.length-d) x):mu O P C d (pvec P i) (iter (al O P C d i) (nx O i) x)=mu O P C d x (pvec P i):=by
 have hle:=B.le;have D:i<O.length:=by omega
 have e:O.length-1-i=d:=by omega
 have hw:TT O (O.length-d) (pvec P i):=by rw[l];exact s.pw i D
 have M:=B.gp.toMon
 have:=M.ph_ind (Q:=λx=>mu O P C d (pvec P i) (iter (al O P C d i) (nx O i) x)=mu O P C d x (pvec P i)) ?_ ?_ (h:=unit O) (x:=nx x) (d:=d) (t:=O.length-d) λj u A=>⟨s.unit (by omega) u,?_⟩
 .have nf:=B.nf E;rw[show Ph O (mu O P C d) (zv O) (unit O) d x=ph (mu O P C d) (zv O) (unit O) (nx x) (O.length-d) d from rfl]at nf;rw[nf]at this;exact this
 .rw[zDl (al_zv s B l),M.r1 hw,M.l1 hw]
 .intro a b ha hb u A;rw[zIe s B l L _ ha hb,<-M.as hw (it_in s B l _ ha) (it_in s B l _ hb),u,M.as ha hw (it_in s B l _ hb),A,<-M.as ha hb hw]
 .have:=L.inn j (by omega) (by omega)
  rw[e]at this;exact this
theorem zEI(s:Shp O P C)(B:Beh O P C d)(N:O.length-d=i+1){a b:Int}{x y:V1}(A:TT O (O.length-d) x)(D:TT O (O.length-d) y):
  mu O P C (d+1) (x.set i a) (y.set i b)=if a+b ≥ at_ O i then(mu O P C d (pvec P i) (mu O P C d (iter (al O P C d i) b.toNat x) y)).set i (a+b-at_ O i)else(mu O P C d (iter (al O P C d i) b.toNat x) y).set i (a+b):=by
 have hle:=B.le;have l:i<O.length:=by omega
 have J:O.length-(d+1)=i:=by omega
 have E:i<x.length:=by rw[A.len];exact l
 have G:i<y.length:=by rw[D.len];exact l
 have L:at_ x i=0:=A.zero i (by omega);have M:at_ y i=0:=D.zero i (by omega);simp only[mu,J];rw[zDP,zDP,qM L E,qM M G];have H:at_ (x.set i a) i=a:=by rw[at_set E,if_pos rfl]
 have u:at_ (y.set i b) i=b:=by rw[at_set G,if_pos rfl]
 show(if at_ (x.set i a) i+at_ (y.set i b) i ≥ _ then _ else _)=_
 have I:nx (y.set i b) i=b.toNat:=by show(at_ _ i).toNat=_;rw[u]
 rw[H,u,I]
theorem pair(h:i<O.length){t:Nat}{x:V1}(l:TT O i x)(u:0<at_ O i):∃y a,TT O (i+1) y/\x=y.set i a/\0<=a/\a<at_ O i:=
 ⟨x.set i 0,at_ x i,l.set0 h u,(zMd (by rw[l.len];exact h)).symm,(l.bd i h).1,(l.bd i h).2⟩
theorem zJC(s:Shp O P C)(B:Beh O P C d)(U:O.length-d=i+1)(L:Lv O P C i):Beh O P C (d+1):=by
 have hle:=B.le;have H:i<O.length:=by omega
 have W:O.length-(d+1)=i:=by omega
 have e:O.length-1-i=d:=by omega
 have aQ:=s.pos H;have hw:TT O (O.length-d) (pvec P i):=by rw[U];exact s.pw i H
 have M:=B.gp.toMon;have E:=λ{a b:Int} {x y:V1} (l:TT O (O.length-d) x) (D:TT O (O.length-d) y)=>zEI s B U (a:=a) (b:=b) l D;have N:=λ(k:Nat) {x:V1} (l:TT O (O.length-d) x)=>it_in s B U k l;have im:=λ(k:Nat) {x y:V1} (l:TT O (O.length-d) x) (D:TT O (O.length-d) y)=>zIe s B U L k l D;have iw:∀k,iter (al O P C d i) k (pvec P i)=pvec P i:=λk=>zDl (by have:=L.fix;rw[e]at this;exact this) k;have iz:∀k,iter (al O P C d i) k (zv O)=zv O:=λk=>zDl (al_zv s B U) k;have Y:∀{x:V1},TT O i x->∃y a,TT O (O.length-d) y/\x=y.set i a/\0<=a/\a<at_ O i:=λl=>by rw[U];exact pair H (t:=0) l aQ
 have zs:zv O=(zv O).set i 0:=(qM (qF _ i) (by simp;exact H)).symm;have hz:TT O (O.length-d) (zv O):=s.zv _;have l1:∀{a:V1},TT O i a->mu O P C (d+1) (zv O) a=a:=λ{a} J=>by
  obtain⟨x,a,l,rfl,b1,b2⟩:=Y J;rw[zs,E hz l,if_neg (by omega),iz,M.l1 l,Uc]
 have r1:∀{a:V1},TT O i a->mu O P C (d+1) a (zv O)=a:=λ{a} J=>by
  obtain⟨x,a,l,rfl,b1,b2⟩:=Y J
  conv=>lhs;rw[zs]
  rw[E l hz,if_neg (by omega),Uy]
  show(mu O P C d x (zv O)).set i a=_
  rw[M.r1 l]
 have cl:∀{a b:V1},TT O i a->TT O i b->TT O i (mu O P C (d+1) a b):=λ{a b} J hb=>by
  have:=mu_tt s (d:=d+1) (by omega) (by rw[W];exact J) (by rw[W];exact hb)
  rwa[W]at this
 have G3:∀{a b c:V1},TT O i a->TT O i b->TT O i c->mu O P C (d+1) (mu O P C (d+1) a b) c=mu O P C (d+1) a (mu O P C (d+1) b c):=λ{a b c} J hb hc=>by
  obtain⟨x,a,l,rfl,a1,a2⟩:=Y J;obtain⟨y,b,D,rfl,b1,b2⟩:=Y hb;obtain⟨z,c,I,rfl,c1,c2⟩:=Y hc;have A:=N b.toNat l;have V:=N c.toNat D;have AB:=M.cl A D;have Q:=M.cl V I;have past:=λ{u:V1} (G:TT O (O.length-d) u)=>zQM s B U L G;have ic:iter (al O P C d i) c.toNat (iter (al O P C d i) b.toNat x)=iter (al O P C d i) (b.toNat+c.toNat) x:=(zFJ _ _ _ _).symm;have X:=N (b.toNat+c.toNat) l;rw[E l D,E D I];by_cases R:a+b ≥ at_ O i
  .rw[if_pos R,E (M.cl hw AB) I,im _ hw AB,iw,im _ A D,ic];by_cases Z:b+c ≥ at_ O i
   .rw[if_pos Z,E l (M.cl hw Q)];have hk:(b+c-at_ O i).toNat+nx O i=b.toNat+c.toNat:=by show _+(at_ O i).toNat=_;omega
    have hX:=past (N (b+c-at_ O i).toNat l);rw[<-zFJ,hk]at hX;have e5:mu O P C d (iter (al O P C d i) (b+c-at_ O i).toNat x) (mu O P C d (pvec P i) (mu O P C d (iter (al O P C d i) c.toNat y) z))=mu O P C d (mu O P C d (pvec P i) (mu O P C d (iter (al O P C d i) (b.toNat+c.toNat) x) (iter (al O P C d i) c.toNat y))) z:=by
     rw[<-M.as (N _ l) hw Q,<-hX,M.as hw X Q,<-M.as X V I,<-M.as hw (M.cl X V) I]
    rw[e5];by_cases T:a+b-at_ O i+c ≥ at_ O i
    .rw[if_pos T,if_pos (by omega)];congr 1;omega
    .rw[if_neg T,if_neg (by omega)];congr 1;omega
   .rw[if_neg Z,E l Q,if_neg (by omega),if_pos (by omega),show(b+c).toNat=b.toNat+c.toNat by omega];rw[<-M.as X V I,<-M.as hw (M.cl X V) I];congr 1;omega
  .rw[if_neg R,E AB I,im _ A D,ic];by_cases Z:b+c ≥ at_ O i
   .rw[if_pos Z,E l (M.cl hw Q),if_pos (by omega),if_neg (by omega)];have hk:(b+c-at_ O i).toNat+nx O i=b.toNat+c.toNat:=by show _+(at_ O i).toNat=_;omega
    have hX:=past (N (b+c-at_ O i).toNat l);rw[<-zFJ,hk]at hX;rw[<-M.as (N _ l) hw Q,<-hX,M.as hw X Q,<-M.as X V I];congr 1;omega
   .rw[if_neg Z,E l Q,show(b+c).toNat=b.toNat+c.toNat by omega,<-M.as X V I];by_cases T:a+b+c ≥ at_ O i
    .rw[if_pos T,if_pos (by omega)];congr 1;omega
    .rw[if_neg T,if_neg (by omega)];congr 1;omega
 have Mn:Mon (TT O (O.length-(d+1))) (mu O P C (d+1)) (zv O):=by
  rw[W];exact⟨s.zv _,cl,G3,l1,r1⟩
 refine⟨by omega,Gp.of_right Mn ?_,?_⟩
 .rw[W];intro a J;obtain⟨x,a,l,rfl,a1,a2⟩:=Y J;by_cases AL:a=0
  .subst AL;obtain⟨y,D,R,_⟩:=B.gp.inv l;refine⟨y.set i 0,(D.mono (by omega)).set H (na _) ⟨by omega,aQ⟩,?_⟩;rw[E l D,if_neg (by omega)]
   show(mu O P C d x y).set i _=_
   rw[R,Uy];exact zs.symm
  .obtain⟨y,D,R,_⟩:=B.gp.inv (M.cl hw (N (at_ O i-a).toNat l));refine⟨y.set i (at_ O i-a),(D.mono (by omega)).set H (na _) ⟨by omega,by omega⟩,?_⟩;rw[E l D,if_pos (by omega),<-M.as hw (N _ l) D,R,show a+(at_ O i-a)-at_ O i=0 by omega];exact zs.symm
 .rw[W];intro x l;obtain⟨y,a,D,rfl,a1,a2⟩:=Y l;have yl:i<y.length:=by rw[D.len];exact H
  have G:∀k:Nat,(k:Int)<at_ O i->pw (mu O P C (d+1)) (zv O) (unit O i) k=(zv O).set i k:=by
   intro k
   induction k with
   |zero=>intro _;exact zs
   |succ k ih=>
    intro hk;show mu O P C (d+1) (pw _ _ _ k) (unit O i)=_;rw[ih (by omega),E hz hz,if_neg (by omega)]
    show(mu O P C d (al O P C d i (zv O)) (zv O)).set i _=_
    rw[al_zv s B U,M.l1 hz];congr 1
  have sub:∀{u v:V1},TT O (O.length-d) u->TT O (O.length-d) v->mu O P C (d+1) u v=mu O P C d u v:=λ{u v} G hv=>by
   have ul:i<u.length:=by rw[G.len];exact H
   have vl:i<v.length:=by rw[hv.len];exact H
   have T:=E (a:=0) (b:=0) G hv;rw[qM (G.zero i (by omega)) ul,qM (hv.zero i (by omega)) vl,if_neg (by omega)]at T;rw[T];have ta:=M.cl G hv;exact qM (ta.zero i (by omega)) (by show i<(mu O P C d u v).length;rw[ta.len];exact H)
  have KQ:∀{u:V1},TT O (O.length-d) u->∀k,pw (mu O P C (d+1)) (zv O) u k=pw (mu O P C d) (zv O) u k:=λ{u} G k=>by
   induction k with
   |zero=>rfl
   |succ k ih=>show mu O P C (d+1) (pw _ _ u k) u=mu O P C d (pw _ _ u k) u;rw[ih,sub (M.pw G k) G]
  have KS:∀(c t:Nat),O.length-d<=t->t+c<=O.length->ph (mu O P C (d+1)) (zv O) (unit O) (nx (y.set i a)) t c=ph (mu O P C d) (zv O) (unit O) (nx y) t c:=by
   intro c
   induction c with
   |zero=>intro t _ _;rfl
   |succ c ih=>
    intro t R Z;have HZ:TT O (O.length-d) (unit O t):=s.unit (by omega) R;have cb:nx (y.set i a) t=nx y t:=by show(at_ _ t).toNat=(at_ y t).toNat;rw[at_set yl,if_neg (by omega)]
    rw[ph,ph,ih (t+1) (by omega) (by omega),KQ HZ,cb,sub (M.pw HZ _) (M.ph λj g1 g2=>s.unit (by omega) (by omega))]
  rw[zLC (by omega),W,show Ph O (mu O P C (d+1)) (zv O) (unit O) d (y.set i a)=Ph O (mu O P C d) (zv O) (unit O) d y from KS d _ (na _) (by omega),B.nf D];have cb:nx (y.set i a) i=a.toNat:=by show(at_ _ i).toNat=_;rw[at_set yl,if_pos rfl]
  have ys:y=y.set i 0:=(qM (D.zero i (by omega)) yl).symm;rw[cb,G _ (by omega)]
  conv=>lhs;rw[ys]
  rw[E hz D,if_neg (by omega)]
  show(mu O P C d (zv O) y).set i _=_
  rw[M.l1 D];congr 1;omega
theorem zJB(s:Shp O P C):Beh O P C 0:=by
 have l:∀{x:V1},TT O (O.length-0) x->x=zv O:=λ{x} u=>u.ext (s.zv _) λj A B=>by omega
 refine⟨YW _,⟨⟨s.zv _,λ_ _=>s.zv _,λ_ _ _=>rfl,λh=>(l h).symm,λh=>(l h).symm⟩,λh=>⟨zv O,s.zv _,rfl,rfl⟩⟩,λh=>(l h).symm⟩
end
def Cons(O:V1)(P:V2)(C:V3):Prop:=∀i,i<O.length->Lv O P C i
theorem zOA(s:Shp O P C):∀{d:Nat},d<=O.length->(∀i,O.length-d<=i->i<O.length->Lv O P C i)->Beh O P C d
 |0,_,_=>zJB s
 |d+1,hd,h=>zJC s (zOA s (by omega) λi u l=>h i (by omega) l) (by omega) (h (O.length-(d+1)) (na _) (by omega))
end
section
variable{α:Type}{S:α->Prop}{m:α->α->α}{e:α}{h:Nat->α}
theorem zGi(s:Shp O P C)(hd:d+1<=O.length){u v:V1}(B:TT O (O.length-d) u)(D:TT O (O.length-d) v):mu O P C (d+1) u v=mu O P C d u v:=by
 have l:O.length-(d+1)<O.length:=by omega
 have G:=B.zero (O.length-(d+1)) (by omega);have A:=D.zero (O.length-(d+1)) (by omega);have E:=mu_tt s (by omega:d<=O.length) B D;have H:=s.pos l;simp only[mu];rw[qM G (by rw[B.len];exact l),qM A (by rw[D.len];exact l),G,A,if_neg (by omega)]
 have:nx v (O.length-(d+1))=0:=by show(at_ v _).toNat=0;rw[A];rfl
 rw[this];exact qM (E.zero _ (by omega)) (by show _<(mu O P C d u v).length;rw[E.len];exact l)
theorem zNW(s:Shp O P C):∀{k:Nat},d+k<=O.length->∀{u v:V1},TT O (O.length-d) u->TT O (O.length-d) v->mu O P C (d+k) u v=mu O P C d u v
 |0,_,u,v,_,_=>rfl
 |k+1,hk,u,v,hu,hv=>by
  rw[show d+(k+1)=(d+k)+1 by omega,zGi s (by omega) (hu.mono (by omega)) (hv.mono (by omega)),zNW s (by omega) hu hv]
theorem zH4{l:α->α->α}(h:∀a b,S a->S b->l a b=m a b)(M:Mon S m e){x:α}(u:S x):∀k,pw l e x k=pw m e x k
 |0=>rfl
 |k+1=>by show l (pw l e x k) x=m (pw m e x k) x;rw[zH4 h M u k,h _ _ (M.pw u k) u]
theorem zFt{u:α->α->α}(h:∀a b,S a->S b->u a b=m a b)(M:Mon S m e){f:Nat->α}{x:Nat->Nat}:∀{c t:Nat},(∀j,t<=j->j<t+c->S (f j))->ph u e f x t c=ph m e f x t c
 |0,t,_=>rfl
 |c+1,t,hf=>by
  have l:=hf t (na _) (by omega);have i:=zFt h M (f:=f) (x:=x) (c:=c) (t:=t+1) λj a b=>hf j (by omega) (by omega);rw[ph,ph,i,zH4 h M l];exact h _ _ (M.pw l _) (M.ph λj a b=>hf j (by omega) (by omega))
theorem zQj{m:V1->V1->V1}(M:Mon (TT O (O.length-d)) m (zv O))(s:Shp O P C){f:Nat->V1}(D:∀j,O.length-d<=j->j<O.length->TT O (O.length-d) (f j))(hd:d<=O.length){k:Nat}(A:O.length-d<=k)(B:k<O.length):Ph O m (zv O) f d (unit O k)=f k:=by
 have:∀(c t:Nat),O.length-d<=t->t+c=O.length->ph m (zv O) f (nx (unit O k)) t c=if t<=k then f k else zv O:=by
  intro c
  induction c with
  |zero=>intro t u E;rw[ph,if_neg (by omega)]
  |succ c ih=>
   intro t u E;have G:nx (unit O k) t=if t=k then 1 else 0:=by
    show(at_ ((zv O).set k 1) t).toNat=_
    rw[at_set (by simp;exact B)];split
    .rfl
    .rw[qF];rfl
   rw[ph,ih (t+1) (by omega) (by omega),G];have l:=D t u (by omega);by_cases e:t=k
   .subst e;rw[if_pos rfl,if_neg (by omega),if_pos (na _),M.pw_one l,M.r1 l]
   .rw[if_neg e];show m (zv O) _=_;by_cases g:t<=k
    .rw[if_pos (by omega),if_pos g,M.l1 (D k A B)]
    .rw[if_neg (by omega),if_neg g,M.l1 M.one]
 have:=this d (O.length-d) (na _) (by omega)
 rw[if_pos A]at this;exact this
structure Full(O:V1)(P:V2)(C:V3)(d:Nat):Prop extends Beh O P C d where
 rel:Rel O P C (TT O (O.length-d)) (mu O P C d) (zv O) (unit O) (O.length-d)
theorem zNt(s:Shp O P C):Full O P C 0:=⟨zJB s,⟨λj l u=>s.unit u l,λj l u=>by omega,λj k l u A=>by omega⟩⟩
theorem zNu(s:Shp O P C)(B:Full O P C d)(E:O.length-d=i+1)(L:Lv O P C i):Full O P C (d+1):=by
 have hle:=B.le;have A:i<O.length:=by omega
 have V:O.length-(d+1)=i:=by omega
 have T:=zJC s B.toBeh E L;refine⟨T,?_⟩;have M:=B.gp.toMon;have aQ:=s.pos A;have G:TT O (O.length-d) (zv O):=s.zv _;have hw:TT O (O.length-d) (pvec P i):=by rw[E];exact s.pw i A
 have sub:∀a b,TT O (O.length-d) a->TT O (O.length-d) b->mu O P C (d+1) a b=mu O P C d a b:=λa b W X=>zGi s (by omega) W X;have un:∀j,O.length-d<=j->j<O.length->TT O (O.length-d) (unit O j):=λj u l=>s.unit l u;have Q:=λ{a b:Int} {x y:V1} (N:TT O (O.length-d) x) (Z:TT O (O.length-d) y)=>zEI s B.toBeh E (a:=a) (b:=b) N Z;have zs:zv O=(zv O).set i 0:=(qM (qF _ i) (by simp;exact A)).symm;have nfx:∀{j:Nat} {x:V1},i<=j->j<O.length->TT O (j+1) x->Ph O (mu O P C (d+1)) (zv O) (unit O) (O.length-(j+1)) x=x:=λ{j x} u l N=>by
  have I:=B.nf (N.mono (by omega:O.length-d<=j+1));have H:Ph O (mu O P C (d+1)) (zv O) (unit O) (O.length-(j+1)) x=Ph O (mu O P C d) (zv O) (unit O) (O.length-(j+1)) x:=zFt sub M λk a b=>un k (by omega) (by omega);rw[H]
  have:=M.ph_skip (h:=unit O) (x:=nx x) (d:=O.length-(j+1)) (k:=j-i) (t:=O.length-d) (λt a b=>by show(at_ x t).toNat=0;rw[N.zero t (by omega)];rfl) (λt a b=>un t (by omega) (by omega))
  rw[show j-i+(O.length-(j+1))=d by omega,show O.length-d+(j-i)=O.length-(O.length-(j+1)) by omega]at this;show ph _ _ _ _ _ _=x;rw[<-this];exact I
 rw[V];refine⟨λj u l=>s.unit l u,λj u l=>?_,λj k u l D=>?_⟩
 .rw[nfx u l (s.pw j l)];by_cases e:j=i
  .subst e;have Y:∀k:Nat,(k:Int)<at_ O j->pw (mu O P C (d+1)) (zv O) (unit O j) k=(zv O).set j k:=by
    intro k
    induction k with
    |zero=>intro _;exact zs
    |succ k ih=>
     intro hk;show mu O P C (d+1) (pw _ _ _ k) (unit O j)=_;rw[ih (by omega),Q G G,if_neg (by omega)]
     show(mu O P C d (al O P C d j (zv O)) (zv O)).set j _=_
     rw[al_zv s B.toBeh E,M.l1 G];congr 1
   obtain⟨o,ho⟩:∃o:Nat,nx O j=o+1:=⟨nx O j-1,by show(at_ O j).toNat=_;have:nx O j=(at_ O j).toNat:=rfl;omega⟩
   have RU:at_ O j=(o:Int)+1:=by have:nx O j=(at_ O j).toNat:=rfl;omega
   rw[ho];show mu O P C (d+1) (pw _ _ _ o) (unit O j)=_;rw[Y o (by omega),Q G G,if_pos (by omega)]
   show(mu O P C d (pvec P j) (mu O P C d (al O P C d j (zv O)) (zv O))).set j _=_
   rw[al_zv s B.toBeh E,M.l1 G,M.r1 hw,show(o:Int)+1-at_ O j=0 by omega];exact qM (hw.zero j (by omega)) (by rw[hw.len];exact A)
  .rw[zH4 sub M (un j (by omega) l),B.rel.pow j (by omega) l];have I:=nfx u l (s.pw j l);have H:Ph O (mu O P C (d+1)) (zv O) (unit O) (O.length-(j+1)) (pvec P j)=Ph O (mu O P C d) (zv O) (unit O) (O.length-(j+1)) (pvec P j):=zFt sub M λk a b=>un k (by omega) (by omega);rw[<-H];exact I
 .rw[nfx u (by omega) (s.cj j k l D)];by_cases e:j=i
  .subst e;have J:TT O (O.length-d) (cvec C j k):=by rw[E];exact s.cj j k l D
   have R:=un k (by omega) D;have zu:=R.zero j (by omega);have zc:=J.zero j (by omega);have H:mu O P C (d+1) (unit O k) (unit O j)=(cvec C j k).set j 1:=by
    have:=Q (a:=0) (b:=1) R G
    rw[qM zu (by rw[R.len];exact A),if_neg (by have:=(s.pr j A).1;omega)]at this;rw[this]
    show(mu O P C d (al O P C d j (unit O k)) (zv O)).set j _=_
    rw[al_ph s B.toBeh E,zQj M s (λq a b=>by rw[E];exact s.cj j q (by omega) b) hle (by omega) D,M.r1 J];congr 1
   have U:mu O P C (d+1) (unit O j) (cvec C j k)=(cvec C j k).set j 1:=by
    have:=Q (a:=1) (b:=0) G J
    rw[qM zc (by rw[J.len];exact A),if_neg (by have:=(s.pr j A).1;omega)]at this;rw[this]
    show(mu O P C d (zv O) (cvec C j k)).set j _=_
    rw[M.l1 J];congr 1
   rw[H,U]
  .have Ny:TT O (O.length-d) (cvec C j k):=(s.cj j k l D).mono (by omega);have I:=nfx u (by omega) (s.cj j k l D);have H:Ph O (mu O P C (d+1)) (zv O) (unit O) (O.length-(j+1)) (cvec C j k)=Ph O (mu O P C d) (zv O) (unit O) (O.length-(j+1)) (cvec C j k):=zFt sub M λk a b=>un k (by omega) (by omega);rw[H]at I
   have:=B.rel.cj j k (by omega) l D
   rw[I]at this;rw[sub _ _ (un k (by omega) D) (un j (by omega) (by omega)),sub _ _ (un j (by omega) (by omega)) Ny];exact this
theorem full_of(s:Shp O P C):∀{d:Nat},d<=O.length->(∀i,O.length-d<=i->i<O.length->Lv O P C i)->Full O P C d
 |0,_,_=>zNt s
 |d+1,hd,h=>zNu s (full_of s (by omega) λi u l=>h i (by omega) l) (by omega) (h (O.length-(d+1)) (na _) (by omega))
theorem Mon.ph_app(M:Mon S m e){f:Nat->α}{x:Nat->Nat}{b:Nat}:∀{a t:Nat},(∀j,t<=j->j<t+a+b->S (f j))->Grp.ph m e f x t (a+b)=m (Grp.ph m e f x t a) (Grp.ph m e f x (t+a) b)
 |0,t,hf=>by
  rw[Y5,UN];exact(M.l1 (M.ph λj l u=>hf j (by omega) (by omega))).symm
 |a+1,t,hf=>by
  have A:=hf t (na _) (by omega);rw[show a+1+b=(a+b)+1 by omega,Grp.ph,Grp.ph,M.ph_app λj l u=>hf j (by omega) (by omega),show t+(a+1)=t+1+a by omega,M.as (M.pw A _) (M.ph λj l u=>hf j (by omega) (by omega)) (M.ph λj l u=>hf j (by omega) (by omega))]
def hdz(x:V1)(j:Nat):V1:=x.take (j+1)++List.replicate (x.length-(j+1)) 0
theorem zEL(x:V1)(j:Nat):(hdz x j).length=x.length:=by simp[hdz];omega
theorem zCi(x:V1)(j k:Nat):at_ (hdz x j) k=if k<=j then at_ x k else 0:=by
 simp only[hdz,at_,YB];by_cases l:k<=j
 .rw[if_pos l];by_cases u:k<x.length
  .rw[Yy (by simp;omega),Yd,if_pos (by omega)]
  .rw[Yq (by simp;omega),Yq (by omega)]
 .rw[if_neg l];by_cases u:k<x.length
  .rw[Yx (by simp;omega),List.getElem?_replicate];split<;>rfl
  .rw[Yq (by simp;omega)];rfl
theorem zIj{t j:Nat}{x:V1}(u:TT O t x)(A:∀j,j<O.length->0<at_ O j):TT O t (hdz x j):=by
 refine⟨by rw[zEL,u.len],λk l=>?_,λk l=>?_⟩
 .rw[zCi];split
  .exact u.bd k l
  .exact⟨by omega,A k l⟩
 .rw[zCi];split
  .exact u.zero k l
  .rfl
def tstep(O:V1)(P:V2)(C:V3)(m:V1->V1->V1)(x:V1)(j:Nat):V1:=
 fo m (cvec C j) (nx x) (j+1) (O.length-1-j) (if at_ x j+1=at_ O j then m ((hdz x j).set j 0) (pvec P j)else(hdz x j).set j (at_ x j+1))
theorem zOO(s:Shp O P C)(B:Full O P C d){x:V1}(L:TT O (O.length-d) x){j:Nat}(G:O.length-d<=j)(l:j<O.length):tstep O P C (mu O P C d) x j=mu O P C d x (unit O j):=by
 have hle:=B.le;have M:=B.gp.toMon;have aQ:=s.pos l;have bx:=L.bd j l;have un:∀k,O.length-d<=k->k<O.length->TT O (O.length-d) (unit O k):=λk a b=>s.unit b a;have E:∀k,j+1<=k->k<O.length->TT O (O.length-d) (cvec C j k):=λk a b=>(s.cj j k (by omega) b).mono (by omega);have dC:TT O (O.length-d) (pvec P j):=(s.pw j l).mono (by omega);have D:=un j G l;have W:j<(hdz x j).length:=by rw[zEL,L.len];exact l
 -- nV head, nV rV xo, nV rest
 let H:=ph (mu O P C d) (zv O) (unit O) (nx x) (O.length-d) (j-(O.length-d))
 have I:TT O (O.length-d) H:=M.ph λk a b=>un k (by omega) (by omega);have Y:∀{y:V1},(∀k,k<j->at_ y k=at_ x k)->TT O (O.length-d) y->y=mu O P C d H (mu O P C d (pw (mu O P C d) (zv O) (unit O j) (nx y j)) (ph (mu O P C d) (zv O) (unit O) (nx y) (j+1) (O.length-1-j))):=λ{y} V U=>by
  have N:=B.nf U;have e2:Ph O (mu O P C d) (zv O) (unit O) d y=mu O P C d (ph (mu O P C d) (zv O) (unit O) (nx y) (O.length-d) (j-(O.length-d))) (ph (mu O P C d) (zv O) (unit O) (nx y) j (O.length-1-j+1)):=by
   have:=M.ph_app (f:=unit O) (x:=nx y) (a:=j-(O.length-d)) (b:=O.length-1-j+1) (t:=O.length-d) λk a b=>un k (by omega) (by omega)
   rw[show j-(O.length-d)+(O.length-1-j+1)=d by omega,show O.length-d+(j-(O.length-d))=j by omega]at this;exact this
  have e3:ph (mu O P C d) (zv O) (unit O) (nx y) (O.length-d) (j-(O.length-d))=H:=zCw λk a b=>⟨rfl,by show(at_ y k).toNat=(at_ x k).toNat;rw[V k (by omega)]⟩
  rw[e3]at e2;exact N.symm.trans e2
 have xf:∀{y:V1},(∀k,j<k->at_ y k=0)->ph (mu O P C d) (zv O) (unit O) (nx y) (j+1) (O.length-1-j)=zv O:=λ{y} V=>by
  have N:ph (mu O P C d) (zv O) (unit O) (nx y) (j+1) (O.length-1-j)=ph (mu O P C d) (zv O) (unit O) (nx (zv O)) (j+1) (O.length-1-j):=zCw λk a b=>⟨rfl,by show(at_ y k).toNat=(at_ (zv O) k).toNat;rw[V k (by omega),qF]⟩
  rw[N]
  have:=Ph_zv (O:=O) (h:=unit O) M (O.length-1-j)
  show ph _ _ _ _ _ _=_;rw[show j+1=O.length-(O.length-1-j) by omega];exact this
 let R:=ph (mu O P C d) (zv O) (unit O) (nx x) (j+1) (O.length-1-j)
 let R':=ph (mu O P C d) (zv O) (cvec C j) (nx x) (j+1) (O.length-1-j)
 have hR:TT O (O.length-d) R:=M.ph λk a b=>un k (by omega) (by omega);have Z:TT O (O.length-d) R':=M.ph λk a b=>E k a (by omega);have past:mu O P C d R (unit O j)=mu O P C d (unit O j) R':=M.past_ph D λk a b=>⟨un k (by omega) (by omega),E k a (by omega),by
  have:=B.rel.cj j k G (by omega) (by omega)
  have Lm:Ph O (mu O P C d) (zv O) (unit O) (O.length-(j+1)) (cvec C j k)=cvec C j k:=by
   have J:=s.cj j k (by omega) (by omega);have T:=B.nf (E k a (by omega));have A:=M.ph_skip (h:=unit O) (x:=nx (cvec C j k)) (d:=O.length-(j+1)) (k:=j+1-(O.length-d)) (t:=O.length-d) (λt a b=>by show(at_ _ t).toNat=0;rw[J.zero t (by omega)];rfl) (λt a b=>un t (by omega) (by omega));rw[show j+1-(O.length-d)+(O.length-(j+1))=d by omega,show O.length-d+(j+1-(O.length-d))=O.length-(O.length-(j+1)) by omega]at A;show ph _ _ _ _ _ _=_;rw[<-A];exact T
  rw[Lm]at this;exact this⟩
 have pj:pw (mu O P C d) (zv O) (unit O j) (nx O j)=pvec P j:=by
  rw[B.rel.pow j G l];have J:=s.pw j l;have T:=B.nf dC;have A:=M.ph_skip (h:=unit O) (x:=nx (pvec P j)) (d:=O.length-(j+1)) (k:=j+1-(O.length-d)) (t:=O.length-d) (λt a b=>by show(at_ _ t).toNat=0;rw[J.zero t (by omega)];rfl) (λt a b=>un t (by omega) (by omega));rw[show j+1-(O.length-d)+(O.length-(j+1))=d by omega,show O.length-d+(j+1-(O.length-d))=O.length-(O.length-(j+1)) by omega]at A;show ph _ _ _ _ _ _=_;rw[<-A];exact T
 have u:∀k,TT O (O.length-d) (pw (mu O P C d) (zv O) (unit O j) k):=λk=>M.pw D k
 -- both Hg Tb H g^(e+1) R'
 have rhs:mu O P C d x (unit O j)=mu O P C d (mu O P C d H (pw (mu O P C d) (zv O) (unit O j) (nx x j+1))) R':=by
  conv=>lhs;rw[Y (λ_ _=>rfl) L]
  rw[M.as I (M.cl (u _) hR) D,M.as (u _) hR D,past,<-M.as (u _) D Z,M.as I (u (nx x j+1)) Z];rfl
 have X:∀{c:Int},0<=c->c<at_ O j->(hdz x j).set j c=mu O P C d H (pw (mu O P C d) (zv O) (unit O j) c.toNat):=λ{c} c0 c1=>by
  have U:TT O (O.length-d) ((hdz x j).set j c):=(zIj L λk Q=>s.pos Q).set l G ⟨c0,c1⟩;have hs:=Y (y:=(hdz x j).set j c) (λk Q=>by rw[at_set W,if_neg (by omega),zCi,if_pos (by omega)]) U;rw[xf λk Q=>by rw[at_set W,if_neg (by omega),zCi,if_neg (by omega)],M.r1 (u _)]at hs;rw[hs];congr 2
  show(at_ _ j).toNat=_
  rw[at_set W,if_pos rfl]
 have lhs:(if at_ x j+1=at_ O j then mu O P C d ((hdz x j).set j 0) (pvec P j)else(hdz x j).set j (at_ x j+1))=mu O P C d H (pw (mu O P C d) (zv O) (unit O j) (nx x j+1)):=by
  split
  .rename_i J;rw[X (UD _) aQ,<-pj,show nx O j=nx x j+1 by show(at_ O j).toNat=(at_ x j).toNat+1;omega];show mu O P C d (mu O P C d H (zv O)) _=_;rw[M.r1 I]
  .rw[X (by omega) (by omega),show(at_ x j+1).toNat=nx x j+1 by show _=(at_ x j).toNat+1;omega]
 rw[tstep,lhs,rhs];exact M.fo_eq (λk a b=>E k a (by omega)) (M.cl I (u _))
end
end Go.Grp
namespace Go.Proofs
open Go.Ab Go.Lie Go.Grp
variable{σ:PHeap}{vC vO vP vx:PV}{K:PV->PHeap->Prop}{O x:V1}{P:V2}{C:V3}
section
variable{s:Nat}
structure IsPr(vO vP vC:PV)(O:V1)(P:V2)(C:V3):Prop where
 O:FI vO O
 P:FII vP P
 C:FIII vC C
structure SzP(O:V1)(P:V2)(C:V3):Prop where
 O:O.length<=1048576
 P:SzL P
 C:SzM C
structure PtrG(σ:PHeap)(s:Nat)(vO vP vC:PV):Prop where
 obj:σ.obj s=some [vO,vP,vC]
 lt:s<σ.next
theorem PtrG.new(h:PtrG σ s vO vP vC)(cs:List PV):PtrG (σ.new cs) s vO vP vC:=⟨by have:=h.lt;simp only[Z3,seval,-ae,Nat.ne_of_lt this];exact h.obj,by have:=h.lt;simp only[Z3,seval,-ae];omega⟩
theorem PtrG.set(h:PtrG σ s vO vP vC){t:Nat}(l:s≠t)(cs:List PV):PtrG (σ.set t cs) s vO vP vC:=⟨by simp only[Z3,seval,-ae,l];exact h.obj,h.lt⟩
theorem PtrG.keep{h:PHeap}(hs:PtrG σ s vO vP vC)(l:Keep σ h):PtrG h s vO vP vC:=⟨by rw[l.obj s hs.lt];exact hs.obj,Yk hs.lt l.next⟩
def isExp(O x:V1):Prop:=x.length=O.length/\∀j,j<x.length->0<=at_ x j/\at_ x j<=at_ O j-1
def Zq(O:V1)(t:Nat)(x:V1):Prop:=isExp O x/\isZ (x.take t)
def prodL:V1->Int
 |[]=>1
 |o::O=>o*prodL O
def rowPr(O:V1)(P:V2)(C:V3)(i:Nat):Prop:=Zq O (i+1) (P.getD i [])/\(C.getD i []).length=O.length-1-i/\∀k,k<(C.getD i []).length->Zq O (i+1) ((C.getD i []).getD k [])
def qE(O:V1)(P:V2)(C:V3):Prop:=
 O.length<=6/\P.length=O.length/\C.length=O.length/\(∀o∈O,isP o)/\prodL O<=729/\∀i,i<O.length->rowPr O P C i
theorem Zq.tt{t:Nat}(h:Zq O t x):TT O t x:=by
 refine⟨h.1.1,λj l=>by have:=h.1.2 j (by rw[h.1.1];exact l);omega,λj l=>?_⟩;rcases YG j x.length with e|e
 .rw[at_eq e];exact h.2 _ (by rw[UJ];exact⟨j,by omega,rfl⟩)
 .exact at_ge e
theorem qE.shp(h:qE O P C):Shp O P C:=by
 obtain⟨B,D,E,G,H,l⟩:=h;refine⟨B,λj A=>?_,D,E,λi u=>(l i u).1.tt,λi u=>(l i u).2.1,λi j I A=>?_⟩
 .rw[at_eq A];exact(G _ (YK A)).bd
 .have:=(l i (by omega)).2.2 (j-i-1) (by rw[(l i (by omega)).2.1];omega)
  exact this.tt
theorem zCf(hs:PtrG σ s vO vP vC)(N:FI vO O)(U:O.length<=1048576)(M:∀o∈O,isP o)(Q:FI vx x)(X:x.length<=1048576)(D:∀t:Bool,(t=true↔isExp O x)->K (.bool t) σ):zA Tryz.prog 160 [.ptr s 0,vx] σ K:=by
 have H:∀{A:Prop},¬A->((false=true)↔A):=λh=>⟨λx=>(by cases x),λx=>absurd x h⟩
 obtain⟨R,J,rfl⟩:=N;obtain⟨T,L,rfl⟩:=Q;have G:σ.rd1 s 0=some (.fz R J O.length (pis O)):=by rw[zI hs.obj];rfl
 refine zD mix Tryz.func160 ?_;simp only[Z3,seval,-ae,G];refine iteI (λB=>?_) λB=>?_;rotate_left
 .exact D _ (H λh=>B (by rw[h.1]))
 have B:x.length=O.length:=by omega
 refine zF (λm vs h'=>∃i:Nat,i<=x.length/\m=x.length-i/\vs=[.ptr s 0,.fz T L x.length (pis x),.int .i64 x.length,.int .i64 i]/\σ=h'/\∀j,j<i->0<=at_ x j/\at_ x j<=at_ O j-1) x.length ?_ ?_
 .exact⟨0,by omega,by omega,rfl,rfl,λj I=>by omega⟩
 rintro m vs h' ⟨i,Y,rfl,rfl,rfl,E⟩
 simp only[Z3,seval,-ae];refine iteI (λl=>?_) λV=>?_
 .have jg:i<O.length:=by omega
  have W:=(M _ (YK jg)).bd;simp only[Z3,seval,-ae,l,jg,G,gi l,gi jg,zK,wrap64 (n:=O[i] - 1) (by omega) (by omega)];refine zHD ?_;by_cases u:0<=x[i]/\x[i]<=O[i] - 1
  .simp only[Z3,seval,-ae,u,WX l];refine⟨_,by omega,i+1,by omega,rfl,rfl,λj I=>?_⟩;by_cases e:j=i
   .subst e;rw[at_eq l,at_eq jg];exact u
   .exact E j (by omega)
  .simp only[Z3,seval,-ae,u];exact D _ (H λh=>u (by have:=h.2 i l;rwa[at_eq l,at_eq jg]at this))
 .exact D _ ⟨λ_=>⟨B,λj I=>E j (by omega)⟩,λ_=>rfl⟩
theorem zC9{i:Nat}(hs:PtrG σ s vO vP vC)(J:FI vO O)(H:O.length<=1048576)(I:∀o∈O,isP o)(G:FI vx x)(L:x.length<=1048576)(M:i<O.length)(u:∀t:Bool,(t=true↔Zq O (i+1) x)->K (.bool t) σ):zA Tryz.prog 189 [.ptr s 0,.int .i64 i,vx] σ K:=by
 have B:∀{A:Prop},¬A->((false=true)↔A):=λh=>⟨λx=>(by cases x),λx=>absurd x h⟩
 refine zD mix Tryz.func189 ?_;simp only[Z3,seval,-ae];refine zCf hs J H I G L λt E=>?_;cases t with
 |false=>
  simp only[Z3,seval,-ae];exact u _ (B λh=>by cases E.2 h.1)
 |true=>
  have D:=E.1 rfl;have T:=D.1;obtain⟨U,R,rfl⟩:=G;have N:((i+1:Nat):Int)<=(x.length:Int):=by omega
  have Q:i+1<=x.length:=by omega
  simp only[Z3,seval,-ae,WX M,N,Q,zBd,Nat.sub_zero];refine Zu (by simp;omega) (by simp;omega) ?_;by_cases l:isZ (x.take (i+1))
  .simp only[Z3,seval,-ae,l];exact u _ ⟨λ_=>⟨D,l⟩,λ_=>rfl⟩
  .simp only[Z3,seval,-ae,l];exact u _ (B λh=>l h.2)
theorem zBa:∀(a b:V1),prodL (a++b)=prodL a*prodL b
 |[],b=>by simp[prodL]
 |x::a,b=>by simp[prodL,zBa a b,UT]
theorem zA7{i:Nat}(l:i<O.length):prodL (O.take (i+1))=prodL (O.take i)*O[i]:=by
 rw[YU l,zBa];simp[prodL]
theorem zAu:∀{O:V1},(∀o∈O,isP o)->1<=prodL O
 |[],_=>by simp[prodL]
 |o::O,h=>by
  have l:=(h o (by simp)).bd;have u:=zAu (O:=O) λq A=>h q (by simp[A]);simp only[prodL]
  have:=Int.mul_le_mul l.1 u (by omega) (by omega)
  omega
theorem zLU(h:∀o∈O,isP o)(i:Nat):prodL (O.take i)<=prodL O:=by
 have A:=zAu λo l=>h o (UM (i:=i) l);have u:=zAu λo l=>h o (List.mem_of_mem_drop (i:=i) l)
 have:prodL O=prodL (O.take i)*prodL (O.drop i):=by rw[<-zBa,List.take_append_drop]
 have B:=Int.mul_le_mul (UD (prodL (O.take i))) u (by omega) (by omega);omega
theorem zEe(hR:IsPr vO vP vC O P C)(sz:SzP O P C)(hk:∀t:Bool,(t=true↔qE O P C)->K (.bool t) σ):zA Tryz.prog 125 [.agg [vO,vP,vC]] σ K:=by
 have wE:=hR.O;have Da:=sz.P;have wR:=sz.C;obtain⟨⟨E,D,rfl⟩,⟨w1,G,rP,rfl,hP⟩,⟨L,H,rC,rfl,hC⟩⟩:=hR;refine zA.gh ?_;have fin:∀{t:Bool} {σ':PHeap},(t=true↔qE O P C)->Keep σ σ'->Gh σ K (.bool t) σ':=λh k=>Gh.fin0 k trivial (hk _ h);have no:∀{σ':PHeap},¬qE O P C->Keep σ σ'->Gh σ K (.bool false) σ':=λh k=>fin ⟨λx=>(by cases x),λx=>absurd x h⟩ k;have A:=zC σ [.fz E D O.length (pis O),.fz w1 G P.length rP,.fz L H C.length rC];have cE:PtrG (σ.new [.fz E D O.length (pis O),.fz w1 G P.length rP,.fz L H C.length rC]) σ.next (.fz E D O.length (pis O)) (.fz w1 G P.length rP) (.fz L H C.length rC):=⟨by simp only[Z3,seval,-ae],by simp only[Z3,seval,-ae]⟩
 refine zD mix Tryz.func125 ?_;simp only[Z3,seval,-ae];by_cases h6:O.length<=6;rotate_left
 .have Q:(6:Int)<(O.length:Int):=by omega
  simp only[Z3,seval,-ae,Q];exact no (λh=>h6 h.1) A
 have Q:¬(6:Int)<(O.length:Int):=by omega
 by_cases vY:P.length=O.length;rotate_left
 .have T:¬(P.length:Int)=(O.length:Int):=by omega
  simp only[Z3,seval,-ae,Q,T];exact no (λh=>vY h.2.1) A
 have T:(P.length:Int)=(O.length:Int):=by omega
 by_cases uy:C.length=O.length;rotate_left
 .have W:¬(C.length:Int)=(O.length:Int):=by omega
  simp only[Z3,seval,-ae,Q,eq_true T,W];exact no (λh=>uy h.2.2.1) A
 have W:(C.length:Int)=(O.length:Int):=by omega
 simp only[Z3,seval,-ae,Q,eq_true T,eq_true W];refine zF (λm vs h'=>∃i:Nat,i<=O.length/\m=O.length-i/\vs=[.ptr σ.next 0,.int .i64 O.length,.int .i64 (prodL (O.take i)),.fz E D O.length (pis O),.int .i64 O.length,.int .i64 i]/\h'=σ.new [.fz E D O.length (pis O),.fz w1 G P.length rP,.fz L H C.length rC]/\(∀o∈O.take i,isP o)/\prodL (O.take i)<=729) O.length ?_ ?_
 .exact⟨0,by omega,by omega,rfl,rfl,by simp,by simp[prodL]⟩
 rintro m vs h' ⟨i,hi,rfl,rfl,rfl,I,V⟩
 simp only[Z3,seval,-ae];refine iteI (λl=>?_) λX=>?_
 .simp only[Z3,seval,-ae,l,gi l,zK];refine zCE ?_;by_cases J:isP O[i];rotate_left
  .simp only[Z3,seval,-ae,J];exact no (λh=>J (h.2.2.2.1 _ (YK l))) A
  have gX:=J.bd;have h1:=zAu I;have tP:0<=prodL (O.take i)*O[i]:=UY (by omega) (by omega);have yZ:=Int.mul_le_mul V gX.2 (by omega) (by omega);have hw:IntKind.i64.wrap (prodL (O.take i)*O[i])=prodL (O.take i)*O[i]:=WE;by_cases ho:prodL (O.take i)*O[i]<=729
  .have cW:¬(729:Int)<prodL (O.take i)*O[i]:=by omega
   simp only[Z3,seval,-ae,J,hw,cW,l,gi l,zK,WX l];refine⟨_,by omega,i+1,by omega,rfl,?_,zDs l I J,?_⟩
   .rw[zA7 l]
   .rw[zA7 l];exact ho
  .have cW:(729:Int)<prodL (O.take i)*O[i]:=by omega
   simp only[Z3,seval,-ae,J,hw,cW];refine no (λh=>?_) A
   have:=zLU h.2.2.2.1 (i+1)
   rw[zA7 l]at this
   have:=h.2.2.2.2.1
   omega
 have aU:i=O.length:=by omega
 subst aU;rw[Yg]at I V;refine zF (λm vs h'=>∃i:Nat,i<=O.length/\m=O.length-i/\vs=[.ptr σ.next 0,.int .i64 O.length,.int .i64 O.length,.int .i64 i]/\h'=σ.new [.fz E D O.length (pis O),.fz w1 G P.length rP,.fz L H C.length rC]/\∀j,j<i->rowPr O P C j) O.length ?_ ?_
 .exact⟨0,by omega,by omega,rfl,rfl,λj R=>by omega⟩
 rintro m vs h' ⟨i,hi,rfl,rfl,rfl,Y⟩
 simp only[Z3,seval,-ae];refine iteI (λl=>?_) λX=>?_;rotate_left
 .exact fin ⟨λ_=>⟨h6,vY,uy,I,V,λj R=>Y j (by omega)⟩,λ_=>rfl⟩ A
 have N:i<P.length:=by omega
 have u:i<C.length:=by omega
 obtain⟨w4,a4,hr⟩:=hP.rowI N;obtain⟨w5,a5,rs,cB,dy⟩:=hC.rowL u;have u4:=Da.r _ (YK N);have jm:=(wR.r _ (YK u)).l;have bad:(Zq O (i+1) P[i]->C[i].length=O.length-1-i->(∀k (h:k<C[i].length),Zq O (i+1) C[i][k])->False)->¬qE O P C:=λhb eH=>by
  obtain⟨q1,q3,q4⟩:=eH.2.2.2.2.2 i l;rw[qP N]at q1;rw[zO u]at q3;refine hb q1 q3 λk h=>?_
  have:=q4 k (by rw[zO u];exact h)
  rwa[zO u,zO h]at this
 simp only[Z3,seval,-ae,N,hr];refine zC9 cE wE sz.O I ⟨_,_,rfl⟩ u4 l λt B=>?_;cases t with
 |false=>
  simp only[Z3,seval,-ae];exact no (bad λq _ _=>by cases B.2 q) A
 |true=>
 have hv:=B.1 rfl;have e1:IntKind.i64.wrap ((O.length:Int)-1)=(O.length:Int)-1:=WE;have e2:IntKind.i64.wrap ((O.length:Int)-1-(i:Int))=(O.length:Int)-1-(i:Int):=WE;by_cases hlen:C[i].length=O.length-1-i;rotate_left
 .have U:¬(C[i].length:Int)=(O.length:Int)-1-(i:Int):=by omega
  simp only[Z3,seval,-ae,l,u,cB,e1,e2,U];exact no (bad λ_ q _=>hlen q) A
 have U:(C[i].length:Int)=(O.length:Int)-1-(i:Int):=by omega
 simp only[Z3,seval,-ae,l,u,cB,e1,e2,eq_true U];refine zF (λm vs h'=>∃k:Nat,k<=C[i].length/\m=C[i].length-k/\vs=[.ptr σ.next 0,.int .i64 O.length,.int .i64 i,.int .i64 O.length,.int .i64 i,.fz w5 a5 C[i].length rs,.int .i64 C[i].length,.int .i64 k]/\
  h'=σ.new [.fz E D O.length (pis O),.fz w1 G P.length rP,.fz L H C.length rC]/\∀j (h:j<C[i].length),j<k->Zq O (i+1) C[i][j]) C[i].length ?_ ?_
 .exact⟨0,by omega,by omega,rfl,rfl,λj h R=>by omega⟩
 rintro m vs h' ⟨k,bA,rfl,rfl,rfl,Z⟩
 simp only[Z3,seval,-ae];refine iteI (λM=>?_) λX=>?_
 .obtain⟨w6,a6,cK⟩:=dy.rowI M;have bY:=(wR.r _ (YK u)).r _ (YK M);simp only[Z3,seval,-ae,M,cK];refine zC9 cE wE sz.O I ⟨_,_,rfl⟩ bY l λt B=>?_;cases t with
  |false=>
   simp only[Z3,seval,-ae];exact no (bad λ_ _ q=>by cases B.2 (q k M)) A
  |true=>
   simp only[Z3,seval,-ae,WX M];refine⟨_,by omega,k+1,by omega,rfl,rfl,λj h R=>?_⟩;by_cases e:j=k
   .subst e;exact B.1 rfl
   .exact Z j h (by omega)
 .simp only[Z3,seval,-ae,WX l];refine⟨_,by omega,i+1,by omega,rfl,rfl,λj R=>?_⟩;by_cases e:j=i
  .subst e;refine⟨by rw[qP N];exact hv,by rw[zO u];exact hlen,λt B=>?_⟩;rw[zO u]at B ⊢;rw[zO B];exact Z t B (by omega)
  .exact Y j (by omega)
theorem zAN{t:Nat}{z:Int}(Y:z=(t:Int)-1)(ht:t<=O.length)(W:FI vO O)(Z:O.length<=1048576)(V:∀o∈O,isP o)(X:FI vx x)(hb:x.length<=1048576)(E:∀b:Bool,(b=true↔Zq O t x)->K (.bool b) σ):zA Tryz.prog 89 [vO,vx,.int .i64 z] σ K:=by
 have M:∀{A:Prop},¬A->((false=true)↔A):=λh=>⟨λx=>(by cases x),λx=>absurd x h⟩
 obtain⟨Q,J,rfl⟩:=W;obtain⟨R,L,rfl⟩:=X;subst Y;refine qG mix Tryz.func89 ?_;simp only[Z3,seval,-ae];refine iteI (λG=>?_) λG=>?_;rotate_left
 .exact E _ (M λh=>G (by rw[h.1.1]))
 have G:x.length=O.length:=by omega
 refine zF (λm vs h'=>∃i:Nat,i<=x.length/\m=x.length-i/\vs=[.fz Q J O.length (pis O),.fz R L x.length (pis x),.int .i64 ((t:Int)-1),.int .i64 i]/\σ=h'/\∀j,j<i->(0<=at_ x j/\at_ x j<=at_ O j-1)/\(j<t->at_ x j=0)) x.length ?_ ?_
 .exact⟨0,by omega,by omega,rfl,rfl,λj N=>by omega⟩
 rintro m vs h' ⟨i,hi,rfl,rfl,rfl,I⟩
 simp only[Z3,seval,-ae];refine iteI (λl=>?_) λaF=>?_;rotate_left
 .refine E _ ⟨λ_=>⟨⟨G,λj N=>(I j (by omega)).1⟩,λy T=>?_⟩,λ_=>rfl⟩;rw[UJ]at T;obtain⟨j,N,rfl⟩:=T
  have:=(I j (by omega)).2 (by omega)
  rwa[at_eq (by omega)]at this
 have D:i<O.length:=by omega
 have bo:=(V _ (YK D)).bd;simp only[Z3,seval,-ae,l,D,gi l,gi D,zK,wrap64 (n:=O[i] - 1) (by omega) (by omega)];refine zBm ?_;by_cases u:0<=x[i]/\x[i]<=O[i] - 1;rotate_left
 .simp only[Z3,seval,-ae,u];exact E _ (M λh=>u (by have:=h.1.2 i l;rwa[at_eq l,at_eq D]at this))
 have next:(i<t->x[i]=0)->∃U,U<x.length-i/\∃H:Nat,H<=x.length/\U=x.length-H/\[PV.fz Q J O.length (pis O),.fz R L x.length (pis x),.int .i64 ((t:Int)-1),.int .i64 ((i+1:Nat):Int)]=[.fz Q J O.length (pis O),.fz R L x.length (pis x),.int .i64 ((t:Int)-1),.int .i64 H]/\∀j,j<H->(0<=at_ x j/\at_ x j<=at_ O j-1)/\(j<t->at_ x j=0):=λB=>by
  refine⟨_,by omega,i+1,by omega,rfl,rfl,λj N=>?_⟩;by_cases e:j=i
  .subst e;rw[at_eq l,at_eq D];exact⟨u,B⟩
  .exact I j (by omega)
 by_cases hle:(i:Int)<=(t:Int)-1
 .simp only[Z3,seval,-ae,u,hle,l,gi l,zK];refine iteI (λB=>?_) λB=>?_
  .simp only[Z3,seval,-ae,WX l];exact next λ_=>B
  .refine E _ (M λh=>B ?_);exact h.2 _ (by rw[UJ];exact⟨i,by omega,rfl⟩)
 .simp only[Z3,seval,-ae,u,hle,l,WX l];exact next λh=>absurd h (by omega)
theorem zDF(E:FI vO O)(N:O.length<=6)(u:∀o∈O,isP o)(G:∀r:Int,(r<=729↔prodL O<=729)->K (.int .i64 r) σ):zA Tryz.prog 213 [vO] σ K:=by
 obtain⟨L,B,rfl⟩:=E;refine zD mix Tryz.func213 ?_;simp only[Z3,seval,-ae];refine zF (λm vs h'=>∃(i:Nat) (r:Int),i<=O.length/\m=O.length-i/\vs=[.fz L B O.length (pis O),.int .i64 r,.int .i64 i]/\σ=h'/\(r=prodL (O.take i)\/(729<r/\729<prodL (O.take i)))) O.length ?_ ?_
 .exact⟨0,1,by omega,by omega,rfl,rfl,.inl (by simp[prodL])⟩
 rintro m vs h' ⟨i,r,U,rfl,rfl,rfl,J⟩
 simp only[Z3,seval,-ae];refine iteI (λl=>?_) λR=>?_;rotate_left
 .have aU:i=O.length:=by omega
  subst aU;rw[Yg]at J;exact G _ (by omega)
 have D:∀o∈O.take i,isP o:=λo H=>u o (UM H);have T:=zAu D;have I:=u _ (YK l);have A:=I.bd;have hs:=zA7 l;refine iteI (λhle=>?_) λQ=>?_
 .have yy:r=prodL (O.take i):=by omega
  subst yy;have V:0<=prodL (O.take i)*O[i]:=UY (by omega) (by omega);have M:=Int.mul_le_mul hle A.2 (by omega) (by omega);simp only[Z3,seval,-ae,l,gi l,zK,wrap64 (n:=prodL (O.take i)*O[i]) (by omega) (by omega),WX l];exact⟨_,by omega,i+1,_,by omega,rfl,rfl,.inl hs.symm⟩
 .simp only[Z3,seval,-ae,WX l];refine⟨_,by omega,i+1,_,by omega,rfl,rfl,.inr ⟨by omega,?_⟩⟩;have M:=Int.mul_le_mul (UD (prodL (O.take i))) A.1 (by omega) (by omega);omega
theorem Z5(hR:IsPr vO vP vC O P C)(sz:SzP O P C)(hk:∀t:Bool,(t=true↔qE O P C)->K (.bool t) σ):zA Tryz.prog 165 [.agg [vO,vP,vC]] σ K:=by
 have Y:=hR.O;have Da:=sz.P;have wR:=sz.C;obtain⟨⟨T,I,rfl⟩,⟨w1,J,rP,rfl,hP⟩,⟨U,L,rC,rfl,hC⟩⟩:=hR;refine zA.gh ?_;have fin:∀{t:Bool} {σ':PHeap},(t=true↔qE O P C)->Keep σ σ'->Gh σ K (.bool t) σ':=λh k=>Gh.fin0 k trivial (hk _ h);have no:∀{σ':PHeap},¬qE O P C->Keep σ σ'->Gh σ K (.bool false) σ':=λh k=>fin ⟨λx=>(by cases x),λx=>absurd x h⟩ k;have A:=zC σ [.fz T I O.length (pis O),.fz w1 J P.length rP,.fz U L C.length rC];refine qG mix Tryz.func165 ?_;simp only[Z3,seval,-ae];by_cases W:O.length<=6;rotate_left
 .have H:(6:Int)<(O.length:Int):=by omega
  simp only[Z3,seval,-ae,H];exact no (λh=>W h.1) A
 have H:¬(6:Int)<(O.length:Int):=by omega
 by_cases vY:P.length=O.length;rotate_left
 .have R:¬(P.length:Int)=(O.length:Int):=by omega
  simp only[Z3,seval,-ae,H,R];exact no (λh=>vY h.2.1) A
 have R:(P.length:Int)=(O.length:Int):=by omega
 by_cases uy:C.length=O.length;rotate_left
 .have X:¬(C.length:Int)=(O.length:Int):=by omega
  simp only[Z3,seval,-ae,H,eq_true R,X];exact no (λh=>uy h.2.2.1) A
 have X:(C.length:Int)=(O.length:Int):=by omega
 simp only[Z3,seval,-ae,H,eq_true R,eq_true X];refine zF (λm vs h'=>∃i:Nat,i<=O.length/\m=O.length-i/\vs=[.ptr σ.next 0,.int .i64 O.length,.int .i64 i]/\h'=σ.new [.fz T I O.length (pis O),.fz w1 J P.length rP,.fz U L C.length rC]/\(∀o∈O.take i,isP o)) O.length ?_ ?_
 .exact⟨0,by omega,by omega,rfl,rfl,by simp⟩
 rintro m vs h' ⟨i,hi,rfl,rfl,rfl,D⟩
 simp only[Z3,seval,-ae];refine iteI (λu=>?_) λZ=>?_
 .simp only[Z3,seval,-ae,u,gi u,zK];refine zAt ?_;by_cases Q:isP O[i];rotate_left
  .simp only[Z3,seval,-ae,Q];exact no (λh=>Q (h.2.2.2.1 _ (YK u))) A
  simp only[Z3,seval,-ae,Q,WX u];exact⟨_,by omega,i+1,by omega,rfl,rfl,zDs u D Q⟩
 have aU:i=O.length:=by omega
 subst aU;rw[Yg]at D;simp only[Z3,seval,-ae];refine zDF Y W D λr hr=>?_;by_cases dk:prodL O<=729;rotate_left
 .have:(729:Int)<r:=by omega
  simp only[Z3,seval,-ae,this];exact no (λh=>dk h.2.2.2.2.1) A
 have:¬(729:Int)<r:=by omega
 simp only[Z3,seval,-ae,this];refine zF (λm vs h'=>∃i:Nat,i<=O.length/\m=O.length-i/\vs=[.ptr σ.next 0,.int .i64 O.length,.int .i64 i]/\h'=σ.new [.fz T I O.length (pis O),.fz w1 J P.length rP,.fz U L C.length rC]/\∀j,j<i->rowPr O P C j) O.length ?_ ?_
 .exact⟨0,by omega,by omega,rfl,rfl,λj N=>by omega⟩
 rintro m vs h' ⟨i,hi,rfl,rfl,rfl,aL⟩
 simp only[Z3,seval,-ae];refine iteI (λu=>?_) λZ=>?_;rotate_left
 .exact fin ⟨λ_=>⟨W,vY,uy,D,dk,λj N=>aL j (by omega)⟩,λ_=>rfl⟩ A
 have G:i<P.length:=by omega
 have l:i<C.length:=by omega
 obtain⟨w4,a4,hr⟩:=hP.rowI G;obtain⟨w5,a5,rs,M,dy⟩:=hC.rowL l;have u4:=Da.r _ (YK G);have jm:=(wR.r _ (YK l)).l;have bad:(Zq O (i+1) P[i]->C[i].length=O.length-1-i->(∀k (h:k<C[i].length),Zq O (i+1) C[i][k])->False)->¬qE O P C:=λhb eH=>by
  obtain⟨q1,q3,q4⟩:=eH.2.2.2.2.2 i u;rw[qP G]at q1;rw[zO l]at q3;refine hb q1 q3 λk h=>?_
  have:=q4 k (by rw[zO l];exact h)
  rwa[zO l,zO h]at this
 simp only[Z3,seval,-ae,G,hr];refine zAN (t:=i+1) (by omega) (by omega) Y sz.O D ⟨_,_,rfl⟩ u4 λt B=>?_;cases t with
 |false=>
  simp only[Z3,seval,-ae];exact no (bad λq _ _=>by cases B.2 q) A
 |true=>
 have hv:=B.1 rfl;have e1:IntKind.i64.wrap ((O.length:Int)-1)=(O.length:Int)-1:=WE;have e2:IntKind.i64.wrap ((O.length:Int)-1-(i:Int))=(O.length:Int)-1-(i:Int):=WE;by_cases hlen:C[i].length=O.length-1-i;rotate_left
 .have V:¬(C[i].length:Int)=(O.length:Int)-1-(i:Int):=by omega
  simp only[Z3,seval,-ae,u,l,M,e1,e2,V];exact no (bad λ_ q _=>hlen q) A
 have V:(C[i].length:Int)=(O.length:Int)-1-(i:Int):=by omega
 simp only[Z3,seval,-ae,u,l,M,e1,e2,eq_true V];refine zF (λm vs h'=>∃k:Nat,k<=C[i].length/\m=C[i].length-k/\vs=[.ptr σ.next 0,.int .i64 O.length,.int .i64 i,.int .i64 k]/\
  h'=σ.new [.fz T I O.length (pis O),.fz w1 J P.length rP,.fz U L C.length rC]/\∀j (h:j<C[i].length),j<k->Zq O (i+1) C[i][j]) C[i].length ?_ ?_
 .exact⟨0,by omega,by omega,rfl,rfl,λj h N=>by omega⟩
 rintro m vs h' ⟨k,bA,rfl,rfl,rfl,aV⟩
 simp only[Z3,seval,-ae,l,M];refine iteI (λE=>?_) λZ=>?_
 .obtain⟨w6,a6,cK⟩:=dy.rowI E;have bY:=(wR.r _ (YK l)).r _ (YK E);simp only[Z3,seval,-ae,l,M,E,cK];refine zAN (t:=i+1) (by omega) (by omega) Y sz.O D ⟨_,_,rfl⟩ bY λt B=>?_;cases t with
  |false=>
   simp only[Z3,seval,-ae];exact no (bad λ_ _ q=>by cases B.2 (q k E)) A
  |true=>
   simp only[Z3,seval,-ae,WX E];refine⟨_,by omega,k+1,by omega,rfl,rfl,λj h N=>?_⟩;by_cases e:j=k
   .subst e;exact B.1 rfl
   .exact aV j h (by omega)
 .simp only[Z3,seval,-ae,WX u];refine⟨_,by omega,i+1,by omega,rfl,rfl,λj N=>?_⟩;by_cases e:j=i
  .subst e;refine⟨by rw[qP G];exact hv,by rw[zO l];exact hlen,λt B=>?_⟩;rw[zO l]at B ⊢;rw[zO B];exact aV t B (by omega)
  .exact aL j (by omega)
variable{rP rC:List PV}
theorem pisAt{i:Nat}(h:i<x.length):(pis x)[i]? = some (.int .i64 (at_ x i)):=by rw[zK,gi h,at_eq h];rfl
theorem pvRow(s:Shp O P C)(A:All2 FI rP P){i:Nat}(u:i<O.length):∃w a,rP[i]? = some (.fz w a O.length (pis (pvec P i))):=by
 have l:i<P.length:=by rw[s.pl];exact u
 obtain⟨w,a,h⟩:=A.rowI l;refine⟨w,a,?_⟩;have e:pvec P i=P[i]:=qP l;rw[h,e,show P[i].length=O.length by rw[<-e];exact(s.pw i u).len]
theorem cvRow(s:Shp O P C)(G:All2 FII rC C){i:Nat}(D:i<O.length):∃w a rs,rC[i]? = some (.fz w a (O.length-1-i) rs)/\∀q,q<O.length-1-i->∃l a',rs[q]? = some (.fz l a' O.length (pis (cvec C i (i+(1+q))))):=by
 have A:i<C.length:=by rw[s.cl];exact D
 obtain⟨w,a,rs,h,E⟩:=G.rowL A;have e:C.getD i []=C[i]:=zO A;have H:C[i].length=O.length-1-i:=by rw[<-e];exact s.row i D
 refine⟨w,a,rs,by rw[h,H],λq I=>?_⟩;have u:q<C[i].length:=by omega
 obtain⟨l,a',h'⟩:=E.rowI u;have B:cvec C i (i+(1+q))=C[i][q]:=by
  show(C.getD i []).getD (i+(1+q)-i-1) []=_
  rw[e,show i+(1+q)-i-1=q by omega];exact qP u
 exact⟨l,a',by rw[h',B,show C[i][q].length=O.length by rw[<-B];exact(s.cj i _ (by omega) (by omega)).len]⟩
theorem FI.mk{w:Bool}{a:AV}{n:Nat}(h:x.length=n):FI (.fz w a n (pis x)) x:=⟨w,a,by rw[h]⟩
def AtOK(O:V1)(P:V2)(C:V3)(d i:Nat):Prop:=
 ∀{σ:PHeap} {K:PV->PHeap->Prop} {a b:V1} {va vb vO vP vC:PV},IsPr vO vP vC O P C->TT O i a->TT O i b->FI va a->FI vb b->(∀v,FI v (mu O P C d a b)->K v σ)->zA Tryz.prog 216 [.agg [vO,vP,vC],.int .i64 i,va,vb] σ K
theorem Qp(s:Shp O P C){d i:Nat}(hi:O.length=d+(i+1))(fV:AtOK O P C d (i+1))(R:IsPr vO vP vC O P C)(V:TT O 0 x)(bj:FI vx x)(T:∀v,FI v (Grp.img O C (mu O P C d) i x)->K v σ):
  zA Tryz.prog 249 [.agg [vO,vP,vC],.int .i64 i,vx] σ K:=by
 have be:=s.le;have Y:=R;have U:=V.len;have E:i<O.length:=by omega
 have hm:∀a b,TT O (i+1) a->TT O (i+1) b->TT O (i+1) (mu O P C d a b):=λa b ha hb=>by
  have:=mu_tt s (d:=d) (a:=a) (b:=b) (by omega) (by rwa[show O.length-d=i+1 by omega]) (by rwa[show O.length-d=i+1 by omega])
  rwa[show O.length-d=i+1 by omega]at this
 obtain⟨⟨M,G,rfl⟩,⟨w1,H,rP,rfl,hP⟩,⟨N,I,rC,rfl,hC⟩⟩:=R;obtain⟨w5,a5,rs,cB,dy⟩:=cvRow s hC E;have bU:i<C.length:=by rw[s.cl];exact E
 obtain⟨X,Q,rfl⟩:=bj;rw[U];refine zA.gh ?_;refine zD mix Tryz.func249 ?_;simp only[Z3,seval,-ae,YT,zf,mk8 (n:=O.length) (by omega),mkL (n:=O.length) (by omega),WX E];have Z:Keep σ (((σ.new [.fz M G O.length (pis O),.fz w1 H P.length rP,.fz N I C.length rC]).new (pis (zv O))).kill (σ.next+1)):=((zC σ _).new _).kill (by omega);refine ZU (λm vs h'=>∃(q:Nat) (u:PV) (A:V1),q<=d/\m=d-q/\vs=[.int .i64 i,.fz X Q O.length (pis x),.ptr σ.next 0,.int .i64 O.length,u,.int .i64 ((i+(1+q):Nat):Int)]/\
  h'=((σ.new [.fz M G O.length (pis O),.fz w1 H P.length rP,.fz N I C.length rC]).new (pis (zv O))).kill (σ.next+1)/\FI u A/\TT O (i+1) A/\fo (mu O P C d) (cvec C i) (nx x) (i+(1+q)) (d-q) A=Grp.img O C (mu O P C d) i x) d ?_ ?_
 .refine .fz (σ.next+1) (pis (zv O)) (by simp only[Z3,seval,-ae]) (zL _ _) λo1=>.here ?_;refine⟨0,.fz true (.sl o1 0 O.length (.known O.length)) O.length (pis (zv O)),zv O,by omega,by omega,?_,rfl,FI.mk (by simp),s.zv _,?_⟩
  .simp only[Z3,seval,-ae];simp only[sbs,sb,capOK,na,decide_true,and_self,if_true]
  .show _=fo _ _ _ (i+1) (O.length-1-i) (zv O);rw[show O.length-1-i=d by omega];rfl
 rintro m vs h' ⟨q,u,A,hq,rfl,rfl,rfl,B,D,l⟩
 simp only[Z3,seval,-ae];refine iteI (λah=>?_) λaF=>?_;rotate_left
 .have W:q=d:=by omega
  subst W;rw[Yv]at l
  have:A=Grp.img O C (mu O P C q) i x:=l
  rw[<-this]at T;exact Gh.fin0 Z (B.bel _) (T _ B)
 have W:q<d:=by omega
 have L:i+(1+q)<x.length:=by omega
 have bx:=V.bd (i+(1+q)) (by omega);have bO:=s.pr (i+(1+q)) (by omega);obtain⟨w6,a6,cK⟩:=dy q (by omega);have iX:q<O.length-1-i:=by omega
 have J:=s.cj i (i+(1+q)) (by omega) (by omega);have e3:IntKind.i64.wrap (((i+(1+q):Nat):Int)-(i:Int))=((1+q:Nat):Int):=WQ
 have e4:IntKind.i64.wrap (((1+q:Nat):Int)-1)=(q:Int):=WQ
 have e5:IntKind.i64.wrap (((i+(1+q):Nat):Int)+1)=((i+(1+(q+1)):Nat):Int):=WQ
 rw[show d-q=(d-q-1)+1 by omega]at l;refine zF (λm vs h'=>∃(k:Nat) (u:PV) (A:V1),k<=nx x (i+(1+q))/\m=nx x (i+(1+q))-k/\vs=[.int .i64 i,.fz X Q O.length (pis x),.ptr σ.next 0,.int .i64 O.length,u,.int .i64 ((i+(1+q):Nat):Int),.int .i64 k]/\
  h'=((σ.new [.fz M G O.length (pis O),.fz w1 H P.length rP,.fz N I C.length rC]).new (pis (zv O))).kill (σ.next+1)/\FI u A/\TT O (i+1) A/\fo (mu O P C d) (cvec C i) (nx x) (i+(1+q)+1) (d-q-1) (rep (mu O P C d) (cvec C i (i+(1+q))) (nx x (i+(1+q))-k) A)=Grp.img O C (mu O P C d) i x) (nx x (i+(1+q))) ?_ ?_
 .exact⟨0,u,A,by omega,by omega,rfl,rfl,B,D,l⟩
 rintro m vs h' ⟨k,u,A,bN,rfl,rfl,rfl,B,D,l⟩
 have cb:((nx x (i+(1+q)):Nat):Int)=at_ x (i+(1+q)):=YI bx.1;simp only[Z3,seval,-ae,pisAt L,L,U ▸ L];refine iteI (λar=>?_) λez=>?_
 .have bK:k<nx x (i+(1+q)):=by omega
  simp only[Z3,seval,-ae,WX E,bU,cB,e3,e4,iX,cK];refine fV Y D J B (FI.mk J.len) λv hv=>?_;simp only[Z3,seval,-ae,wrapS bK (by omega:nx x (i+(1+q))<=4611686018427387904)];refine⟨_,by omega,k+1,v,_,by omega,rfl,rfl,hv,hm _ _ D J,?_⟩;rw[show nx x (i+(1+q))-k=(nx x (i+(1+q))-(k+1))+1 by omega]at l;exact l
 .have fe:k=nx x (i+(1+q)):=by omega
  subst fe;simp only[Z3,seval,-ae,e5];refine⟨d-(q+1),by omega,.here ⟨q+1,u,A,by omega,rfl,rfl,rfl,B,D,?_⟩⟩;rw[Yv]at l;rw[show d-(q+1)=d-q-1 by omega];exact l
theorem zBk(s:Shp O P C):∀{d i:Nat},O.length=d+i->AtOK O P C d i
 |0,i,hi=>by
  rename_i σ K a b va vb vO vP vC;intro I D E ef eG B;have be:=s.le;obtain⟨⟨w0,a0,rfl⟩,⟨w1,a1,rP,rfl,hP⟩,⟨w3,a3,rC,rfl,hC⟩⟩:=I;refine zA.gh ?_;have R:(O.length:Int)<=(i:Int):=by omega
  refine zD mix Tryz.func216 ?_;simp only[Z3,seval,-ae,R,YT,zf,mk8 (n:=O.length) (by omega),mkL (n:=O.length) (by omega)];exact Gh.finF (s:=σ.next+1) ((zC σ _).new _) (by simp only[Z3,seval,-ae];rfl) (by omega) (zL _ _) (by simp[capOK]) λL=>B _ (FI.mk (by simp[mu]))
 |d+1,i,hi=>by
  rename_i σ K a b va vb vO vP vC;intro I D E ef eG B;have V:AtOK O P C d (i+1):=zBk s (by omega);have be:=s.le;have T:=I;have l:i<O.length:=by omega
  have hO:=s.pr i l;have cU:=D.len;have jm:=E.len;have ba:=D.bd i l;have bb:=E.bd i l;have aQ:=s.pos l;have OD:O.length-(d+1)=i:=by omega
  have X:∀a b,TT O (i+1) a->TT O (i+1) b->TT O (i+1) (mu O P C d a b):=λa b D E=>by
   have:=mu_tt s (d:=d) (a:=a) (b:=b) (by omega) (by rwa[show O.length-d=i+1 by omega]) (by rwa[show O.length-d=i+1 by omega])
   rwa[show O.length-d=i+1 by omega]at this
  obtain⟨⟨w0,a0,rfl⟩,⟨w1,a1,rP,rfl,hP⟩,⟨w3,a3,rC,rfl,hC⟩⟩:=I;obtain⟨w5,a5,dk⟩:=pvRow s hP l;have dA:i<P.length:=by rw[s.pl];exact l
  have U:=s.pw i l;obtain⟨wa,aa,rfl⟩:=ef;obtain⟨wb,ab,rfl⟩:=eG;have G:i<a.length:=by omega
  have u:i<b.length:=by omega
  have R:¬(O.length:Int)<=(i:Int):=by omega
  have sa:=D.set0 l aQ;have N:=E.set0 l aQ;have Rj:=sa.len;have Ri:=N.len;refine zA.gh ?_;refine zD mix Tryz.func216 ?_;simp only[Z3,seval,-ae,R];refine qg rfl (by omega) λbJ iK=>?_;simp only[Z3,seval,-ae];refine qg rfl (by omega) λbE cY=>?_;have g1:i<a.length/\i+1<=a.length:=⟨G,G⟩;have g2:i<b.length/\i+1<=b.length:=⟨u,u⟩;simp only[Z3,seval,-ae,g1.1,g1.2,g2.1,g2.2,zJ,zU G,zU u];refine ZU (λm vs h'=>∃(k:Nat) (vl M:PV) (A:V1),k<=nx b i/\m=nx b i-k/\vs=[.int .i64 i,.fz wa aa a.length (pis a),.fz wb ab b.length (pis b),.ptr σ.next 0,vl,M,.int .i64 k]/\
   h'=((((σ.new [.fz w0 a0 O.length (pis O),.fz w1 a1 P.length rP,.fz w3 a3 C.length rC]).new (pis (a.set i 0))).new (pis (b.set i 0))).kill (σ.next+1)).kill (σ.next+2)/\FI vl A/\FI M (b.set i 0)/\TT O (i+1) A/\iter (Grp.img O C (mu O P C d) i) (nx b i-k) A=iter (Grp.img O C (mu O P C d) i) (nx b i) (a.set i 0)) (nx b i) ?_ ?_
  .refine .fz (σ.next+1) (pis (a.set i 0)) (by simp only[Z3,seval,-ae]) (zL _ _) λL=>.fz (σ.next+2) (pis (b.set i 0)) (by simp only[Z3,seval,-ae]) (zL _ _) λo2=>.here ?_;refine⟨0,.fz true (.sl L 0 a.length bJ) a.length (pis (a.set i 0)),.fz true (.sl o2 0 b.length bE) b.length (pis (b.set i 0)),a.set i 0,by omega,by omega,?_,rfl,FI.mk (by simp),FI.mk (by simp),sa,rfl⟩;simp only[Z3,seval,-ae];have k1:=iK.ok;have k2:=cY.ok;have an:¬(σ.next+2=σ.next+1):=by omega
   simp only[sbs,sb,k1,k2,an,false_and,if_false,na,decide_true,and_self,if_true];rfl
  rintro m vs h' ⟨k,vl,M,A,bN,rfl,rfl,rfl,gE,HV,W,H⟩
  have cb:((nx b i:Nat):Int)=at_ b i:=YI bb.1;have IF:=iK.ok;simp only[Z3,seval,-ae,pisAt u,u];refine iteI (λah=>?_) λez=>?_
  .have bK:k<nx b i:=by omega
   simp only[Z3,seval,-ae];refine Qp s (by omega) V T (W.mono (YW _)) gE λv J=>?_;simp only[Z3,seval,-ae,WX bK];refine⟨nx b i-(k+1),by omega,.here ⟨k+1,v,M,_,by omega,rfl,rfl,rfl,J,HV,Qr s X _,?_⟩⟩;rw[show nx b i-k=(nx b i-(k+1))+1 by omega]at H;exact H
  have fe:k=nx b i:=by omega
  subst fe;rw[Yv]at H;have AI:A=iter (Grp.img O C (mu O P C d) i) (nx b i) (a.set i 0):=H;subst AI;simp only[Z3,seval,-ae,WX l];have Y:=X _ _ W N;have LU:=Y.len;refine V T W N gE HV λv J=>?_;have kj:IntKind.i64.wrap (at_ a i+at_ b i)=at_ a i+at_ b i:=WE;have Q:i<O.length:=l;simp only[Z3,seval,-ae,pisAt G,pisAt u,G,u,pisAt l,Q,kj];have Ij:∀c e:V1,(if at_ a i+at_ b i ≥ at_ O i then(mu O P C d (pvec P i) (mu O P C d (iter (Grp.img O C (mu O P C d) i) (nx b i) (a.set i 0)) (b.set i 0))).set i (at_ a i+at_ b i-at_ O i)else(mu O P C d (iter (Grp.img O C (mu O P C d) i) (nx b i) (a.set i 0)) (b.set i 0)).set i (at_ a i+at_ b i))=mu O P C (d+1) a b:=λ_ _=>by
   simp only[mu,OD]
  refine iteI (λud=>?_) λbK=>?_
  .have cD:IntKind.i64.wrap (at_ a i+at_ b i-at_ O i)=at_ a i+at_ b i-at_ O i:=WE;have e:=Ij a b;rw[if_pos ud]at e;simp only[Z3,seval,-ae,pisAt l,Q,cD,WX l,dA,dk];have pQ:=X _ _ U Y;have sV:i<(mu O P C d (pvec P i) (mu O P C d (iter (Grp.img O C (mu O P C d) i) (nx b i) (a.set i 0)) (b.set i 0))).length:=by rw[pQ.len];exact l
   refine V T U Y (FI.mk U.len) J λv2 cH=>?_;obtain⟨w7,a7,rfl⟩:=cH;simp only[Z3,seval,-ae,pisAt l,Q,cD,WX l,dA,dk];refine qg rfl (by have:=pQ.len;omega) λiB Z=>?_;simp only[Z3,seval,-ae,sV,UZ sV,zJ,zU sV];rw[<-e]at B;exact Gh.finF (s:=σ.next+1+2) ((((((zC σ _).new _).new _).kill (by omega)).kill (by omega)).new _) (by simp only[Z3,seval,-ae]) (by omega) (zL _ _) Z.ok λL=>B _ (FI.mk (by simp))
  .have e:=Ij a b;rw[if_neg (by omega)]at e;have sU:i<(mu O P C d (iter (Grp.img O C (mu O P C d) i) (nx b i) (a.set i 0)) (b.set i 0)).length:=by rw[LU];exact l
   obtain⟨w7,a7,rfl⟩:=J;simp only[Z3,seval,-ae];refine qg rfl (by omega) λiB Z=>?_;simp only[Z3,seval,-ae,sU,UZ sU,zJ,zU sU];rw[<-e]at B;exact Gh.finF (s:=σ.next+1+2) ((((((zC σ _).new _).new _).kill (by omega)).kill (by omega)).new _) (by simp only[Z3,seval,-ae]) (by omega) (zL _ _) Z.ok λL=>B _ (FI.mk (by simp))
theorem pw_sq{α:Type}{S:α->Prop}{m:α->α->α}{e:α}(M:Mon S m e){x:α}(l:S x):∀q,Grp.pw m e (m x x) q=Grp.pw m e x (q+q)
 |0=>rfl
 |q+1=>by
  rw[show q+1+(q+1)=(q+q)+1+1 by omega];show m (Grp.pw m e (m x x) q) (m x x)=m (m (Grp.pw m e x (q+q)) x) x;rw[pw_sq M l q,M.as (M.pw l _) l l]
theorem zQ4{α:Type}{S:α->Prop}{m:α->α->α}{e:α}(M:Mon S m e){x:α}(l:S x)(q:Nat):m x (Grp.pw m e (m x x) q)=Grp.pw m e x (q+q+1):=by
 rw[pw_sq M l q];exact(M.pw_comm l _).symm
theorem zDf(s:Shp O P C){d i:Nat}(hi:O.length=d+i)(L:AtOK O P C d i)(M:Mon (TT O i) (mu O P C d) (zv O))(Z:IsPr vO vP vC O P C)(hx:TT O i x)(Y:FI vx x){k:Int}(fg:0<=k/\k<=1000)
  (hk:∀v,FI v (pw (mu O P C d) (zv O) x k.toNat)->K v σ):zA Tryz.prog 217 [.agg [vO,vP,vC],.int .i64 i,vx,.int .i64 k] σ K:=by
 have be:=s.le;have I:=Z;obtain⟨u,rfl⟩:∃u:Nat,k=u:=⟨k.toNat,by omega⟩
 obtain⟨⟨w0,V,rfl⟩,⟨w1,W,rP,rfl,hP⟩,⟨w3,X,rC,rfl,hC⟩⟩:=Z;refine zA.gh ?_;refine zD mix Tryz.func217 ?_;simp only[Z3,seval,-ae,YT,zf,mk8 (n:=O.length) (by omega),mkL (n:=O.length) (by omega)];have aq:Keep σ (((σ.new [.fz w0 V O.length (pis O),.fz w1 W P.length rP,.fz w3 X C.length rC]).new (pis (zv O))).kill (σ.next+1)):=((zC σ _).new _).kill (by omega);refine ZU (λm vs h'=>∃(k:Nat) (H vb:PV) (A b:V1),k<=1000/\m=k/\vs=[.int .i64 i,.int .i64 k,.ptr σ.next 0,H,vb]/\
  h'=((σ.new [.fz w0 V O.length (pis O),.fz w1 W P.length rP,.fz w3 X C.length rC]).new (pis (zv O))).kill (σ.next+1)/\FI H A/\FI vb b/\TT O i A/\TT O i b/\mu O P C d A (pw (mu O P C d) (zv O) b k)=pw (mu O P C d) (zv O) x u) u ?_ ?_
 .refine .fz (σ.next+1) (pis (zv O)) (by simp only[Z3,seval,-ae]) (zL _ _) λo1=>.here ?_;refine⟨u,.fz true (.sl o1 0 O.length (.known O.length)) O.length (pis (zv O)),vx,zv O,x,by omega,rfl,?_,rfl,FI.mk (by simp),Y,s.zv _,hx,M.l1 (M.pw hx _)⟩;simp only[Z3,seval,-ae];simp only[sbs,sb,capOK,na,decide_true,and_self,if_true,Y.sb]
 rintro m vs h' ⟨k,H,vb,A,b,bQ,rfl,rfl,rfl,G,B,D,l,hinv⟩
 simp only[Z3,seval,-ae];refine iteI (λNb=>?_) λhle=>?_;rotate_left
 .have ga:m=0:=by omega
  subst ga;rw[show pw (mu O P C d) (zv O) b 0=zv O from rfl,M.r1 D]at hinv;rw[show((u:Int)).toNat=u from Int.toNat_natCast u,<-hinv]at hk;exact Gh.fin0 aq (G.bel _) (hk _ G)
 have U:Int.tmod (m:Int) 2=((m % 2:Nat):Int):=by rw[Yr (by omega)];rfl
 have T:Int.tdiv (m:Int) 2=((m / 2:Nat):Int):=by rw[US (by omega)];rfl
 have E:¬((2:Int)=0):=by decide
 have R:IntKind.i64.wrap ((m / 2:Nat):Int)=((m / 2:Nat):Int):=WE;have RL:IntKind.i64.wrap ((m % 2:Nat):Int)=((m % 2:Nat):Int):=WE;have N:=M.cl l l;by_cases ho:m % 2=1
 .have cW:((m % 2:Nat):Int)=1:=by omega
  simp only[Z3,seval,-ae,E,U,cW,eq_true cW];refine L I D l G B λv hv=>?_;simp only[Z3,seval,-ae];refine L I l l B B λQ J=>?_;simp only[Z3,seval,-ae,E,T,R];refine⟨m / 2,by omega,.here ⟨m / 2,v,Q,_,_,by omega,rfl,rfl,rfl,hv,J,M.cl D l,N,?_⟩⟩;rw[M.as D l (M.pw N _),zQ4 M l,show m / 2+m / 2+1=m by omega];exact hinv
 .have cW:¬((m % 2:Nat):Int)=1:=by omega
  simp only[Z3,seval,-ae,E,U,cW];refine L I l l B B λQ J=>?_;simp only[Z3,seval,-ae,E,T,R];refine⟨m / 2,by omega,.here ⟨m / 2,H,Q,_,_,by omega,rfl,rfl,rfl,G,J,D,N,?_⟩⟩;rw[pw_sq M l,show m / 2+m / 2=m by omega];exact hinv
theorem Z4{n k:Nat}(A:n<=1048576)(l:k<n)(u:∀v,FI v (unitL n k)->K v σ):zA Tryz.prog 98 [.int .i64 n,.int .i64 k] σ K:=by
 refine zA.gh ?_;refine zD mix Tryz.func98 ?_;simp only[Z3,seval,-ae,YT,zf,mk8 (n:=n) (by omega),mkL (n:=n) (by omega),l,UZ l,zJ];rw[zU (by simpa using l)];exact Gh.finF (s:=σ.next) (zC σ _) (by simp only[Z3,seval,-ae];rfl) (na _) (zL _ _) (by simp[capOK]) λB=>u _ (FI.mk (zQ n k))
variable{vf:PV}{y f:V1}{d:Nat}
theorem zPf{s off l:Nat}{cap:Cap}{ys:V1}(hs:s<σ.next)(G:σ.rd s off l=some (pis ys))(E:ys.length=l)(I:l<=1048576)(D:∀a,K (.fz true a l (pis ys)) σ):zA Tryz.prog 107 [.sl s off l cap] σ K:=by
 refine zA.gh ?_;have A:¬s=σ.next:=Nat.ne_of_lt hs;refine zD mix Tryz.func107 ?_;simp only[Z3,seval,-ae];refine PSl.app (b:=0) (news:=pis ys) (m:=l) (zC σ _) (YW _) (PSl.new _ 1 rfl (na _)) rfl (λB=>?_) (by rw[zJ,E,Nat.mul_one]) (by omega) (by omega) λJ h' H u=>?_
 .rw[ZH];simp only[B,if_false,na,if_true,Nat.mul_one,zBO,A];exact G
 .simp only[Z3,seval,-ae]at u ⊢;exact u.fin H (zL _ _) λo cap=>D _
theorem zKz{α:Type}{m:α->α->α}{h:Nat->α}{x:Nat->Nat}{c:Nat}:∀{k t:Nat} {a:α},(∀j,t<=j->j<t+k->x j=0)->fo m h x t (k+c) a=fo m h x (t+k) c a
 |0,t,a,_=>by rw[Y5,UN]
 |k+1,t,a,h0=>by
  rw[show k+1+c=(k+c)+1 by omega,fo,h0 t (na _) (by omega)];show fo _ _ _ (t+1) (k+c) a=_;rw[zKz (λj l u=>h0 j (by omega) (by omega)),show t+1+k=t+(k+1) by omega]
theorem zQX(s:Shp O P C)(F:Full O P C d)(B:TT O (O.length-d) x)(u:TT O (O.length-d) f):fo (mu O P C d) (Grp.unit O) (nx f) 0 O.length x=mu O P C d x f:=by
 have hle:=F.le;have M:=F.gp.toMon;have l:=zKz (m:=mu O P C d) (h:=Grp.unit O) (x:=nx f) (c:=d) (k:=O.length-d) (t:=0) (a:=x) λj _ A=>by show(at_ f j).toNat=0;rw[u.zero j (by omega)];rfl
 rw[show O.length-d+d=O.length by omega,Y5]at l;rw[l,M.fo_eq (λj l A=>s.unit (by omega) l) B];congr 1;exact F.nf u
def TGok(O:V1)(P:V2)(C:V3)(d j:Nat):Prop:=
 ∀(σ:PHeap) (K:PV->PHeap->Prop) (sp se:Nat) (cap:Cap) (x:V1) (vO vP vC:PV),PtrG σ sp vO vP vC->IsPr vO vP vC O P C->σ.obj se=some (pis x)->se<σ.next->sp≠se->full 1 cap O.length->TT O (O.length-d) x->
  K (.tup []) (σ.set se (pis (mu O P C d x (Grp.unit O j))))->zA Tryz.prog 174 [.ptr sp 0,.sl se 0 O.length cap,.int .i64 j] σ K
theorem Qe(s:Shp O P C)(F:Full O P C d){t:Nat}(U:O.length-d<=t)(J:∀j,t<=j->j<O.length->TGok O P C d j){sp se:Nat}{cap:Cap}(hs:PtrG σ sp vO vP vC)(R:IsPr vO vP vC O P C)
  (T:σ.obj se=some (pis x)) (W:se<σ.next) (G:sp≠se) (N:full 1 cap O.length) (I:TT O (O.length-d) x) (B:TT O t f) (X:FI vf f) (H:K (.tup []) (σ.set se (pis (mu O P C d x f)))):zA Tryz.prog 96 [.ptr sp 0,.sl se 0 O.length cap,vf] σ K:=by
 have be:=s.le;have Y:=B.len;have M:=F.gp.toMon;obtain⟨wf,E,rfl⟩:=X;refine zD mix Tryz.func96 ?_;simp only[Z3,seval,-ae];refine zF (λm vs h'=>∃(q:Nat) (y:V1),q<=O.length/\m=O.length-q/\vs=[.ptr sp 0,.sl se 0 O.length cap,.fz wf E f.length (pis f),.int .i64 f.length,.int .i64 q]/\h'=σ.set se (pis y)/\TT O (O.length-d) y/\fo (mu O P C d) (Grp.unit O) (nx f) q (O.length-q) y=mu O P C d x f) O.length ?_ ?_
 .exact⟨0,x,by omega,by omega,rfl,(zBW T).symm,I,zQX s F I (B.mono U)⟩
 rintro m vs h' ⟨q,y,hq,rfl,rfl,rfl,u,l⟩
 simp only[Z3,seval,-ae];refine iteI (λD=>?_) λZ=>?_;rotate_left
 .have jk:q=O.length:=by omega
  subst jk;rw[Yv]at l;rw[<-l]at H;exact H
 have A:q<O.length:=by omega
 have Q:=B.bd q A;have bO:=s.pr q A;have cb:((nx f q:Nat):Int)=at_ f q:=YI Q.1;rw[show O.length-q=(O.length-(q+1))+1 by omega]at l;simp only[Z3,seval,-ae,pisAt D,D];refine zF (λm vs h'=>∃(k:Nat) (y:V1),k<=nx f q/\m=nx f q-k/\vs=[.ptr sp 0,.sl se 0 O.length cap,.int .i64 q,.fz wf E f.length (pis f),.int .i64 f.length,.int .i64 q,.int .i64 (at_ f q),.int .i64 k]/\h'=σ.set se (pis y)/\TT O (O.length-d) y/\fo (mu O P C d) (Grp.unit O) (nx f) (q+1) (O.length-(q+1)) (rep (mu O P C d) (Grp.unit O q) (nx f q-k) y)=mu O P C d x f) (nx f q) ?_ ?_
 .exact⟨0,y,by omega,by omega,rfl,rfl,u,l⟩
 rintro m vs h' ⟨k,y,bN,rfl,rfl,rfl,u,l⟩
 simp only[Z3,seval,-ae];refine iteI (λar=>?_) λez=>?_
 .have bK:k<nx f q:=by omega
  have L:t<=q:=by
   rcases YG q t with h|h
   .have:=B.zero q h;omega
   .exact h
  have V:TT O (O.length-d) (Grp.unit O q):=s.unit A (by omega);refine J q L A _ _ sp se cap y vO vP vC (hs.set G _) R (by simp only[Z3,seval,-ae]) W G N u ?_;simp only[Z3,seval,-ae,WX bK];refine⟨_,by omega,k+1,_,by omega,rfl,rfl,rfl,M.cl u V,?_⟩;rw[show nx f q-k=(nx f q-(k+1))+1 by omega]at l;exact l
 .have fe:k=nx f q:=by omega
  subst fe;rw[Yv]at l;simp only[Z3,seval,-ae,WX D];exact⟨_,by omega,q+1,y,by omega,rfl,rfl,rfl,u,l⟩
variable{j:Nat}
def zr(x:V1)(j:Nat):Nat->V1
 |0=>x
 |k+1=>(zr x j k).set (j+(1+k)) 0
theorem zCP:∀k,(zr x j k).length=x.length
 |0=>rfl
 |k+1=>by rw[zr,YC];exact zCP k
theorem zr_at:∀{k:Nat},j+(1+k)<=x.length->∀t,at_ (zr x j k) t=if j<t/\t<j+(1+k)then 0 else at_ x t
 |0,_,t=>by rw[if_neg (by omega)];rfl
 |k+1,h,t=>by
  rw[zr,at_set (by rw[zCP];omega)];split
  .rename_i e;rw[if_pos (by omega)]
  .rename_i e;rw[zr_at (by omega)];by_cases g:j<t/\t<j+(1+k)
   .rw[if_pos g,if_pos (by omega)]
   .rw[if_neg g,if_neg (by omega)]
theorem zQn(u:j<x.length):zr x j (x.length-1-j)=hdz x j:=by
 refine Zr (by rw[zCP,zEL]) λt l=>?_;rw[zCP]at l;rw[zr_at (by omega),zCi];by_cases g:t<=j
 .rw[if_neg (by omega),if_pos g]
 .rw[if_pos (by omega),if_neg g]
theorem zJk{se n:Nat}{cap:Cap}(u:full 1 cap n)(A:j+1<=n):∃off l,zAI 1 (.sl se 0 n cap) (some (.int .i64 ((j+1:Nat):Int))) none none=some (.sl se off (n-(j+1)) l)/\(off=j+1\/(off=0/\n-(j+1)=0)):=by
 have e:(0:Int)<=((j+1:Nat):Int)/\((j+1:Nat):Int)<=(n:Int):=⟨by omega,by omega⟩
 rcases u with rfl|rfl
 .refine⟨j+1,.grown 1,?_,.inl rfl⟩;rw[zDV];simp only[zBc,zBb,zCy,YM,if_pos e,Int.toNat_natCast];simp
 .rw[zDU];simp only[zBc,zBb,zCy,YM,if_pos e,Int.toNat_natCast];by_cases h:n=j+1
  .refine⟨0,.known (n-(j+1)),?_,.inr ⟨rfl,by omega⟩⟩;rw[if_pos h];simp
  .refine⟨j+1,.known (n-(j+1)),?_,.inl rfl⟩;rw[if_neg h];simp
theorem Zl(s:Shp O P C)(F:Full O P C d):∀(r:Nat) {j:Nat},O.length-d<=j->j<O.length->O.length-j<=r->TGok O P C d j
 |0,j,h1,h2,h3=>by omega
 |r+1,j,h1,h2,h3=>by
  intro σ K sp se cap x vO vP vC hs hR he qn an bV hx hk;have Q:∀N,j+1<=N->N<O.length->TGok O P C d N:=λN g1 g2=>Zl s F r (by omega) g2 (by omega);have be:=s.le;have R:=hR;have U:=hs;have T:=hx.len;have Fq:j<x.length:=by omega
  have bx:=hx.bd j h2;have bO:=s.pr j h2;have M:=F.gp.toMon;rw[<-zOO s F hx h1 h2]at hk;obtain⟨⟨w0,a0,rfl⟩,⟨w1,a1,rP,rfl,hP⟩,⟨w3,a3,rC,rfl,hC⟩⟩:=hR;obtain⟨w5,a5,rs,cB,dy⟩:=cvRow s hC h2;obtain⟨w6,a6,dk⟩:=pvRow s hP h2;have rf:j<C.length:=by rw[s.cl];exact h2
  have tX:j<P.length:=by rw[s.pl];exact h2
  have W:=s.pw j h2;have e0:σ.rd1 sp 0=some (.fz w0 a0 O.length (pis O)):=by rw[zI hs.obj];rfl
  have e1:σ.rd1 sp 1=some (.fz w1 a1 P.length rP):=by rw[zI hs.obj];rfl
  have e2:σ.rd1 sp 2=some (.fz w3 a3 C.length rC):=by rw[zI hs.obj];rfl
  have SD:∀t,σ.rd1 se t=(pis x)[t]?:=λt=>zI he t;obtain⟨off,aG,gF,E9⟩:=zJk (se:=se) bV (UZ h2);have pB:IntKind.i64.wrap ((j:Int)+1)=((j+1:Nat):Int):=wrapS h2 (by omega);refine zD mix Tryz.func174 ?_;simp only[Z3,seval,-ae,pB,gF];have eA:(x.drop (j+1)).length=O.length-(j+1):=by simp[T]
  refine zPf qn (ys:=x.drop (j+1)) ?_ eA (by omega) λav=>?_
  .rw[zZ he,zJ];rcases E9 with rfl|⟨rfl,h0⟩
   .rw[if_pos (by omega),<-zOp,YR (by rw[UK,zJ];omega)]
   .rw[h0,if_pos (by omega),UP,List.drop_eq_nil_of_le (by omega)];rfl
  simp only[Z3,seval,-ae,zJ];refine zF (λm vs h'=>∃k:Nat,k<=O.length-(j+1)/\m=O.length-(j+1)-k/\vs=[.ptr sp 0,.sl se 0 O.length cap,.int .i64 j,.fz true av (O.length-(j+1)) (pis (x.drop (j+1))),.int .i64 ((O.length-(j+1):Nat):Int),.int .i64 k]/\h'=σ.set se (pis (zr x j k))) (O.length-(j+1)) ?_ ?_
  .exact⟨0,by omega,by omega,rfl,(zBW he).symm⟩
  .rintro m vs h' ⟨k,bQ,rfl,rfl,rfl⟩
   simp only[Z3,seval,-ae];refine iteI (λB=>?_) λaF=>?_
   .have e3:IntKind.i64.wrap (((j+1:Nat):Int)+(k:Int))=((j+(1+k):Nat):Int):=WQ
    have A:j+(1+k)<O.length:=by omega
    have E:j+(1+k)<(zr x j k).length:=by rw[zCP];omega
    have dX:(pis (zr x j k)).take (j+(1+k))++[.int .i64 0]++(pis (zr x j k)).drop (j+(1+(k+1)))=pis (zr x j (k+1)):=by rw[show j+(1+(k+1))=j+(1+k)+1 by omega];exact zU E
    have ig:j+(1+(k+1))<=O.length:=by omega
    simp only[Z3,seval,-ae,pB,e3,A,zJ,zCP,T,ig,dX,wrapS B (by omega:O.length-(j+1)<=4611686018427387904)];exact⟨_,by omega,k+1,by omega,rfl,rfl,rfl⟩
   have G:k=x.length-1-j:=by omega
   subst G;rw[zQn Fq];have X:(hdz x j).length=O.length:=by rw[zEL];exact T
   have E:j<(hdz x j).length:=by omega
   have FQ:at_ (hdz x j) j=at_ x j:=by rw[zCi,if_pos (na _)]
   have G7:IntKind.i64.wrap (at_ x j+1)=at_ x j+1:=WE;have Z:j<((hdz x j).set j (at_ x j+1)).length:=by rw[YC];exact E
   have As:at_ ((hdz x j).set j (at_ x j+1)) j=at_ x j+1:=by rw[at_set E,if_pos rfl]
   have p1:=pisAt E;have p2:=pisAt Z;rw[FQ]at p1;rw[As]at p2;have tj:j+1<=O.length:=h2;simp only[Z3,seval,-ae,h2,X,zJ,p1,G7,tj,zU E,zAh];simp only[Z3,seval,-ae,h2,X,zJ,p1,p2,G7,tj,zU E,zAh,an,e0,pisAt h2];refine iteI (λheq=>?_) λmi=>?_
   .have Na:((hdz x j).set j (at_ x j+1)).set j 0=(hdz x j).set j 0:=by rw[List.set_set]
    simp only[Z3,seval,-ae,h2,X,YC,zJ,tj,zU Z,Na,an,e1,tX,dk];have qe:TT O (O.length-d) ((hdz x j).set j 0):=(zIj hx λt ht=>s.pos ht).set h2 h1 ⟨by omega,by omega⟩;refine Qe s F (t:=j+1) (by omega) Q (U.set an (pis ((hdz x j).set j 0))) R (x:=(hdz x j).set j 0) (by simp only[Z3,seval,-ae]) qn an bV qe W (FI.mk W.len) ?_;simp only[Z3,seval,-ae,zAh];have H:TT O (O.length-d) (mu O P C d ((hdz x j).set j 0) (pvec P j)):=M.cl qe (W.mono (by omega));have I:fo (mu O P C d) (cvec C j) (nx x) (j+(1+0)) (O.length-(j+1)-0) (mu O P C d ((hdz x j).set j 0) (pvec P j))=tstep O P C (mu O P C d) x j:=by
     rw[tstep,if_pos heq,show O.length-1-j=O.length-(j+1)-0 by omega]
    generalize mu O P C d ((hdz x j).set j 0) (pvec P j)=Y at H I ⊢;refine zF (λm vs h'=>∃(k:Nat) (y:V1),k<=O.length-(j+1)/\m=O.length-(j+1)-k/\vs=[.ptr sp 0,.sl se 0 O.length cap,.int .i64 j,.fz true av (O.length-(j+1)) (pis (x.drop (j+1))),.int .i64 ((O.length-(j+1):Nat):Int),.int .i64 k]/\h'=σ.set se (pis y)/\TT O (O.length-d) y/\fo (mu O P C d) (cvec C j) (nx x) (j+(1+k)) (O.length-(j+1)-k) y=tstep O P C (mu O P C d) x j) (O.length-(j+1)) ?_ ?_
    .exact⟨0,Y,by omega,by omega,rfl,rfl,H,I⟩
    rintro m vs h' ⟨k,y,bQ,rfl,rfl,rfl,u,l⟩
    simp only[Z3,seval,-ae];refine iteI (λB=>?_) λaF=>?_;rotate_left
    .have G:O.length-(j+1)-k=0:=by omega
     rw[G]at l;rw[<-l]at hk;exact hk
    have A:j+(1+k)<O.length:=by omega
    have J:k<(x.drop (j+1)).length:=by omega
    have mG:at_ (x.drop (j+1)) k=at_ x (j+(1+k)):=by
     simp only[at_,YB,Ye,show j+1+k=j+(1+k) by omega]
    have L:=pisAt J;rw[mG]at L;have bk:=hx.bd (j+(1+k)) A;have JI:=s.pr _ A;have cb:((nx x (j+(1+k)):Nat):Int)=at_ x (j+(1+k)):=YI bk.1;obtain⟨w7,a7,V⟩:=dy k (by omega);have D:=s.cj j (j+(1+k)) (by omega) A;have kE:k<O.length-1-j:=by omega
    rw[show O.length-(j+1)-k=(O.length-(j+1)-k-1)+1 by omega]at l;simp only[Z3,seval,-ae,L,J,B];refine zF (λm vs h'=>∃(q:Nat) (y:V1),q<=nx x (j+(1+k))/\m=nx x (j+(1+k))-q/\vs=[.ptr sp 0,.sl se 0 O.length cap,.int .i64 j,.int .i64 k,.fz true av (O.length-(j+1)) (pis (x.drop (j+1))),.int .i64 ((O.length-(j+1):Nat):Int),.int .i64 k,.int .i64 (at_ x (j+(1+k))),.int .i64 q]/\h'=σ.set se (pis y)/\TT O (O.length-d) y/\fo (mu O P C d) (cvec C j) (nx x) (j+(1+k)+1) (O.length-(j+1)-k-1) (rep (mu O P C d) (cvec C j (j+(1+k))) (nx x (j+(1+k))-q) y)=tstep O P C (mu O P C d) x j) (nx x (j+(1+k))) ?_ ?_
    .exact⟨0,y,by omega,by omega,rfl,rfl,u,l⟩
    rintro m vs h' ⟨q,y,EU,rfl,rfl,rfl,u,l⟩
    simp only[Z3,seval,-ae];refine iteI (λar=>?_) λez=>?_
    .have bK:q<nx x (j+(1+k)):=by omega
     simp only[Z3,seval,-ae,an,e2,rf,cB,kE,V];refine Qe s F (t:=j+1) (by omega) Q (U.set an (pis y)) R (x:=y) (by simp only[Z3,seval,-ae]) qn an bV u D (FI.mk D.len) ?_;simp only[Z3,seval,-ae,zAh,wrapS bK (by omega:nx x (j+(1+k))<=4611686018427387904)];refine⟨_,by omega,q+1,_,by omega,rfl,rfl,rfl,M.cl u (D.mono (by omega)),?_⟩;rw[show nx x (j+(1+k))-q=(nx x (j+(1+k))-(q+1))+1 by omega]at l;exact l
    .have jk:q=nx x (j+(1+k)):=by omega
     subst jk;rw[Yv]at l;simp only[Z3,seval,-ae,wrapS B (by omega:O.length-(j+1)<=4611686018427387904)];refine⟨_,by omega,k+1,y,by omega,rfl,rfl,rfl,u,?_⟩;rw[show O.length-(j+1)-(k+1)=O.length-(j+1)-k-1 by omega];exact l
   .have H:TT O (O.length-d) ((hdz x j).set j (at_ x j+1)):=(zIj hx λt ht=>s.pos ht).set h2 h1 ⟨by omega,by omega⟩;have I:fo (mu O P C d) (cvec C j) (nx x) (j+(1+0)) (O.length-(j+1)-0) ((hdz x j).set j (at_ x j+1))=tstep O P C (mu O P C d) x j:=by
     rw[tstep,if_neg mi,show O.length-1-j=O.length-(j+1)-0 by omega]
    clear p2 As Z;generalize (hdz x j).set j (at_ x j+1)=Y at H I ⊢;refine zF (λm vs h'=>∃(k:Nat) (y:V1),k<=O.length-(j+1)/\m=O.length-(j+1)-k/\vs=[.ptr sp 0,.sl se 0 O.length cap,.int .i64 j,.fz true av (O.length-(j+1)) (pis (x.drop (j+1))),.int .i64 ((O.length-(j+1):Nat):Int),.int .i64 k]/\h'=σ.set se (pis y)/\TT O (O.length-d) y/\fo (mu O P C d) (cvec C j) (nx x) (j+(1+k)) (O.length-(j+1)-k) y=tstep O P C (mu O P C d) x j) (O.length-(j+1)) ?_ ?_
    .exact⟨0,Y,by omega,by omega,rfl,rfl,H,I⟩
    rintro m vs h' ⟨k,y,bQ,rfl,rfl,rfl,u,l⟩
    simp only[Z3,seval,-ae];refine iteI (λB=>?_) λaF=>?_;rotate_left
    .have G:O.length-(j+1)-k=0:=by omega
     rw[G]at l;rw[<-l]at hk;exact hk
    have A:j+(1+k)<O.length:=by omega
    have J:k<(x.drop (j+1)).length:=by omega
    have mG:at_ (x.drop (j+1)) k=at_ x (j+(1+k)):=by
     simp only[at_,YB,Ye,show j+1+k=j+(1+k) by omega]
    have L:=pisAt J;rw[mG]at L;have bk:=hx.bd (j+(1+k)) A;have JI:=s.pr _ A;have cb:((nx x (j+(1+k)):Nat):Int)=at_ x (j+(1+k)):=YI bk.1;obtain⟨w7,a7,V⟩:=dy k (by omega);have D:=s.cj j (j+(1+k)) (by omega) A;have kE:k<O.length-1-j:=by omega
    rw[show O.length-(j+1)-k=(O.length-(j+1)-k-1)+1 by omega]at l;simp only[Z3,seval,-ae,L,J,B];refine zF (λm vs h'=>∃(q:Nat) (y:V1),q<=nx x (j+(1+k))/\m=nx x (j+(1+k))-q/\vs=[.ptr sp 0,.sl se 0 O.length cap,.int .i64 j,.int .i64 k,.fz true av (O.length-(j+1)) (pis (x.drop (j+1))),.int .i64 ((O.length-(j+1):Nat):Int),.int .i64 k,.int .i64 (at_ x (j+(1+k))),.int .i64 q]/\h'=σ.set se (pis y)/\TT O (O.length-d) y/\fo (mu O P C d) (cvec C j) (nx x) (j+(1+k)+1) (O.length-(j+1)-k-1) (rep (mu O P C d) (cvec C j (j+(1+k))) (nx x (j+(1+k))-q) y)=tstep O P C (mu O P C d) x j) (nx x (j+(1+k))) ?_ ?_
    .exact⟨0,y,by omega,by omega,rfl,rfl,u,l⟩
    rintro m vs h' ⟨q,y,EU,rfl,rfl,rfl,u,l⟩
    simp only[Z3,seval,-ae];refine iteI (λar=>?_) λez=>?_
    .have bK:q<nx x (j+(1+k)):=by omega
     simp only[Z3,seval,-ae,an,e2,rf,cB,kE,V];refine Qe s F (t:=j+1) (by omega) Q (U.set an (pis y)) R (x:=y) (by simp only[Z3,seval,-ae]) qn an bV u D (FI.mk D.len) ?_;simp only[Z3,seval,-ae,zAh,wrapS bK (by omega:nx x (j+(1+k))<=4611686018427387904)];refine⟨_,by omega,q+1,_,by omega,rfl,rfl,rfl,M.cl u (D.mono (by omega)),?_⟩;rw[show nx x (j+(1+k))-q=(nx x (j+(1+k))-(q+1))+1 by omega]at l;exact l
    .have jk:q=nx x (j+(1+k)):=by omega
     subst jk;rw[Yv]at l;simp only[Z3,seval,-ae,wrapS B (by omega:O.length-(j+1)<=4611686018427387904)];refine⟨_,by omega,k+1,y,by omega,rfl,rfl,rfl,u,?_⟩;rw[show O.length-(j+1)-(k+1)=O.length-(j+1)-k-1 by omega];exact l
theorem Qd(s:Shp O P C)(F:Full O P C d){sp se:Nat}{cap:Cap}(hs:PtrG σ sp vO vP vC)(D:IsPr vO vP vC O P C)
  (E:σ.obj se=some (pis x)) (J:se<σ.next) (l:sp≠se) (u:full 1 cap O.length) (I:TT O (O.length-d) x) (G:TT O (O.length-d) f) (L:FI vf f) (H:K (.tup []) (σ.set se (pis (mu O P C d x f)))):zA Tryz.prog 96 [.ptr sp 0,.sl se 0 O.length cap,vf] σ K:=
 Qe s F (na _) (λj A B=>Zl s F O.length A B (by omega)) hs D E J l u I G L H
variable{va vb:PV}{a b:V1}{sp:Nat}
theorem zFg{v:PV}{sp:Nat}(u:f=[])(B:FI vf f)(A:K (.tup []) σ):zA Tryz.prog 96 [.ptr sp 0,v,vf] σ K:=by
 obtain⟨wf,l,rfl⟩:=B;subst u;refine zD mix Tryz.func96 ?_;simp only[Z3,seval,-ae];refine zF (λm vs h'=>m=0/\vs=[.ptr sp 0,v,.fz wf l ([]:V1).length (pis []),.int .i64 (([]:V1).length:Nat),.int .i64 (0:Nat)]/\σ=h') 0 ⟨rfl,rfl,rfl⟩ ?_
 rintro m vs h' ⟨rfl,rfl,rfl⟩
 simp only[Z3,seval,-ae];exact A
theorem zAr(s:Shp O P C)(F:Full O P C d)(hs:PtrG σ sp vO vP vC)(L:IsPr vO vP vC O P C)(A:TT O (O.length-d) a)(B:TT O (O.length-d) b)(J:FI va a)(D:FI vb b)(H:ResI σ K (mu O P C d a b)):
  zA Tryz.prog 86 [.ptr sp 0,va,vb] σ K:=by
 have N:=s.le;have l:=A.len;have E:=(F.gp.cl A B).len;have I:sp≠σ.next:=Nat.ne_of_lt hs.lt;obtain⟨Q,M,rfl⟩:=J;refine zA.gh ?_;refine zD mix Tryz.func86 ?_;simp only[Z3,seval,-ae];refine Qc rfl (by omega) ⟨λG=>?_,λcap u=>?_⟩
 .have Ar:b=[]:=YF (by rw[B.len,<-l,G];rfl);simp only[Z3,seval,-ae];refine zFg Ar D ?_;simp only[Z3,seval,-ae];exact Gh.fin0 (Keep.refl σ) trivial (H.1 (YF (by show(mu O P C d a b).length=0;rw[E,<-l,G];rfl)))
 .rw[l]at u;rw[l];simp only[Z3,seval,-ae];refine Qd s F (hs.new _) L (x:=a) (by simp only[Z3,seval,-ae]) (by simp only[Z3,seval,-ae]) I u A B D ?_;simp only[Z3,seval,-ae];rw[show O.length=(mu O P C d a b).length from E.symm]at u ⊢;exact Gh.finS (zC σ _) (by simp only[Z3,seval,-ae]) (na _) (zL _ _) (H.2 cap u)
theorem Zj(s:Shp O P C)(F:Full O P C d)(hs:PtrG σ sp vO vP vC)(A:IsPr vO vP vC O P C)(B:TT O (O.length-d) a)(D:TT O (O.length-d) b)(u:FI va a)(l:FI vb b)(E:∀v,FI v (mu O P C d a b)->K v σ):
  zA Tryz.prog 86 [.ptr sp 0,va,vb] σ K:=zA.fzI (λK'=>zAr s F hs A B D u l) λa=>E _ ⟨_,_,rfl⟩
theorem zIA(s:Shp O P C)(F:Full O P C d)(hs:PtrG σ sp vO vP vC)(H:IsPr vO vP vC O P C)(l:TT O (O.length-d) a)(u:FI va a){k:Int}(U:0<=k/\k<=1000000)(J:ResI σ K (pw (mu O P C d) (zv O) a k.toNat)):
  zA Tryz.prog 48 [.ptr sp 0,va,.int .i64 k] σ K:=by
 have T:=s.le;have G:=l.len;have M:=F.gp.toMon;have E:sp≠σ.next:=Nat.ne_of_lt hs.lt;have B:=u;obtain⟨N,D,rfl⟩:=u;rw[G]at B ⊢;refine zA.gh ?_;refine zD mix Tryz.func48 ?_;simp only[Z3,seval,-ae,YT,zf,mk8 (n:=O.length) (by omega),mkL (n:=O.length) (by omega)];refine zF (λm vs h'=>∃q:Nat,q<=k.toNat/\m=k.toNat-q/\vs=[.ptr sp 0,.fz N D O.length (pis a),.sl σ.next 0 O.length (.known O.length),.int .i64 k,.int .i64 q]/\h'=σ.new (pis (pw (mu O P C d) (zv O) a q))) k.toNat ?_ ?_
 .exact⟨0,by omega,by omega,rfl,rfl⟩
 rintro m vs h' ⟨q,V,rfl,rfl,rfl⟩
 simp only[Z3,seval,-ae];refine iteI (λR=>?_) λQ=>?_
 .have bK:q<k.toNat:=by omega
  have L:=M.pw l q;refine Qd s F (hs.new _) H (x:=pw (mu O P C d) (zv O) a q) (by simp only[Z3,seval,-ae]) (by simp only[Z3,seval,-ae]) E (.inr rfl) L l B ?_;simp only[Z3,seval,-ae,WX bK];exact⟨_,by omega,q+1,by omega,rfl,rfl,rfl⟩
 .have jk:q=k.toNat:=by omega
  subst jk;have A:=(M.pw l k.toNat).len;have I:full 1 (.known O.length) (pw (mu O P C d) (zv O) a k.toNat).length:=.inr (by rw[A]);refine Gh.finS (zC σ _) (by simp only[Z3,seval,-ae];rfl) (na _) (zL _ _) ?_
  have:=J.2 _ I
  rwa[A]at this
theorem Qz(s:Shp O P C)(F:Full O P C d)(hs:PtrG σ sp vO vP vC)(A:IsPr vO vP vC O P C)(B:TT O (O.length-d) a)(l:FI va a){k:Int}(u:0<=k/\k<=1000000)(D:∀v,FI v (pw (mu O P C d) (zv O) a k.toNat)->K v σ):
  zA Tryz.prog 48 [.ptr sp 0,va,.int .i64 k] σ K:=zA.fzI (λK'=>zIA s F hs A B l u) λa=>D _ ⟨_,_,rfl⟩
theorem mu_step(s:Shp O P C){i:Nat}(hd:O.length-d<=i)(hle:d<=O.length)(l:i<O.length)(B:TT O i x):TT O i (mu O P C d x (Grp.unit O i))/\at_ (mu O P C d x (Grp.unit O i)) i=if at_ x i+1=at_ O i then 0 else at_ x i+1:=by
 have E:TT O i (Grp.unit O i):=s.unit l (na _);obtain⟨e,he⟩:∃e,O.length-i=e+1:=⟨O.length-i-1,by omega⟩
 have A:O.length-(e+1)=i:=by omega
 have J:mu O P C d x (Grp.unit O i)=mu O P C (e+1) x (Grp.unit O i):=by
  have:=zNW s (d:=e+1) (k:=d-(e+1)) (u:=x) (v:=Grp.unit O i) (by omega) (by rw[A];exact B) (by rw[A];exact E)
  rwa[show e+1+(d-(e+1))=d by omega]at this
 have H:=mu_tt s (d:=e+1) (a:=x) (b:=Grp.unit O i) (by omega) (by rw[A];exact B) (by rw[A];exact E);rw[A]at H;rw[J];refine⟨H,?_⟩;have N:=B.bd i l;have M:=s.pr i l;have L:at_ (Grp.unit O i) i=1:=by rw[at_set (by simp;exact l),if_pos rfl]
 have G:=s.pos l;have D:∀a b,TT O (i+1) a->TT O (i+1) b->TT O (i+1) (mu O P C e a b):=λa b Q R=>by
  have:=mu_tt s (d:=e) (a:=a) (b:=b) (by omega) (by rwa[show O.length-e=i+1 by omega]) (by rwa[show O.length-e=i+1 by omega])
  rwa[show O.length-e=i+1 by omega]at this
 have I:=D _ _ (zBR (λx _=>Qr s D x) (nx (Grp.unit O i) i) (B.set0 l G)) (E.set0 l G);simp only[mu,A];rw[L];split
 .have pQ:=D _ _ (s.pw i l) I;rw[at_set (by rw[pQ.len];exact l),if_pos rfl];split<;>omega
 .rw[at_set (by rw[I.len];exact l),if_pos rfl,if_neg (by omega)]
theorem zNo(s:Shp O P C)(F:Full O P C d)(hs:PtrG σ sp vO vP vC)(J:IsPr vO vP vC O P C)(D:TT O (O.length-d) a)(V:FI va a)(N:∀z,TT O (O.length-d) z->mu O P C d a z=zv O->ResI σ K z):
  zA Tryz.prog 95 [.ptr sp 0,va] σ K:=by
 have be:=s.le;have hle:=F.le;have E:=D.len;have M:=F.gp.toMon;have T:sp≠σ.next:=Nat.ne_of_lt hs.lt;have Y:sp≠σ.next+1:=by have:=hs.lt;omega
 obtain⟨wa,aa,rfl⟩:=V;refine zA.gh ?_;refine zD mix Tryz.func95 ?_;simp only[Z3,seval,-ae];refine Qc rfl (by omega) ⟨λI=>?_,λcap L=>?_⟩
 .have df:O=[]:=YF (by rw[<-E,I];rfl);subst df;subst I;simp only[Z3,seval,-ae,mk8 (n:=0) (by omega),mkL (n:=0) (by omega)];refine zF (λm vs h'=>m=0/\vs=[.ptr sp 0,.fz true .nils 0 [],.sl σ.next 0 0 (.known 0),.int .i64 (0:Nat),.int .i64 (0:Nat)]/\h'=σ.new []) 0 ⟨rfl,rfl,rfl⟩ ?_
  rintro m vs h' ⟨rfl,rfl,rfl⟩
  simp only[Z3,seval,-ae];have Q:d=0:=by simpa using hle
  exact Gh.finS (cs:=pis []) (zC σ _) (by simp only[Z3,seval,-ae];rfl) (na _) (zL _ _) ((N [] (s.zv _) (by subst Q;rfl)).2 _ (.inr rfl))
 rw[E]at L;rw[E];simp only[Z3,seval,-ae,YT,zf,mk8 (n:=O.length) (by omega),mkL (n:=O.length) (by omega)];refine zF (λm vs h'=>∃(i:Nat) (r z:V1),i<=O.length/\m=O.length-i/\vs=[.ptr sp 0,.sl σ.next 0 O.length cap,.sl (σ.next+1) 0 O.length (.known O.length),.int .i64 O.length,.int .i64 i]/\h'=(σ.new (pis r)).new (pis z)/\TT O (O.length-d) r/\TT O i r/\TT O (O.length-d) z/\mu O P C d a z=r) O.length ?_ ?_
 .exact⟨0,a,zv O,by omega,by omega,rfl,rfl,D,D.mono (YW _),s.zv _,M.r1 D⟩
 rintro m vs h' ⟨i,r,z,hi,rfl,rfl,rfl,u,B,A,hinv⟩
 simp only[Z3,seval,-ae];refine iteI (λl=>?_) λaF=>?_;rotate_left
 .have aU:i=O.length:=by omega
  subst aU;have R:r=zv O:=B.ext (s.zv _) λj W X=>by omega
  rw[R]at hinv;have H:=A.len
  have:=(N z A hinv).2 (.known O.length) (.inr (by rw[H]))
  rw[H]at this;exact Gh.finS (s:=σ.next+1) ((zC σ _).new _) (by simp only[Z3,seval,-ae]) (by omega) (zL _ _) this
 simp only[Z3,seval,-ae];have bO:=s.pr i l;refine zF (λm vs h'=>∃(r z:V1),m=((at_ O i-at_ r i) % at_ O i).toNat/\vs=[.ptr sp 0,.sl σ.next 0 O.length cap,.sl (σ.next+1) 0 O.length (.known O.length),.int .i64 i,.int .i64 O.length,.int .i64 i]/\h'=(σ.new (pis r)).new (pis z)/\TT O (O.length-d) r/\TT O i r/\TT O (O.length-d) z/\mu O P C d a z=r) _ ⟨r,z,rfl,rfl,rfl,u,B,A,hinv⟩ ?_
 rintro m vs h' ⟨r,z,rfl,rfl,rfl,u,B,A,hinv⟩
 have U:i<r.length:=by rw[u.len];exact l
 have br:=u.bd i l;simp only[Z3,seval,-ae,l,pisAt U];refine iteI (λheq=>?_) λmi=>?_
 .simp only[Z3,seval,-ae,WX l];refine⟨_,by omega,i+1,r,z,by omega,rfl,rfl,rfl,u,?_,A,hinv⟩;refine⟨B.len,B.bd,λt ht=>?_⟩;by_cases e:t=i
  .subst e;exact heq
  .exact B.zero t (by omega)
 .have Ch:O.length-d<=i:=by
   rcases YG i (O.length-d)with h|h
   .exact absurd (u.zero i h) mi
   .exact h
  have G:TT O (O.length-d) (Grp.unit O i):=s.unit l Ch;obtain⟨Z,m2⟩:=mu_step s Ch hle l B;refine Zl s F O.length Ch l (by omega) _ _ sp σ.next cap r vO vP vC ((hs.new _).new _) J (by simp only[Z3,seval,-ae]) (by simp only[Z3,seval,-ae];omega) T L u ?_;simp only[Z3,seval,-ae];refine Zl s F O.length Ch l (by omega) _ _ sp (σ.next+1) (.known O.length) z vO vP vC ((hs.new _).new _) J (by simp only[Z3,seval,-ae]) (by simp only[Z3,seval,-ae]) Y (.inr rfl) A ?_;simp only[Z3,seval,-ae];refine⟨_,?_,_,_,rfl,rfl,M.cl u G,Z,M.cl A G,by rw[<-M.as D A G,hinv]⟩;rw[m2];split
  .rename_i e;rw[Int.sub_zero,Int.emod_self]
   have:(at_ O i-at_ r i) % at_ O i=at_ O i-at_ r i:=Yc (by omega) (by omega)
   omega
  .rename_i e;have W:(at_ O i-at_ r i) % at_ O i=at_ O i-at_ r i:=Yc (by omega) (by omega);have X:(at_ O i-(at_ r i+1)) % at_ O i=at_ O i-(at_ r i+1):=Yc (by omega) (by omega);omega
theorem zDn(s:Shp O P C)(F:Full O P C d)(hs:PtrG σ sp vO vP vC)(E:IsPr vO vP vC O P C)(G:TT O (O.length-d) a)(B:FI va a)(A:∀v z,TT O (O.length-d) z->mu O P C d a z=zv O->FI v z->K v σ):
  zA Tryz.prog 95 [.ptr sp 0,va] σ K:=
 zA.gh (zNo s F hs E G B λz l u=>⟨λD=>Gh.fin0 (Keep.refl σ) trivial (A _ z l u ⟨true,.nils,by rw[D];rfl⟩),λcap H=>Gh.finF (zC σ _) (by simp only[Z3,seval,-ae]) (na _) (zL _ _) H.ok λo=>A _ z l u ⟨true,.sl o 0 z.length cap,rfl⟩⟩)
theorem zI1(s:Shp O P C)(F:Full O P C d)(hs:PtrG σ sp vO vP vC)(B:IsPr vO vP vC O P C)(E:TT O (O.length-d) a)(l:TT O (O.length-d) b)(H:FI va a)(D:FI vb b)(R:∀z,TT O (O.length-d) z->mu O P C d b z=mu O P C d a b->ResI σ K z):
  zA Tryz.prog 162 [.ptr sp 0,va,vb] σ K:=by
 have M:=F.gp.toMon;refine zA.gh ?_;refine zD mix Tryz.func162 ?_;simp only[Z3,seval,-ae];refine zDn s F hs B l D λU W A N I=>?_;simp only[Z3,seval,-ae];refine Zj s F hs B E l H D λV J=>?_;simp only[Z3,seval,-ae];have u:=M.cl E l;have T:=M.cl A u;have G:=R _ T (by rw[<-M.as l A u,N,M.l1 u]);refine zAr s F hs B A u I J ⟨λL=>?_,λcap Q=>?_⟩
 .simp only[Z3,seval,-ae];exact Gh.ret (G.1 L)
 .simp only[Z3,seval,-ae];exact Gh.ret (G.2 cap Q)
theorem zAV(s:Shp O P C)(F:Full O P C d)(hs:PtrG σ sp vO vP vC)(G:IsPr vO vP vC O P C)(H:TT O (O.length-d) a)(I:TT O (O.length-d) b)(D:FI va a)(B:FI vb b)(A:∀v z,TT O (O.length-d) z->mu O P C d b z=mu O P C d a b->FI v z->K v σ):
  zA Tryz.prog 162 [.ptr sp 0,va,vb] σ K:=
 zA.gh (zI1 s F hs G H I D B λz l u=>⟨λE=>Gh.fin0 (Keep.refl σ) trivial (A _ z l u ⟨true,.nils,by rw[E];rfl⟩),λcap J=>Gh.finF (zC σ _) (by simp only[Z3,seval,-ae]) (na _) (zL _ _) J.ok λo=>A _ z l u ⟨true,.sl o 0 z.length cap,rfl⟩⟩)
theorem zBE(s:Shp O P C)(F:Full O P C d){i:Nat}(hi:O.length=d+(i+1))(hs:PtrG σ sp vO vP vC)(T:IsPr vO vP vC O P C)(V:TT O 0 x)(bj:FI vx x)(U:∀v,FI v (Grp.img O C (mu O P C d) i x)->K v σ):
  zA Tryz.prog 226 [.ptr sp 0,.int .i64 i,vx] σ K:=by
 have be:=s.le;have bp:=V.len;have D:i<O.length:=by omega
 have M:=F.gp.toMon;have L:sp≠σ.next:=Nat.ne_of_lt hs.lt;have aK:=T;have cA:=hs;have A:O.length-d=i+1:=by omega
 obtain⟨⟨w0,a0,rfl⟩,⟨w1,a1,rP,rfl,hP⟩,⟨w3,Z,rC,rfl,hC⟩⟩:=T;obtain⟨W,J,rs,Q,R⟩:=cvRow s hC D;have bU:i<C.length:=by rw[s.cl];exact D
 have e2:σ.rd1 sp 2=some (.fz w3 Z C.length rC):=by rw[zI hs.obj];rfl
 have bM:IntKind.i64.wrap ((i:Int)+1)=((i+1:Nat):Int):=wrapS D (by omega);obtain⟨X,N,rfl⟩:=bj;rw[bp];have H:O.length-1-i=d:=by omega
 rw[H]at Q R;refine zA.gh ?_;refine zD mix Tryz.func226 ?_;simp only[Z3,seval,-ae,YT,zf,mk8 (n:=O.length) (by omega),mkL (n:=O.length) (by omega),e2,L,bU,Q];refine zF (λm vs h'=>∃(k:Nat) (y:V1),k<=d/\m=d-k/\vs=[.ptr sp 0,.int .i64 i,.fz X N O.length (pis x),.sl σ.next 0 O.length (.known O.length),.fz W J d rs,.int .i64 d,.int .i64 k]/\h'=σ.new (pis y)/\TT O (i+1) y/\fo (mu O P C d) (cvec C i) (nx x) (i+(1+k)) (d-k) y=Grp.img O C (mu O P C d) i x) d ?_ ?_
 .exact⟨0,zv O,by omega,by omega,rfl,rfl,s.zv _,by rw[Grp.img,H];rfl⟩
 rintro m vs h' ⟨k,y,oS,rfl,rfl,rfl,u,l⟩
 simp only[Z3,seval,-ae];refine iteI (λE=>?_) λaF=>?_;rotate_left
 .have fe:d-k=0:=by omega
  rw[fe]at l;rw[<-l]at U;exact Gh.finF (zC σ _) (by simp only[Z3,seval,-ae];rfl) (na _) (zL _ _) (by simp[capOK]) λo=>U _ (FI.mk u.len)
 have B:i+(1+k)<O.length:=by omega
 have Y:i+(1+k)<x.length:=by omega
 have bk:=V.bd (i+(1+k)) B;have JI:=s.pr _ B;have cb:((nx x (i+(1+k)):Nat):Int)=at_ x (i+(1+k)):=YI bk.1;obtain⟨w7,a7,cK⟩:=R k E;have G:=s.cj i (i+(1+k)) (by omega) B;have e3:IntKind.i64.wrap (((i+1:Nat):Int)+(k:Int))=((i+(1+k):Nat):Int):=WQ
 rw[show d-k=(d-k-1)+1 by omega]at l;simp only[Z3,seval,-ae,E,cK,bM,e3,B,pisAt Y];refine zF (λm vs h'=>∃(q:Nat) (y:V1),q<=nx x (i+(1+k))/\m=nx x (i+(1+k))-q/\vs=[.ptr sp 0,.int .i64 i,.fz X N O.length (pis x),.sl σ.next 0 O.length (.known O.length),.fz w7 a7 O.length (pis (cvec C i (i+(1+k)))),.fz W J d rs,.int .i64 d,.int .i64 k,.int .i64 (at_ x (i+(1+k))),.int .i64 q]/\h'=σ.new (pis y)/\TT O (i+1) y/\fo (mu O P C d) (cvec C i) (nx x) (i+(1+k)+1) (d-k-1) (rep (mu O P C d) (cvec C i (i+(1+k))) (nx x (i+(1+k))-q) y)=Grp.img O C (mu O P C d) i x) (nx x (i+(1+k))) ?_ ?_
 .exact⟨0,y,by omega,by omega,rfl,rfl,u,l⟩
 rintro m vs h' ⟨q,y,EU,rfl,rfl,rfl,u,l⟩
 simp only[Z3,seval,-ae];refine iteI (λar=>?_) λez=>?_
 .have bK:q<nx x (i+(1+k)):=by omega
  refine Qd s F (cA.new _) aK (x:=y) (by simp only[Z3,seval,-ae]) (by simp only[Z3,seval,-ae]) L (.inr rfl) (by rw[A];exact u) (by rw[A];exact G) (FI.mk G.len) ?_;simp only[Z3,seval,-ae,wrapS bK (by omega:nx x (i+(1+k))<=4611686018427387904)];have I:=M.cl (a:=y) (b:=cvec C i (i+(1+k))) (by rw[A];exact u) (by rw[A];exact G);rw[A]at I;refine⟨_,by omega,q+1,_,by omega,rfl,rfl,rfl,I,?_⟩;rw[show nx x (i+(1+k))-q=(nx x (i+(1+k))-(q+1))+1 by omega]at l;exact l
 .have jk:q=nx x (i+(1+k)):=by omega
  subst jk;rw[Yv]at l;simp only[Z3,seval,-ae,WX E];refine⟨_,by omega,k+1,y,by omega,rfl,rfl,rfl,u,?_⟩;rw[show d-(k+1)=d-k-1 by omega];exact l
theorem zKI(s:Shp O P C){d i:Nat}(hi:O.length=d+(i+1))(B:Beh O P C d)(hR:IsPr vO vP vC O P C)
  (hk:∀T f1 f2 f3:Int,(T=0↔Lv O P C i)->K (.agg [.int .i64 T,.int .i64 f1,.int .i64 f2,.int .i64 f3]) σ):zA Tryz.prog 248 [.agg [vO,vP,vC],.int .i64 i] σ K:=by
 have be:=s.le;have I:=hR;have J:i<O.length:=by omega
 have Q:AtOK O P C d (i+1):=zBk s (by omega);have M:=B.gp.toMon;rw[show O.length-d=i+1 by omega]at M;have R:O.length-1-i=d:=by omega
 have yes:((∀q,q<d->pw (mu O P C d) (zv O) (cvec C i (i+(1+q))) (nx O (i+(1+q)))=Grp.img O C (mu O P C d) i (pvec P (i+(1+q))))->
   (∀q r,q+(1+r)<d->mu O P C d (cvec C i (i+(1+(q+(1+r))))) (cvec C i (i+(1+q)))=mu O P C d (cvec C i (i+(1+q))) (Grp.img O C (mu O P C d) i (cvec C (i+(1+q)) (i+(1+(q+(1+r)))))))->
   Grp.img O C (mu O P C d) i (pvec P i)=pvec P i->
   (∀q,q<d->mu O P C d (pvec P i) (iter (Grp.img O C (mu O P C d) i) (nx O i) (unitL O.length (i+(1+q))))=mu O P C d (unitL O.length (i+(1+q))) (pvec P i))->Lv O P C i):=λh1 h2 h3 h4=>by
  refine⟨λj g1 g2=>?_,λj k g1 g2 g3=>?_,?_,λj g1 g2=>?_⟩
  .have:=h1 (j-i-1) (by omega);rw[show i+(1+(j-i-1))=j by omega]at this;rw[R];exact this
  .have:=h2 (j-i-1) (k-j-1) (by omega);rw[show i+(1+(j-i-1))=j by omega,show i+(1+(j-i-1+(1+(k-j-1))))=k by omega]at this;rw[R];exact this
  .rw[R];exact h3
  .have:=h4 (j-i-1) (by omega);rw[show i+(1+(j-i-1))=j by omega]at this;rw[R];exact this
 obtain⟨⟨w0,V,rfl⟩,⟨w1,W,rP,rfl,hP⟩,⟨w3,X,rC,rfl,hC⟩⟩:=hR;obtain⟨w5,a5,rs,cB,dy⟩:=cvRow s hC J;have bU:i<C.length:=by rw[s.cl];exact J
 have dA:i<P.length:=by rw[s.pl];exact J
 refine zA.gh ?_;have fin:∀{T f1 f2 f3:Int} {σ':PHeap},(T=0↔Lv O P C i)->Keep σ σ'->Gh σ K (.agg [.int .i64 T,.int .i64 f1,.int .i64 f2,.int .i64 f3]) σ':=λh k=>Gh.fin0 k ⟨trivial,trivial,trivial,trivial,trivial⟩ (hk _ _ _ _ h);have no:∀{T:Int},T≠0->¬Lv O P C i->(T=0↔Lv O P C i):=λh g=>⟨λx=>absurd x h,λx=>absurd x g⟩
 refine qG mix Tryz.func248 ?_;simp only[Z3,seval,-ae];have aq:∀cs:List PV,Keep σ ((σ.new [.fz w0 V O.length (pis O),.fz w1 W P.length rP,.fz w3 X C.length rC]).new cs):=λcs=>(zC σ _).new _;have H:IntKind.i64.wrap ((i:Int)+1)=((i+1:Nat):Int):=wrapS J (by omega)
 -- first condition
 simp only[Z3,seval,-ae,H];refine zF (λm vs h'=>∃q:Nat,q<=d/\m=d-q/\vs=[.int .i64 i,.ptr σ.next 0,.ptr (σ.next+1) 0,.int .i64 O.length,.int .i64 i,.int .i64 ((i+(1+q):Nat):Int)]/\
  h'=(σ.new [.fz w0 V O.length (pis O),.fz w1 W P.length rP,.fz w3 X C.length rC]).new [.int .i64 0,.int .i64 0,.int .i64 0,.int .i64 0]/\∀l,l<q->pw (mu O P C d) (zv O) (cvec C i (i+(1+l))) (nx O (i+(1+l)))=Grp.img O C (mu O P C d) i (pvec P (i+(1+l)))) d ?_ ?_
 .exact⟨0,by omega,by omega,rfl,rfl,λq h=>by omega⟩
 rintro m vs h' ⟨q,hq,rfl,rfl,rfl,ai⟩
 simp only[Z3,seval,-ae];refine iteI (λah=>?_) λaF=>?_
 .have u:i+(1+q)<O.length:=by omega
  have tX:i+(1+q)<P.length:=by rw[s.pl];exact u
  obtain⟨w6,a6,cK⟩:=dy q (by omega);obtain⟨w7,a7,dk⟩:=pvRow s hP u;have iX:q<O.length-1-i:=by omega
  have N:=s.cj i (i+(1+q)) (by omega) (by omega);have G:=s.pw (i+(1+q)) u;have hO:=s.pr _ u;have e3:IntKind.i64.wrap (((i+(1+q):Nat):Int)-(i:Int))=((1+q:Nat):Int):=WQ
  have e4:IntKind.i64.wrap (((1+q:Nat):Int)-1)=(q:Int):=WQ
  have Z:IntKind.i64.wrap (((i+(1+q):Nat):Int)+1)=((i+(1+(q+1)):Nat):Int):=WQ
  simp only[Z3,seval,-ae,H,bU,cB,e3,e4,iX,cK,u,pisAt u];refine zDf s (by omega) Q M I N (FI.mk N.len) (by omega) λv U=>?_;simp only[Z3,seval,-ae,H,bU,cB,e3,e4,iX,cK,u,pisAt u,tX,dk];refine Qp s (by omega) Q I (G.mono (YW _)) (FI.mk G.len) λv2 Y=>?_;obtain⟨w8,a8,rfl⟩:=U;obtain⟨w9,a9,rfl⟩:=Y;simp only[Z3,seval,-ae,tX,dk];refine Ql rfl rfl (by have:=(M.pw N (at_ O (i+(1+q))).toNat).len;omega) ?_;by_cases D:pw (mu O P C d) (zv O) (cvec C i (i+(1+q))) (nx O (i+(1+q)))=Grp.img O C (mu O P C d) i (pvec P (i+(1+q)))
  .simp only[Z3,seval,-ae,eq_true D,Z];refine⟨_,by omega,q+1,by omega,rfl,rfl,λl h=>?_⟩;by_cases e:l=q
   .subst e;exact D
   .exact ai l (by omega)
  .simp only[Z3,seval,-ae,D];exact fin (no (by decide) λL=>D (by have:=L.pow (i+(1+q)) (by omega) u;rwa[R]at this)) (aq _)
 have qt:q=d:=by omega
 subst qt
 -- second condition
 simp only[Z3,seval,-ae,H];refine zF (λm vs h'=>∃l:Nat,l<=q/\m=q-l/\vs=[.int .i64 i,.ptr σ.next 0,.ptr (σ.next+1) 0,.int .i64 O.length,.int .i64 i,.int .i64 ((i+(1+l):Nat):Int)]/\
  h'=(σ.new [.fz w0 V O.length (pis O),.fz w1 W P.length rP,.fz w3 X C.length rC]).new [.int .i64 0,.int .i64 0,.int .i64 0,.int .i64 0]/\
  ∀t r,t<l->t+(1+r)<q->mu O P C q (cvec C i (i+(1+(t+(1+r))))) (cvec C i (i+(1+t)))=mu O P C q (cvec C i (i+(1+t))) (Grp.img O C (mu O P C q) i (cvec C (i+(1+t)) (i+(1+(t+(1+r))))))) q ?_ ?_
 .exact⟨0,by omega,by omega,rfl,rfl,λt r h=>by omega⟩
 rintro m vs h' ⟨t,ht,rfl,rfl,rfl,aV⟩
 simp only[Z3,seval,-ae];refine iteI (λah=>?_) λaF=>?_
 .have u:i+(1+t)<O.length:=by omega
  have rf:i+(1+t)<C.length:=by rw[s.cl];exact u
  obtain⟨w6,a6,cK⟩:=dy t (by omega);obtain⟨w7,a7,xe,gT,tu⟩:=cvRow s hC u;have iX:t<O.length-1-i:=by omega
  have N:=s.cj i (i+(1+t)) (by omega) (by omega);have e3:IntKind.i64.wrap (((i+(1+t):Nat):Int)-(i:Int))=((1+t:Nat):Int):=WQ
  have e4:IntKind.i64.wrap (((1+t:Nat):Int)-1)=(t:Int):=WQ
  have Z:IntKind.i64.wrap (((i+(1+t):Nat):Int)+1)=((i+(1+(t+1)):Nat):Int):=WQ
  simp only[Z3,seval,-ae,Z];refine zF (λm vs h'=>∃r:Nat,t+(1+r)<=q/\m=q-(t+(1+r))/\vs=[.int .i64 i,.ptr σ.next 0,.ptr (σ.next+1) 0,.int .i64 O.length,.int .i64 i,.int .i64 ((i+(1+t):Nat):Int),.int .i64 ((i+(1+(t+(1+r))):Nat):Int)]/\
   h'=(σ.new [.fz w0 V O.length (pis O),.fz w1 W P.length rP,.fz w3 X C.length rC]).new [.int .i64 0,.int .i64 0,.int .i64 0,.int .i64 0]/\
   ∀E,E<r->t+(1+E)<q->mu O P C q (cvec C i (i+(1+(t+(1+E))))) (cvec C i (i+(1+t)))=mu O P C q (cvec C i (i+(1+t))) (Grp.img O C (mu O P C q) i (cvec C (i+(1+t)) (i+(1+(t+(1+E))))))) (q-(t+1)) ?_ ?_
  .exact⟨0,by omega,by omega,rfl,rfl,λE h=>by omega⟩
  rintro m vs h' ⟨r,hr,rfl,rfl,rfl,jf⟩
  simp only[Z3,seval,-ae];refine iteI (λar=>?_) λez=>?_
  .have lh:i+(1+(t+(1+r)))<O.length:=by omega
   obtain⟨w8,a8,lY⟩:=dy (t+(1+r)) (by omega);obtain⟨w9,a9,jB⟩:=tu r (by omega);rw[show i+(1+t)+(1+r)=i+(1+(t+(1+r))) by omega]at jB;have jb:=s.cj i (i+(1+(t+(1+r)))) (by omega) lh;have mH:=s.cj (i+(1+t)) (i+(1+(t+(1+r)))) (by omega) lh;have kE:t+(1+r)<O.length-1-i:=by omega
   have mr:r<O.length-1-(i+(1+t)):=by omega
   have f3:IntKind.i64.wrap (((i+(1+(t+(1+r))):Nat):Int)-(i:Int))=((1+(t+(1+r)):Nat):Int):=WQ
   have f4:IntKind.i64.wrap (((1+(t+(1+r)):Nat):Int)-1)=((t+(1+r):Nat):Int):=WQ
   have f5:IntKind.i64.wrap (((i+(1+(t+(1+r))):Nat):Int)+1)=((i+(1+(t+(1+(r+1)))):Nat):Int):=WQ
   have f6:IntKind.i64.wrap (((i+(1+(t+(1+r))):Nat):Int)-((i+(1+t):Nat):Int))=((1+r:Nat):Int):=WQ
   have f7:IntKind.i64.wrap (((1+r:Nat):Int)-1)=(r:Int):=WQ
   simp only[Z3,seval,-ae,H,bU,cB,e3,e4,f3,f4,f6,f7,iX,cK,kE,lY,rf,gT,mr,jB];refine Qp s (by omega) Q I (mH.mono (YW _)) (FI.mk mH.len) λv U=>?_;have hz:=Qr s (i:=i) (m:=mu O P C q) (λa b ha hb=>M.cl ha hb) (cvec C (i+(1+t)) (i+(1+(t+(1+r)))));simp only[Z3,seval,-ae,H,bU,cB,e3,e4,f3,f4,f6,f7,iX,cK,kE,lY,rf,gT,mr,jB];refine Q I jb N (FI.mk jb.len) (FI.mk N.len) λv2 Y=>?_;simp only[Z3,seval,-ae,H];refine Q I N hz (FI.mk N.len) U λv3 om=>?_;obtain⟨C7,nD,rfl⟩:=Y;obtain⟨Kd,CF,rfl⟩:=om;simp only[Z3,seval,-ae];refine Ql rfl rfl (by have:=(M.cl jb N).len;omega) ?_;by_cases D:mu O P C q (cvec C i (i+(1+(t+(1+r))))) (cvec C i (i+(1+t)))=mu O P C q (cvec C i (i+(1+t))) (Grp.img O C (mu O P C q) i (cvec C (i+(1+t)) (i+(1+(t+(1+r))))))
   .simp only[Z3,seval,-ae,eq_true D,f5];refine⟨_,by omega,r+1,by omega,rfl,rfl,λE h1 h2=>?_⟩;by_cases e:E=r
    .subst e;exact D
    .exact jf E (by omega) h2
   .simp only[Z3,seval,-ae,D];exact fin (no (by decide) λL=>D (by have:=L.cj (i+(1+t)) (i+(1+(t+(1+r)))) (by omega) (by omega) lh;rwa[R]at this)) (aq _)
  .simp only[Z3,seval,-ae,Z];refine⟨_,by omega,t+1,by omega,rfl,rfl,λt' E h1 h2=>?_⟩;by_cases e:t'=t
   .subst e;exact jf E (by omega) h2
   .exact aV t' E (by omega) h2
 -- third condition
 obtain⟨w6,a6,dk⟩:=pvRow s hP J;have G:=s.pw i J;simp only[Z3,seval,-ae,dA,dk];refine Qp s (by omega) Q I (G.mono (YW _)) (FI.mk G.len) λv U=>?_;obtain⟨w7,a7,rfl⟩:=U;simp only[Z3,seval,-ae];refine Ql rfl G.len.symm (by have:=(Qr s (i:=i) (m:=mu O P C q) (λa b ha hb=>M.cl ha hb) (pvec P i)).len;omega) ?_;by_cases oX:Grp.img O C (mu O P C q) i (pvec P i)=pvec P i;rotate_left
 .simp only[Z3,seval,-ae,oX];exact fin (no (by decide) λL=>oX (by have:=L.fix;rwa[R]at this)) (aq _)
 simp only[Z3,seval,-ae,eq_true oX,H]
 -- uG condition
 refine zF (λm vs h'=>∃l:Nat,l<=q/\m=q-l/\vs=[.int .i64 i,.ptr σ.next 0,.ptr (σ.next+1) 0,.int .i64 O.length,.int .i64 i,.fz w6 a6 O.length (pis (pvec P i)),.int .i64 ((i+(1+l):Nat):Int)]/\
  h'=(σ.new [.fz w0 V O.length (pis O),.fz w1 W P.length rP,.fz w3 X C.length rC]).new [.int .i64 0,.int .i64 0,.int .i64 0,.int .i64 0]/\
  ∀t,t<l->mu O P C q (pvec P i) (iter (Grp.img O C (mu O P C q) i) (nx O i) (unitL O.length (i+(1+t))))=mu O P C q (unitL O.length (i+(1+t))) (pvec P i)) q ?_ ?_
 .exact⟨0,by omega,by omega,rfl,rfl,λt h=>by omega⟩
 rintro m vs h' ⟨t,ht,rfl,rfl,rfl,je⟩
 simp only[Z3,seval,-ae];refine iteI (λah=>?_) λaF=>?_;rotate_left
 .exact fin ⟨λ_=>yes ai (λt' E h=>aV t' E (by omega) h) oX (λt' h=>je t' (by omega)),λ_=>rfl⟩ (aq _)
 have u:i+(1+t)<O.length:=by omega
 have hO:=s.pr i J;have Z:IntKind.i64.wrap (((i+(1+t):Nat):Int)+1)=((i+(1+(t+1)):Nat):Int):=WQ
 have BR:TT O (i+1) (unitL O.length (i+(1+t))):=s.unit u (by omega);simp only[Z3,seval,-ae];refine Z4 (by omega) u λv U=>?_;simp only[Z3,seval,-ae];refine zF (λm vs h'=>∃(k:Nat) (v2:PV) (A:V1),k<=nx O i/\m=nx O i-k/\vs=[.int .i64 i,.ptr σ.next 0,.ptr (σ.next+1) 0,.int .i64 O.length,.int .i64 i,.fz w6 a6 O.length (pis (pvec P i)),.int .i64 ((i+(1+t):Nat):Int),v,v2,.int .i64 k]/\
  h'=(σ.new [.fz w0 V O.length (pis O),.fz w1 W P.length rP,.fz w3 X C.length rC]).new [.int .i64 0,.int .i64 0,.int .i64 0,.int .i64 0]/\FI v2 A/\TT O (i+1) A/\iter (Grp.img O C (mu O P C q) i) (nx O i-k) A=iter (Grp.img O C (mu O P C q) i) (nx O i) (unitL O.length (i+(1+t)))) (nx O i) ?_ ?_
 .exact⟨0,v,_,by omega,by omega,rfl,rfl,U,BR,rfl⟩
 rintro m vs h' ⟨k,v2,A,bN,rfl,rfl,rfl,Y,hA,bn⟩
 have cb:((nx O i:Nat):Int)=at_ O i:=YI (by omega);simp only[Z3,seval,-ae,pisAt J,J];refine iteI (λar=>?_) λez=>?_
 .have bK:k<nx O i:=by omega
  refine Qp s (by omega) Q I (hA.mono (YW _)) Y λv3 om=>?_;simp only[Z3,seval,-ae,WX bK];refine⟨_,by omega,k+1,v3,_,by omega,rfl,rfl,om,Qr s (λa b ha hb=>M.cl ha hb) _,?_⟩;rw[show nx O i-k=(nx O i-(k+1))+1 by omega]at bn;exact bn
 have fe:k=nx O i:=by omega
 subst fe;rw[Yv]at bn;have AI:A=iter (Grp.img O C (mu O P C q) i) (nx O i) (unitL O.length (i+(1+t))):=bn;subst AI;simp only[Z3,seval,-ae,H];refine Q I G hA (FI.mk G.len) Y λv3 om=>?_;simp only[Z3,seval,-ae,H];refine Q I BR G U (FI.mk G.len) λv4 s9=>?_;obtain⟨w8,a8,rfl⟩:=om;obtain⟨w9,a9,rfl⟩:=s9;simp only[Z3,seval,-ae];refine Ql rfl rfl (by have:=(M.cl G hA).len;omega) ?_;by_cases D:mu O P C q (pvec P i) (iter (Grp.img O C (mu O P C q) i) (nx O i) (unitL O.length (i+(1+t))))=mu O P C q (unitL O.length (i+(1+t))) (pvec P i)
 .simp only[Z3,seval,-ae,eq_true D,Z];refine⟨_,by omega,t+1,by omega,rfl,rfl,λt' h=>?_⟩;by_cases e:t'=t
  .subst e;exact D
  .exact je t' (by omega)
 .simp only[Z3,seval,-ae,D];exact fin (no (by decide) λL=>D (by have:=L.inn (i+(1+t)) (by omega) u;rwa[R]at this)) (aq _)
theorem zKJ(s:Shp O P C)(U:IsPr vO vP vC O P C)
  (hk:∀l u A D:Int,(l=0↔Cons O P C)->K (.agg [.int .i64 l,.int .i64 u,.int .i64 A,.int .i64 D]) σ):zA Tryz.prog 214 [.agg [vO,vP,vC]] σ K:=by
 have be:=s.le;have Y:=U;obtain⟨⟨N,I,rfl⟩,⟨w1,J,rP,rfl,hP⟩,⟨Q,L,rC,rfl,hC⟩⟩:=U;refine zA.gh ?_;have fin:∀{l u A D:Int} {σ':PHeap},(l=0↔Cons O P C)->Keep σ σ'->Gh σ K (.agg [.int .i64 l,.int .i64 u,.int .i64 A,.int .i64 D]) σ':=λh k=>Gh.fin0 k ⟨trivial,trivial,trivial,trivial,trivial⟩ (hk _ _ _ _ h);have x6:IntKind.i64.wrap ((O.length:Int)-1)=(O.length:Int)-1:=WE;refine zD mix Tryz.func214 ?_;simp only[Z3,seval,-ae,x6];refine zF (λm vs h'=>∃k:Nat,k<=O.length/\m=k/\vs=[.ptr σ.next 0,.ptr (σ.next+1) 0,.int .i64 ((k:Int)-1)]/\Keep ((σ.new [.fz N I O.length (pis O),.fz w1 J P.length rP,.fz Q L C.length rC]).new [.int .i64 0,.int .i64 0,.int .i64 0,.int .i64 0]) h'/\∀j,k<=j->j<O.length->Lv O P C j) O.length ?_ ?_
 .exact⟨O.length,na _,rfl,rfl,Keep.refl _,λj T H=>by omega⟩
 rintro m vs h' ⟨k,lh,rfl,rfl,E,M⟩
 have R:Keep σ h':=((zC σ _).new _).trans E;have dQ:σ.next+2<=h'.next:=E.next;have yQ:h'.obj σ.next=some [.fz N I O.length (pis O),.fz w1 J P.length rP,.fz Q L C.length rC]:=by rw[E.obj _ (by simp[PHeap.new];omega)];simp[PHeap.new]
 have mg:h'.obj (σ.next+1)=some [.int .i64 0,.int .i64 0,.int .i64 0,.int .i64 0]:=by rw[E.obj _ (by simp[PHeap.new])];simp[PHeap.new]
 have gQ:h'.rd σ.next 0 3=some [.fz N I O.length (pis O),.fz w1 J P.length rP,.fz Q L C.length rC]:=by simp[PHeap.rd,yQ]
 have X:∀l u A D:Int,h'.wr (σ.next+1) 0 [.int .i64 l,.int .i64 u,.int .i64 A,.int .i64 D]=some (h'.set (σ.next+1) [.int .i64 l,.int .i64 u,.int .i64 A,.int .i64 D]):=λl u A D=>by
  have:∀cs:List PV,cs.length=4->cs.all PV.one=true->h'.wr (σ.next+1) 0 cs=some (h'.set (σ.next+1) cs):=λcs W ho=>by
   simp only[PHeap.wr,mg,YM,ho,W];simp[PHeap.set,List.drop_eq_nil_of_le,W]
  exact this _ rfl rfl
 have oK:¬σ.next=h'.next:=by omega
 have kC:¬σ.next+1=h'.next:=by omega
 rcases Nat.eq_zero_or_pos m with rfl|yX
 .simp only[Z3,seval,-ae,show ¬((0:Int)<=((0:Nat):Int)-1) by omega,X];exact fin ⟨λ_ j hj=>M j (YW _) hj,λ_=>rfl⟩ (R.set (by omega) _)
 obtain⟨i,rfl⟩:∃i,m=i+1:=⟨m-1,by omega⟩
 have e:((i+1:Nat):Int)-1=(i:Int):=by omega
 rw[e];have Z:i<O.length:=lh;have kx:IntKind.i64.wrap ((i:Int)-1)=(i:Int)-1:=WE;have B:Beh O P C (O.length-(i+1)):=zOA s (by omega) λj T H=>M j (by omega) H;simp only[Z3,seval,-ae,gQ];refine zKI s (d:=O.length-(i+1)) (by omega) B Y λl u A D V=>?_;simp only[Z3,seval,-ae];refine iteI (λG=>?_) λG=>?_
 .simp only[Z3,seval,-ae,kx];refine⟨i,by omega,i,by omega,rfl,rfl,E.new _,λj T H=>?_⟩;by_cases e:j=i
  .subst e;exact V.1 G
  .exact M j (by omega) H
 .simp only[Z3,seval,-ae,oK,kC,X];exact fin ⟨λh=>absurd h G,λh=>absurd (V.2 (h i Z)) G⟩ ((R.set (by omega) _).new _)
theorem zFH(s:Shp O P C)(l:IsPr vO vP vC O P C)(E:∀t:Bool,(t=true↔Cons O P C)->K (.bool t) σ):zA Tryz.prog 166 [.agg [vO,vP,vC]] σ K:=by
 have u:=l.O.one;have A:=l.P.one;have B:=l.C.one;refine zA.gh ?_;refine zD mix Tryz.func166 ?_;simp only[Z3,seval,-ae,u,A,B];refine zKJ s l λG H I J D=>?_;simp only[Z3,seval,-ae];exact Gh.fin0 (zC σ _) trivial (E _ (by rw[decide_eq_true_iff];exact D))
theorem zEs(l:IsPr vO vP vC O P C)(sz:SzP O P C)(G:∀t:Bool,(t=true↔qE O P C/\Cons O P C)->K (.bool t) σ):zA Tryz.prog 88 [.agg [vO,vP,vC]] σ K:=by
 have B:=l.O.one;have D:=l.P.one;have E:=l.C.one;have I:∀{A:Prop},¬A->((false=true)↔A):=λh=>⟨λx=>(by cases x),λx=>absurd x h⟩
 refine zA.gh ?_;refine zD mix Tryz.func88 ?_;simp only[Z3,seval,-ae,B,D,E];refine Z5 l sz λt u=>?_;cases t with
 |false=>
  simp only[Z3,seval,-ae];exact Gh.fin0 (zC σ _) trivial (G _ (I λh=>by cases u.2 h.1))
 |true=>
  have H:=u.1 rfl;simp only[Z3,seval,-ae,B,D,E];refine zFH H.shp l λt u=>?_;simp only[Z3,seval,-ae];exact Gh.fin0 (zC σ _) trivial (G _ ⟨λh=>⟨H,u.1 h⟩,λh=>u.2 h.2⟩)
end
end Go.Proofs
