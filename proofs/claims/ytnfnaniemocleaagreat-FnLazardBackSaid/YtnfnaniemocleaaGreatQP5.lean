/- . -/
import Derived.Test.YtnfnaniemocleaaGreatQP3
set_option linter.all false
set_option linter.defProp false
open Go.IntKind renaming wrap->Lp
open List renaming length->Lu
open Go.Proofs.Tryz renaming prog->Li
open Bool renaming true->DF
open Int renaming mul_le_mul->HI,toNat_natCast->Fs
open List renaming drop_eq_nil_of_le->EG,getElem?_replicate->JX,mem_of_mem_drop->Ey,replicate->Ep
open Nat renaming mul_one->Fe,ne_of_lt->Ev,sub_zero->Ed
open Option renaming some->Dc
open True renaming intro->DJ
open Int renaming reduceNatCast'->ae
set_option maxRecDepth 100000
namespace Go.Grp
open Go.Ab Go.Lie
variable{d i t0:Nat}{O:V1}{P:V2}{C:V3}
section
structure Mon{α:Type}(S:α->Prop)(m:α->α->α)(e:α):Prop where
 one:S e
 cl:∀{a b},S a->S b->S (m a b)
 «as»:∀{a b c},S a->S b->S c->m (m a b) c=m a (m b c)
 l1:∀{a},S a->m e a=a
 r1:∀{a},S a->m a e=a
section
variable{α:Type}{S:α->Prop}{m:α->α->α}{e:α}
def pw(m:α->α->α)(e x:α):Nat->α
 |0=>e
 |k+1=>m (pw m e x k) x
def C8(m:α->α->α)(x:α):Nat->α->α
 |0,a=>a
 |k+1,a=>C8 m x k (m a x)
def ph(m:α->α->α)(e:α)(h:Nat->α)(x:Nat->Nat):Nat->Nat->α
 |t,0=>e
 |t,d+1=>m (pw m e (h t) (x t)) (ph m e h x (t+1) d)
def fo(m:α->α->α)(h:Nat->α)(x:Nat->Nat):Nat->Nat->α->α
 |t,0,a=>a
 |t,d+1,a=>fo m h x (t+1) d (C8 m (h t) (x t) a)
def Mon.pw(M:Mon S m e){x:α}(l:S x):∀k,S (pw m e x k)
 |0=>M.one
 |k+1=>M.cl (M.pw l k) l
def Mon.pw_add(M:Mon S m e){x:α}(l:S x)(a:Nat):∀b,Grp.pw m e x (a+b)=m (Grp.pw m e x a) (Grp.pw m e x b)
 |0=>(M.r1 (M.pw l a)).symm
 |b+1=>by
  show m (Grp.pw m e x (a+b)) x=m _ (m (Grp.pw m e x b) x);rw[M.pw_add l a b,M.as (M.pw l a) (M.pw l b) l]
def Mon.pw_one(M:Mon S m e){x:α}(l:S x):Grp.pw m e x 1=x:=M.l1 l
def Mon.pw_comm(M:Mon S m e){x:α}(l:S x)(a:Nat):m (Grp.pw m e x a) x=m x (Grp.pw m e x a):=by
 have u:=M.pw_add l a 1;have A:=M.pw_add l 1 a;rw[M.pw_one l]at u A;rw[<-u,<-A,Ue]
def Mon.rep_eq(M:Mon S m e){x:α}(l:S x):∀(k:Nat) {a:α},S a->C8 m x k a=m a (Grp.pw m e x k)
 |0,a,ha=>(M.r1 ha).symm
 |k+1,a,ha=>by
  show C8 m x k (m a x)=m a (m (Grp.pw m e x k) x);rw[M.rep_eq l k (M.cl ha l),M.as ha l (M.pw l k),M.pw_comm l k]
def Mon.ph(M:Mon S m e){h:Nat->α}{x:Nat->Nat}:∀{d t:Nat},(∀j,t<=j->j<t+d->S (h j))->S (ph m e h x t d)
 |0,t,_=>M.one
 |d+1,t,hh=>M.cl (M.pw (hh t (na _) af) _) (M.ph λj l u=>hh j af af)
def Mon.fo_eq(M:Mon S m e){h:Nat->α}{x:Nat->Nat}:∀{d t:Nat} {a:α},(∀j,t<=j->j<t+d->S (h j))->S a->fo m h x t d a=m a (Grp.ph m e h x t d)
 |0,t,a,_,ha=>(M.r1 ha).symm
 |d+1,t,a,hh,ha=>by
  have l:=hh t (na _) af;show fo m h x (t+1) d (C8 m (h t) (x t) a)=m a (m _ _);rw[M.rep_eq l _ ha,M.fo_eq (λj u A=>hh j af af) (M.cl ha (M.pw l _)),M.as ha (M.pw l _) (M.ph λj u A=>hh j af af)]
def zDY{h h':Nat->α}{x l:Nat->Nat}:∀{d t:Nat},(∀j,t<=j->j<t+d->h j=h' j/\x j=l j)->Grp.ph m e h x t d=Grp.ph m e h' l t d
 |0,t,_=>rfl
 |d+1,t,hh=>by
  simp only[Grp.ph];rw[(hh t (na _) af).1,(hh t (na _) af).2,zDY λj u A=>hh j af af]
def Mon.past_pw(M:Mon S m e){g u v:α}(l:S g)(A:S u)(B:S v)(h:m u g=m g v):∀k,m (Grp.pw m e u k) g=m g (Grp.pw m e v k)
 |0=>by rw[Grp.pw,Grp.pw,M.l1 l,M.r1 l]
 |k+1=>by
  show m (m (Grp.pw m e u k) u) g=m g (m (Grp.pw m e v k) v);rw[M.as (M.pw A k) A l,h,<-M.as (M.pw A k) l B,M.past_pw l A B h k,M.as l (M.pw B k) B]
def Mon.past_ph(M:Mon S m e){g:α}(l:S g){h h':Nat->α}{x:Nat->Nat}:∀{d t:Nat},(∀j,t<=j->j<t+d->S (h j)/\S (h' j)/\m (h j) g=m g (h' j))->m (Grp.ph m e h x t d) g=m g (Grp.ph m e h' x t d)
 |0,t,_=>by rw[Grp.ph,Grp.ph,M.l1 l,M.r1 l]
 |d+1,t,hh=>by
  obtain⟨u,A,D⟩:=hh t (na _) af;have E:=M.ph (x:=x) (λj a b=>(hh j (show t<=j by omega) af).1) (d:=d) (t:=t+1);have B:=M.ph (x:=x) (λj a b=>(hh j (show t<=j by omega) af).2.1) (d:=d) (t:=t+1);show m (m _ _) g=m g (m _ _);rw[M.as (M.pw u _) E l,M.past_ph l λj a b=>hh j af af,<-M.as (M.pw u _) l B,M.past_pw l u A D,M.as l (M.pw A _) B]
end
variable{O:V1}{P:V2}{C:V3}
structure TT(O:V1)(t:Nat)(x:V1):Prop where
 len:(Lu x)=Lu O
 bd:∀j,j<Lu O->0<=at_ x j/\at_ x j<at_ O j
 zero:∀j,j<t->at_ x j=0
abbrev nx(x:V1)(j:Nat):Nat:=(at_ x j).toNat
abbrev du(C:V3)(i j:Nat):V1:=(C.getD i []).getD (j-i-1) []
abbrev eM(P:V2)(i:Nat):V1:=P.getD i []
abbrev zv(O:V1):V1:=Ep (Lu O) 0
structure jl(O:V1)(P:V2)(C:V3):Prop where
 le:(Lu O)<=6
 pr:∀j,j<Lu O->2<=at_ O j/\at_ O j<=7
 pl:(Lu P)=Lu O
 cl:(Lu C)=Lu O
 pw:∀i,i<Lu O->TT O (i+1) (eM P i)
 row:∀i,i<Lu O->(C.getD i []).length=Lu O-1-i
 cj:∀i j,i<j->j<Lu O->TT O (i+1) (du C i j)
def lD(O:V1)(C:V3)(m:V1->V1->V1)(i:Nat)(x:V1):V1:=fo m (du C i) (nx x) (i+1) (Lu O-1-i) (zv O)
def iter{α:Type}(f:α->α):Nat->α->α
 |0,a=>a
 |k+1,a=>iter f k (f a)
def zF3{α:Type}(f:α->α)(a b:Nat)(x:α):iter f (a+b) x=iter f b (iter f a x):=by
 induction a generalizing x with
 |zero=>rw[Y5];rfl
 |succ a ih=>rw[show a+1+b=(a+b)+1 by omega];exact ih (f x)
def mu(O:V1)(P:V2)(C:V3):Nat->V1->V1->V1
 |0,_,_=>zv O
 |d+1,a,b=>
  let i:=(Lu O)-(d+1)
  let r:=mu O P C d (iter (lD O C (mu O P C d) i) (nx b i) (a.set i 0)) (b.set i 0)
  if at_ a i+at_ b i ≥ at_ O i then(mu O P C d (eM P i) r).set i (at_ a i+at_ b i-at_ O i)else r.set i (at_ a i+at_ b i)
def TT.zv(t:Nat)(h:∀j,j<Lu O->0<at_ O j):TT O t (zv O):=⟨aK,λj l=>by rw[zb];exact⟨af,h j l⟩,λj _=>zb _ j⟩
def TT.mono{t t':Nat}{x:V1}(h:TT O t x)(u:t'<=t):TT O t' x:=⟨h.len,h.bd,λj l=>h.zero j af⟩
def TT.set{t i:Nat}{x:V1}(h:TT O t x)(B:i<Lu O)(D:t<=i){c:Int}(A:0<=c/\c<at_ O i):TT O t (x.set i c):=by
 have u:i<Lu x:=by rw[h.len];exact B
 refine⟨by rw[YA,h.len],λj l=>?_,λj l=>?_⟩
 .rw[eJ u];split
  .rename_i e;subst e;exact A
  .exact h.bd j l
 .rw[eJ u,DL af];exact h.zero j l
def TT.set0{i:Nat}{x:V1}(h:TT O i x)(u:i<Lu O)(A:0<at_ O i):TT O (i+1) (x.set i 0):=by
 have B:i<Lu x:=by rw[h.len];exact u
 have l:=h.set u (na _) (c:=0) ⟨af,A⟩;refine⟨l.len,l.bd,λj D=>?_⟩;rw[eJ B];split
 .rfl
 .exact h.zero j af
def TT.ext{t:Nat}{x y:V1}(h:TT O t x)(g:TT O t y)(l:∀j,t<=j->j<Lu O->at_ x j=at_ y j):x=y:=by
 refine Zz (by rw[h.len,g.len]) λj u=>?_;rcases YG j t with e|e
 .rw[h.zero j e,g.zero j e]
 .exact l j e (by rw[<-h.len];exact u)
def jl.pos(s:jl O P C){j:Nat}(l:j<Lu O):0<at_ O j:=by have:=(s.pr j l).1;omega
def jl.zv(s:jl O P C)(t:Nat):TT O t (zv O):=TT.zv t λj l=>s.pos l
def zOF{α:Type}{S:α->Prop}{m:α->α->α}{x:α}(h:∀a,S a->S (m a x)):∀(k:Nat) {a:α},S a->S (C8 m x k a)
 |0,a,ha=>ha
 |k+1,a,ha=>zOF h k (h a ha)
def fo_in{α:Type}{S:α->Prop}{m:α->α->α}{h:Nat->α}{x:Nat->Nat}:∀{d t:Nat} {a:α},(∀j,t<=j->j<t+d->∀a,S a->S (m a (h j)))->S a->S (fo m h x t d a)
 |0,t,a,_,ha=>ha
 |d+1,t,a,hh,ha=>by
  show S (fo m h x (t+1) d (C8 m (h t) (x t) a));exact fo_in (λj l u=>hh j af af) (zOF (hh t (na _) af) (x t) ha)
def zBt{α:Type}{S:α->Prop}{f:α->α}(h:∀a,S a->S (f a)):∀(k:Nat) {a:α},S a->S (iter f k a)
 |0,a,ha=>ha
 |k+1,a,ha=>zBt h k (h a ha)
def zAF(s:jl O P C){m:V1->V1->V1}{i:Nat}(u:∀a b,TT O (i+1) a->TT O (i+1) b->TT O (i+1) (m a b))(x:V1):TT O (i+1) (lD O C m i x):=
 fo_in (λj A B a l=>u a _ l (s.cj i j af af)) (s.zv _)
def pb(s:jl O P C):∀{d:Nat} {a b:V1},d<=Lu O->TT O (Lu O-d) a->TT O (Lu O-d) b->TT O (Lu O-d) (mu O P C d a b)
 |0,a,b,_,ha,hb=>s.zv _
 |d+1,a,b,hd,ha,hb=>by
  have l:(Lu O)-(d+1)<Lu O:=af
  have e:(Lu O)-d=Lu O-(d+1)+1:=af
  have u:∀a b,TT O (Lu O-(d+1)+1) a->TT O (Lu O-(d+1)+1) b->TT O (Lu O-(d+1)+1) (mu O P C d a b):=by
   rw[<-e];exactλa b D E=>pb s af D E
  have A:=s.pos l;have G:=ha.bd _ l;have H:=hb.bd _ l;have B:=u _ _ (zBt (λx _=>zAF s u x) (nx b (Lu O-(d+1))) (ha.set0 l A)) (hb.set0 l A);simp only[mu];split
  .exact((u _ _ (s.pw _ l) B).mono (UW _)).set l (na _) ⟨af,af⟩
  .exact(B.mono (UW _)).set l (na _) ⟨af,af⟩
end
section
variable{α:Type}{S:α->Prop}{m:α->α->α}{e:α}{h:Nat->α}
abbrev Ph(O:V1)(m:α->α->α)(e:α)(h:Nat->α)(d:Nat)(x:V1):α:=ph m e h (nx x) (Lu O-d) d
structure Rel(O:V1)(P:V2)(C:V3)(S:α->Prop)(m:α->α->α)(e:α)(h:Nat->α)(t0:Nat):Prop where
 mem:∀j,t0<=j->j<Lu O->S (h j)
 pow:∀j,t0<=j->j<Lu O->pw m e (h j) (nx O j)=Ph O m e h (Lu O-(j+1)) (eM P j)
 cj:∀j k,t0<=j->j<k->k<Lu O->m (h k) (h j)=m (h j) (Ph O m e h (Lu O-(j+1)) (du C j k))
def Ph_in(M:Mon S m e)(r:Rel O P C S m e h t0){d:Nat}(hd:d<=Lu O-t0)(x:V1):S (Ph O m e h d x):=M.ph λj l u=>r.mem j af af
def zHT{d i:Nat}(A:i<Lu O-d){x:V1}(B:(Lu x)=Lu O)(c:Int):Ph O m e h d (x.set i c)=Ph O m e h d x:=
 zDY λj l u=>⟨rfl,by show(at_ _ j).toNat=(at_ x j).toNat;rw[eJ af,DL af]⟩
def zMc{d:Nat}(hd:d<Lu O)(x:V1):Ph O m e h (d+1) x=m (pw m e (h (Lu O-(d+1))) (nx x (Lu O-(d+1)))) (Ph O m e h d x):=by
 show ph m e h (nx x) _ (d+1)=_;rw[ph,show (Lu O)-(d+1)+1=Lu O-d by omega]
def Ph_zv(M:Mon S m e):∀d:Nat,Ph O m e h d (zv O)=e:=by
 intro d
 have:∀(d t:Nat),ph m e h (nx (zv O)) t d=e:=by
  intro d
  induction d with
  |zero=>intro t;rfl
  |succ d ih=>
   intro t;have l:nx (zv O) t=0:=by show(at_ (zv O) t).toNat=0;rw[zb];rfl
   rw[ph,ih,l];exact M.l1 M.one
 exact this d _
def Ph_fo(M:Mon S m e){T:V1->Prop}{mm:V1->V1->V1}{F:V1->α}(E:∀a b,T a->T b->T (mm a b)/\F (mm a b)=m (F a) (F b)){c:Nat->V1}{x:Nat->Nat}:
  ∀{d t:Nat} {a:V1},(∀j,t<=j->j<t+d->T (c j))->T a->T (fo mm c x t d a)/\F (fo mm c x t d a)=fo m (λj=>F (c j)) x t d (F a)
 |0,t,a,_,l=>⟨l,rfl⟩
 |d+1,t,a,hc,l=>by
  have G:∀(k:Nat) {a:V1},T a->T (C8 mm (c t) k a)/\F (C8 mm (c t) k a)=C8 m (F (c t)) k (F a):=by
   intro k
   induction k with
   |zero=>exactλl=>⟨l,rfl⟩
   |succ k ih=>
    intro a l;obtain⟨u,A⟩:=E a (c t) l (hc t (na _) af);obtain⟨B,D⟩:=ih u;exact⟨B,by show F (C8 mm (c t) k (mm a (c t)))=C8 m (F (c t)) k (m (F a) (F (c t)));rw[D,A]⟩
  obtain⟨u,A⟩:=G (x t) l;obtain⟨B,D⟩:=Ph_fo M E (c:=c) (x:=x) (d:=d) (t:=t+1) (λj u A=>hc j af af) u;refine⟨B,?_⟩;show F (fo mm c x (t+1) d _)=fo m _ x (t+1) d (C8 m (F (c t)) (x t) (F a));rw[D,A]
def dyck(s:jl O P C)(M:Mon S m e)(r:Rel O P C S m e h t0):∀{d:Nat},d<=Lu O-t0->∀{a b:V1},TT O (Lu O-d) a->TT O (Lu O-d) b->Ph O m e h d (mu O P C d a b)=m (Ph O m e h d a) (Ph O m e h d b)
 |0,_,a,b,_,_=>(M.l1 M.one).symm
 |d+1,hd,a,b,ha,hb=>by
  have A:(Lu O)-(d+1)<Lu O:=af
  have J:t0<=Lu O-(d+1):=af
  have G:(Lu O)-d=Lu O-(d+1)+1:=af
  have e2:(Lu O)-1-(Lu O-(d+1))=d:=af
  have W:(Lu O)-(Lu O-(d+1)+1)=d:=af
  have U:=s.pos A;have ba:=ha.bd _ A;have bb:=hb.bd _ A;have l:=r.mem _ J A;have Q:∀{a b:V1},TT O (Lu O-d) a->TT O (Lu O-d) b->Ph O m e h d (mu O P C d a b)=m (Ph O m e h d a) (Ph O m e h d b):=λB D=>dyck s M r af B D;have N:∀{a b:V1},TT O (Lu O-d) a->TT O (Lu O-d) b->TT O (Lu O-d) (mu O P C d a b):=λB D=>pb s af B D;have u:∀x,S (Ph O m e h d x):=λx=>Ph_in M r af x;generalize V:(Lu O)-(d+1)=i at *
  have Mr:∀{x:V1},TT O (Lu O-d) x->TT O (Lu O-d) (lD O C (mu O P C d) i x)/\m (Ph O m e h d x) (h i)=m (h i) (Ph O m e h d (lD O C (mu O P C d) i x)):=by
   intro x E;have hc:∀j,i+1<=j->j<i+1+d->TT O (Lu O-d) (du C i j):=λj B D=>by rw[G];exact s.cj i j af af
   have dQ:TT O (Lu O-d) (zv O):=s.zv _;obtain⟨f1,f2⟩:=Ph_fo M (T:=TT O (Lu O-d)) (mm:=mu O P C d) (F:=Ph O m e h d) (λa b B D=>⟨N B D,Q B D⟩) (c:=du C i) (x:=nx x) hc dQ;have OF:lD O C (mu O P C d) i x=fo (mu O P C d) (du C i) (nx x) (i+1) d (zv O):=by rw[lD,e2]
   rw[OF];refine⟨f1,?_⟩;rw[f2,Ph_zv M,M.fo_eq (λj _ _=>u _) M.one,M.l1 (M.ph λj _ _=>u _)];show m (ph m e h (nx x) (Lu O-d) d) (h i)=_;rw[G];refine M.past_ph l λj B D=>⟨r.mem j af af,u _,?_⟩
   have:=r.cj i j J af af
   rw[W]at this;exact this
  have uR:∀(k:Nat) {x:V1},TT O (Lu O-d) x->TT O (Lu O-d) (iter (lD O C (mu O P C d) i) k x)/\m (Ph O m e h d x) (pw m e (h i) k)=m (pw m e (h i) k) (Ph O m e h d (iter (lD O C (mu O P C d) i) k x)):=by
   intro k
   induction k with
   |zero=>exactλ{x} E=>⟨E,by show m _ e=m e _;rw[M.r1 (u x)];exact(M.l1 (u x)).symm⟩
   |succ k ik=>
    intro x E;obtain⟨g1,g2⟩:=Mr E;obtain⟨g3,g4⟩:=ik g1;refine⟨g3,?_⟩;show m _ (m (pw m e (h i) k) (h i))=m (m (pw m e (h i) k) (h i)) (Ph O m e h d (iter _ k (lD O C (mu O P C d) i x)));rw[M.pw_comm l,<-M.as (u _) l (M.pw l k),g2,M.as l (u _) (M.pw l k),g4,<-M.as l (M.pw l k) (u _)]
  have u7:TT O (Lu O-d) (a.set i 0):=by rw[G];exact ha.set0 A U
  have xv:TT O (Lu O-d) (b.set i 0):=by rw[G];exact hb.set0 A U
  obtain⟨Z,k2⟩:=uR (nx b i) u7;have I:i<Lu O-d:=af
  rw[zHT I ha.len]at k2;have er:=Q Z xv;rw[zHT I hb.len]at er;have H:=N Z xv;have R:∀x,Ph O m e h (d+1) x=m (pw m e (h i) (nx x i)) (Ph O m e h d x):=λx=>by rw[zMc af,V]
  rw[R a,R b,R];generalize hL:iter (lD O C (mu O P C d) i) (nx b i) (a.set i 0)=L at *
  have OD:mu O P C (d+1) a b=if at_ a i+at_ b i ≥ at_ O i then(mu O P C d (eM P i) (mu O P C d L (b.set i 0))).set i (at_ a i+at_ b i-at_ O i)else(mu O P C d L (b.set i 0)).set i (at_ a i+at_ b i):=by
   simp only[mu,V,hL]
  have rhs:m (m (pw m e (h i) (nx a i)) (Ph O m e h d a)) (m (pw m e (h i) (nx b i)) (Ph O m e h d b))=m (pw m e (h i) (nx a i+nx b i)) (Ph O m e h d (mu O P C d L (b.set i 0))):=by
   rw[er,M.pw_add l,M.as (M.pw l _) (u _) (M.cl (M.pw l _) (u _)),<-M.as (u _) (M.pw l _) (u _),k2,M.as (M.pw l _) (u _) (u _),<-M.as (M.pw l _) (M.pw l _) (M.cl (u _) (u _))]
  rw[rhs,OD];have hn:(at_ a i+at_ b i).toNat=nx a i+nx b i:=by show _=(at_ a i).toNat+(at_ b i).toNat;omega
  have X:∀{x:V1} (c:Int),TT O (Lu O-d) x->nx (x.set i c) i=c.toNat:=λ{x} c E=>by show(at_ _ i).toNat=_;rw[eJ (by rw[E.len];exact A),DK rfl]
  split
  .rename_i aG;have Y:TT O (Lu O-d) (eM P i):=by rw[G];exact s.pw i A
   have cp:=N Y H;rw[X _ cp,zHT I cp.len,Q Y H];have rp:=r.pow i J A;rw[W]at rp;rw[<-rp,<-M.as (M.pw l _) (M.pw l _) (u _),<-M.pw_add l];congr 2
   show(at_ a i+at_ b i-at_ O i).toNat+(at_ O i).toNat=(at_ a i).toNat+(at_ b i).toNat
   omega
  .rw[X _ H,zHT I H.len,hn]
structure Gp{α:Type}(S:α->Prop)(m:α->α->α)(e:α):Prop extends Mon S m e where
 inv:∀{a},S a->∃b,S b/\m a b=e/\m b a=e
def Gp.cancel(G:Gp S m e){a b c:α}(l:S a)(u:S b)(A:S c)(h:m a b=m a c):b=c:=by
 obtain⟨i,B,_,D⟩:=G.inv l
 have:=congrArg (m i) h
 rwa[<-G.as B l u,<-G.as B l A,D,G.l1 u,G.l1 A]at this
def Gp.of_right(M:Mon S m e)(E:∀{a},S a->∃b,S b/\m a b=e):Gp S m e:=by
 refine⟨M,λ{a} l=>?_⟩;obtain⟨b,u,A⟩:=E l;obtain⟨c,D,B⟩:=E u;refine⟨b,u,A,?_⟩
 have:a=c:=by rw[<-M.r1 l,<-B,<-M.as l u D,A,M.l1 D]
 rw[this];exact B
def Mon.pw_ind(M:Mon S m e){Q:α->Prop}(u:Q e)(A:∀a b,S a->S b->Q a->Q b->Q (m a b)){x:α}(l:S x)(B:Q x):∀k,Q (Grp.pw m e x k)
 |0=>u
 |k+1=>A _ _ (M.pw l k) l (M.pw_ind u A l B k) B
def Mon.ph_ind(M:Mon S m e){Q:α->Prop}(l:Q e)(u:∀a b,S a->S b->Q a->Q b->Q (m a b)){h:Nat->α}{x:Nat->Nat}:∀{d t:Nat},(∀j,t<=j->j<t+d->S (h j)/\Q (h j))->Q (Grp.ph m e h x t d)
 |0,t,_=>l
 |d+1,t,hh=>by
  obtain⟨A,B⟩:=hh t (na _) af;exact u _ _ (M.pw A _) (M.ph λj a b=>(hh j af af).1) (M.pw_ind l u A B _) (M.ph_ind l u λj a b=>hh j af af)
def Mon.ph_skip(M:Mon S m e){h:Nat->α}{x:Nat->Nat}{d:Nat}:∀{k t:Nat},(∀j,t<=j->j<t+k->x j=0)->(∀j,t+k<=j->j<t+k+d->S (h j))->Grp.ph m e h x t (k+d)=Grp.ph m e h x (t+k) d
 |0,t,_,_=>by rw[Y5,UF]
 |k+1,t,h0,hs=>by
  have:=M.ph_skip (h:=h) (x:=x) (d:=d) (k:=k) (t:=t+1) (λj a b=>h0 j af af) (λj a b=>hs j af af)
  rw[show k+1+d=(k+d)+1 by omega,Grp.ph,h0 t (na _) af,this,show t+1+k=t+(k+1) by omega];exact M.l1 (M.ph λj a b=>hs j af af)
abbrev unit(O:V1)(j:Nat):V1:=(zv O).set j 1
def jl.unit(s:jl O P C){t j:Nat}(l:j<Lu O)(u:t<=j):TT O t (unit O j):=(s.zv t).set l u ⟨af,by have:=(s.pr j l).1;omega⟩
structure Lv(O:V1)(P:V2)(C:V3)(i:Nat):Prop where
 pow:∀j,i<j->j<Lu O->pw (mu O P C (Lu O-1-i)) (zv O) (du C i j) (nx O j)=lD O C (mu O P C (Lu O-1-i)) i (eM P j)
 cj:∀j k,i<j->j<k->k<Lu O->mu O P C (Lu O-1-i) (du C i k) (du C i j)=mu O P C (Lu O-1-i) (du C i j) (lD O C (mu O P C (Lu O-1-i)) i (du C j k))
 fix:lD O C (mu O P C (Lu O-1-i)) i (eM P i)=eM P i
 inn:∀j,i<j->j<Lu O->mu O P C (Lu O-1-i) (eM P i) (iter (lD O C (mu O P C (Lu O-1-i)) i) (nx O i) (unit O j))=mu O P C (Lu O-1-i) (unit O j) (eM P i)
structure Beh(O:V1)(P:V2)(C:V3)(d:Nat):Prop where
 le:d<=Lu O
 gp:Gp (TT O (Lu O-d)) (mu O P C d) (zv O)
 nf:∀{x},TT O (Lu O-d) x->Ph O (mu O P C d) (zv O) (unit O) d x=x
def qR{x:V1}{i:Nat}(h:at_ x i=0)(l:i<Lu x):x.set i 0=x:=by
 refine Zz aK λj u=>?_;rw[eJ l];split
 .rename_i e;subst e;exact h.symm
 .rfl
def zD8(x:V1)(i:Nat)(a b:Int):(x.set i a).set i b=x.set i b:=List.set_set ..
def zN9{x:V1}{i:Nat}(l:i<Lu x):(x.set i 0).set i (at_ x i)=x:=by
 rw[zD8];refine Zz aK λj u=>?_;rw[eJ l];split
 .rename_i e;subst e;rfl
 .rfl
section
variable{d i:Nat}
abbrev al(O:V1)(P:V2)(C:V3)(d i:Nat):V1->V1:=lD O C (mu O P C d) i
def al_ph(s:jl O P C)(B:Beh O P C d)(l:(Lu O)-d=i+1)(x:V1):al O P C d i x=Ph O (mu O P C d) (zv O) (du C i) d x:=by
 have hle:=B.le;have hs:∀j,i+1<=j->j<i+1+d->TT O (Lu O-d) (du C i j):=λj u A=>by rw[l];exact s.cj i j af af
 have e:(Lu O)-1-i=d:=af
 show fo _ _ _ _ _ _=ph _ _ _ _ _ _;rw[e,B.gp.fo_eq hs B.gp.one,B.gp.l1 (B.gp.ph hs),l]
def al_zv(s:jl O P C)(B:Beh O P C d)(l:(Lu O)-d=i+1):al O P C d i (zv O)=zv O:=by rw[al_ph s B l,Ph_zv B.gp.toMon]
def zS1(s:jl O P C)(B:Beh O P C d)(A:(Lu O)-d=i+1)(L:Lv O P C i):Rel O P C (TT O (Lu O-d)) (mu O P C d) (zv O) (du C i) (i+1):=by
 have hle:=B.le;have e:(Lu O)-1-i=d:=af
 have hs:∀j,i+1<=j->j<Lu O->TT O (Lu O-d) (du C i j):=λj u l=>by rw[A];exact s.cj i j af l
 have sk:∀{j:Nat} {x:V1},i<j->j<Lu O->TT O (j+1) x->al O P C d i x=Ph O (mu O P C d) (zv O) (du C i) (Lu O-(j+1)) x:=λ{j x} u l E=>by
  rw[al_ph s B A];show ph _ _ _ _ _ _=ph _ _ _ _ _ _
  have:=B.gp.toMon.ph_skip (h:=du C i) (x:=nx x) (d:=(Lu O)-(j+1)) (k:=j-i) (t:=i+1) (λt a b=>by show(at_ x t).toNat=0;rw[E.zero t af];rfl) (λt a b=>hs t af af)
  rw[show j-i+(Lu O-(j+1))=d by omega,show i+1+(j-i)=Lu O-(Lu O-(j+1)) by omega]at this;rw[A];exact this
 refine⟨hs,λj u l=>?_,λj k u l D=>?_⟩
 .have:=L.pow j af l
  rw[e]at this;rw[this];exact sk af l (s.pw j l)
 .have:=L.cj j k af l D
  rw[e]at this;rw[this];congr 1;exact sk af af (s.cj j k l D)
def al_in(s:jl O P C)(B:Beh O P C d)(l:(Lu O)-d=i+1)(x:V1):TT O (Lu O-d) (al O P C d i x):=by
 rw[l];exact zAF s (by rw[<-l];exactλa b u A=>B.gp.cl u A) x
def zTQ(s:jl O P C)(B:Beh O P C d)(l:(Lu O)-d=i+1)(L:Lv O P C i){a b:V1}(u:TT O (Lu O-d) a)(A:TT O (Lu O-d) b):al O P C d i (mu O P C d a b)=mu O P C d (al O P C d i a) (al O P C d i b):=by
 rw[al_ph s B l,al_ph s B l,al_ph s B l];exact dyck s B.gp.toMon (zS1 s B l L) (by have:=B.le;omega) u A
def it_in(s:jl O P C)(B:Beh O P C d)(l:(Lu O)-d=i+1)(k:Nat){x:V1}(u:TT O (Lu O-d) x):TT O (Lu O-d) (iter (al O P C d i) k x):=zBt (λa _=>al_in s B l a) k u
def zJz(s:jl O P C)(B:Beh O P C d)(l:(Lu O)-d=i+1)(L:Lv O P C i):∀(k:Nat) {a b:V1},TT O (Lu O-d) a->TT O (Lu O-d) b->iter (al O P C d i) k (mu O P C d a b)=mu O P C d (iter (al O P C d i) k a) (iter (al O P C d i) k b)
 |0,a,b,ha,hb=>rfl
 |k+1,a,b,ha,hb=>by
  show iter _ k (al O P C d i _)=_;rw[zTQ s B l L ha hb,zJz s B l L k (al_in s B l a) (al_in s B l b)];rfl
def zEV{f:V1->V1}{w:V1}(h:f w=w):∀k,iter f k w=w
 |0=>rfl
 |k+1=>by show iter f k (f w)=w;rw[h];exact zEV h k
def zR7(s:jl O P C)(B:Beh O P C d)(l:(Lu O)-d=i+1)(L:Lv O P C i){x:V1}(E:TT O (Lu O-d) x):mu O P C d (eM P i) (iter (al O P C d i) (nx O i) x)=mu O P C d x (eM P i):=by
 have hle:=B.le;have D:i<Lu O:=af
 have e:(Lu O)-1-i=d:=af
 have hw:TT O (Lu O-d) (eM P i):=by rw[l];exact s.pw i D
 have M:=B.gp.toMon
 have:=M.ph_ind (Q:=λx=>mu O P C d (eM P i) (iter (al O P C d i) (nx O i) x)=mu O P C d x (eM P i)) ?_ ?_ (h:=unit O) (x:=nx x) (d:=d) (t:=(Lu O)-d) λj u A=>⟨s.unit af u,?_⟩
 .have nf:=B.nf E;rw[show Ph O (mu O P C d) (zv O) (unit O) d x=ph (mu O P C d) (zv O) (unit O) (nx x) (Lu O-d) d from rfl]at nf;rw[nf]at this;exact this
 .rw[zEV (al_zv s B l),M.r1 hw,M.l1 hw]
 .intro a b ha hb u A;rw[zJz s B l L _ ha hb,<-M.as hw (it_in s B l _ ha) (it_in s B l _ hb),u,M.as ha hw (it_in s B l _ hb),A,<-M.as ha hb hw]
 .have:=L.inn j af af
  rw[e]at this;exact this
def zE4(s:jl O P C)(B:Beh O P C d)(N:(Lu O)-d=i+1){a b:Int}{x y:V1}(A:TT O (Lu O-d) x)(D:TT O (Lu O-d) y):
  mu O P C (d+1) (x.set i a) (y.set i b)=if a+b ≥ at_ O i then(mu O P C d (eM P i) (mu O P C d (iter (al O P C d i) b.toNat x) y)).set i (a+b-at_ O i)else(mu O P C d (iter (al O P C d i) b.toNat x) y).set i (a+b):=by
 have hle:=B.le;have l:i<Lu O:=af
 have J:(Lu O)-(d+1)=i:=af
 have E:i<Lu x:=by rw[A.len];exact l
 have G:i<Lu y:=by rw[D.len];exact l
 have L:at_ x i=0:=A.zero i af;have M:at_ y i=0:=D.zero i af;simp only[mu,J];rw[zD8,zD8,qR L E,qR M G];have H:at_ (x.set i a) i=a:=by rw[eJ E,DK rfl]
 have u:at_ (y.set i b) i=b:=by rw[eJ G,DK rfl]
 show(if at_ (x.set i a) i+at_ (y.set i b) i ≥ _ then _ else _)=_
 have I:nx (y.set i b) i=b.toNat:=by show(at_ _ i).toNat=_;rw[u]
 rw[H,u,I]
def pair(h:i<Lu O){t:Nat}{x:V1}(l:TT O i x)(u:0<at_ O i):∃y a,TT O (i+1) y/\x=y.set i a/\0<=a/\a<at_ O i:=
 ⟨x.set i 0,at_ x i,l.set0 h u,(zN9 (by rw[l.len];exact h)).symm,(l.bd i h).1,(l.bd i h).2⟩
def zKY(s:jl O P C)(B:Beh O P C d)(U:(Lu O)-d=i+1)(L:Lv O P C i):Beh O P C (d+1):=by
 have hle:=B.le;have H:i<Lu O:=af
 have W:(Lu O)-(d+1)=i:=af
 have e:(Lu O)-1-i=d:=af
 have aL:=s.pos H;have hw:TT O (Lu O-d) (eM P i):=by rw[U];exact s.pw i H
 have M:=B.gp.toMon;have E:=λ{a b:Int} {x y:V1} (l:TT O (Lu O-d) x) (D:TT O (Lu O-d) y)=>zE4 s B U (a:=a) (b:=b) l D;have N:=λ(k:Nat) {x:V1} (l:TT O (Lu O-d) x)=>it_in s B U k l;have im:=λ(k:Nat) {x y:V1} (l:TT O (Lu O-d) x) (D:TT O (Lu O-d) y)=>zJz s B U L k l D;have iw:∀k,iter (al O P C d i) k (eM P i)=eM P i:=λk=>zEV (by have:=L.fix;rw[e]at this;exact this) k;have iz:∀k,iter (al O P C d i) k (zv O)=zv O:=λk=>zEV (al_zv s B U) k;have Y:∀{x:V1},TT O i x->∃y a,TT O (Lu O-d) y/\x=y.set i a/\0<=a/\a<at_ O i:=λl=>by rw[U];exact pair H (t:=0) l aL
 have zs:zv O=(zv O).set i 0:=(qR (zb _ i) (by simp;exact H)).symm;have hz:TT O (Lu O-d) (zv O):=s.zv _;have l1:∀{a:V1},TT O i a->mu O P C (d+1) (zv O) a=a:=λ{a} J=>by
  obtain⟨x,a,l,rfl,b1,b2⟩:=Y J;rw[zs,E hz l,DL af,iz,M.l1 l,Ua]
 have r1:∀{a:V1},TT O i a->mu O P C (d+1) a (zv O)=a:=λ{a} J=>by
  obtain⟨x,a,l,rfl,b1,b2⟩:=Y J
  conv=>lhs;rw[zs]
  rw[E l hz,DL af,UO]
  show(mu O P C d x (zv O)).set i a=_
  rw[M.r1 l]
 have cl:∀{a b:V1},TT O i a->TT O i b->TT O i (mu O P C (d+1) a b):=λ{a b} J hb=>by
  have:=pb s (d:=d+1) af (by rw[W];exact J) (by rw[W];exact hb)
  rwa[W]at this
 have Hb:∀{a b c:V1},TT O i a->TT O i b->TT O i c->mu O P C (d+1) (mu O P C (d+1) a b) c=mu O P C (d+1) a (mu O P C (d+1) b c):=λ{a b c} J hb hc=>by
  obtain⟨x,a,l,rfl,a1,a2⟩:=Y J;obtain⟨y,b,D,rfl,b1,b2⟩:=Y hb;obtain⟨z,c,I,rfl,c1,c2⟩:=Y hc;have A:=N b.toNat l;have V:=N c.toNat D;have AB:=M.cl A D;have Q:=M.cl V I;have past:=λ{u:V1} (G:TT O (Lu O-d) u)=>zR7 s B U L G;have ic:iter (al O P C d i) c.toNat (iter (al O P C d i) b.toNat x)=iter (al O P C d i) (b.toNat+c.toNat) x:=(zF3 _ _ _ _).symm;have X:=N (b.toNat+c.toNat) l;rw[E l D,E D I];by_cases R:a+b ≥ at_ O i
  .rw[DK R,E (M.cl hw AB) I,im _ hw AB,iw,im _ A D,ic];by_cases Z:b+c ≥ at_ O i
   .rw[DK Z,E l (M.cl hw Q)];have hk:(b+c-at_ O i).toNat+nx O i=b.toNat+c.toNat:=by show _+(at_ O i).toNat=_;omega
    have hX:=past (N (b+c-at_ O i).toNat l);rw[<-zF3,hk]at hX;have e5:mu O P C d (iter (al O P C d i) (b+c-at_ O i).toNat x) (mu O P C d (eM P i) (mu O P C d (iter (al O P C d i) c.toNat y) z))=mu O P C d (mu O P C d (eM P i) (mu O P C d (iter (al O P C d i) (b.toNat+c.toNat) x) (iter (al O P C d i) c.toNat y))) z:=by
     rw[<-M.as (N _ l) hw Q,<-hX,M.as hw X Q,<-M.as X V I,<-M.as hw (M.cl X V) I]
    rw[e5];by_cases T:a+b-at_ O i+c ≥ at_ O i
    .rw[DK T,DK af];congr 1;omega
    .rw[DL T,DL af];congr 1;omega
   .rw[DL Z,E l Q,DL af,DK af,show(b+c).toNat=b.toNat+c.toNat by omega];rw[<-M.as X V I,<-M.as hw (M.cl X V) I];congr 1;omega
  .rw[DL R,E AB I,im _ A D,ic];by_cases Z:b+c ≥ at_ O i
   .rw[DK Z,E l (M.cl hw Q),DK af,DL af];have hk:(b+c-at_ O i).toNat+nx O i=b.toNat+c.toNat:=by show _+(at_ O i).toNat=_;omega
    have hX:=past (N (b+c-at_ O i).toNat l);rw[<-zF3,hk]at hX;rw[<-M.as (N _ l) hw Q,<-hX,M.as hw X Q,<-M.as X V I];congr 1;omega
   .rw[DL Z,E l Q,show(b+c).toNat=b.toNat+c.toNat by omega,<-M.as X V I];by_cases T:a+b+c ≥ at_ O i
    .rw[DK T,DK af];congr 1;omega
    .rw[DL T,DL af];congr 1;omega
 have Mn:Mon (TT O (Lu O-(d+1))) (mu O P C (d+1)) (zv O):=by
  rw[W];exact⟨s.zv _,cl,Hb,l1,r1⟩
 refine⟨af,Gp.of_right Mn ?_,?_⟩
 .rw[W];intro a J;obtain⟨x,a,l,rfl,a1,a2⟩:=Y J;by_cases Bh:a=0
  .subst Bh;obtain⟨y,D,R,_⟩:=B.gp.inv l;refine⟨y.set i 0,(D.mono af).set H (na _) ⟨af,aL⟩,?_⟩;rw[E l D,DL af]
   show(mu O P C d x y).set i _=_
   rw[R,UO];exact zs.symm
  .obtain⟨y,D,R,_⟩:=B.gp.inv (M.cl hw (N (at_ O i-a).toNat l));refine⟨y.set i (at_ O i-a),(D.mono af).set H (na _) ⟨af,af⟩,?_⟩;rw[E l D,DK af,<-M.as hw (N _ l) D,R,show a+(at_ O i-a)-at_ O i=0 by omega];exact zs.symm
 .rw[W];intro x l;obtain⟨y,a,D,rfl,a1,a2⟩:=Y l;have yl:i<Lu y:=by rw[D.len];exact H
  have G:∀k:Nat,(k:Int)<at_ O i->pw (mu O P C (d+1)) (zv O) (unit O i) k=(zv O).set i k:=by
   intro k
   induction k with
   |zero=>intro _;exact zs
   |succ k ih=>
    intro hk;show mu O P C (d+1) (pw _ _ _ k) (unit O i)=_;rw[ih af,E hz hz,DL af]
    show(mu O P C d (al O P C d i (zv O)) (zv O)).set i _=_
    rw[al_zv s B U,M.l1 hz];congr 1
  have sub:∀{u v:V1},TT O (Lu O-d) u->TT O (Lu O-d) v->mu O P C (d+1) u v=mu O P C d u v:=λ{u v} G hv=>by
   have ul:i<Lu u:=by rw[G.len];exact H
   have vl:i<Lu v:=by rw[hv.len];exact H
   have T:=E (a:=0) (b:=0) G hv;rw[qR (G.zero i af) ul,qR (hv.zero i af) vl,DL af]at T;rw[T];have tT:=M.cl G hv;exact qR (tT.zero i af) (by show i<(mu O P C d u v).length;rw[tT.len];exact H)
  have KC:∀{u:V1},TT O (Lu O-d) u->∀k,pw (mu O P C (d+1)) (zv O) u k=pw (mu O P C d) (zv O) u k:=λ{u} G k=>by
   induction k with
   |zero=>rfl
   |succ k ih=>show mu O P C (d+1) (pw _ _ u k) u=mu O P C d (pw _ _ u k) u;rw[ih,sub (M.pw G k) G]
  have KF:∀(c t:Nat),(Lu O)-d<=t->t+c<=Lu O->ph (mu O P C (d+1)) (zv O) (unit O) (nx (y.set i a)) t c=ph (mu O P C d) (zv O) (unit O) (nx y) t c:=by
   intro c
   induction c with
   |zero=>intro t _ _;rfl
   |succ c ih=>
    intro t R Z;have HP:TT O (Lu O-d) (unit O t):=s.unit af R;have cb:nx (y.set i a) t=nx y t:=by show(at_ _ t).toNat=(at_ y t).toNat;rw[eJ yl,DL af]
    rw[ph,ph,ih (t+1) af af,KC HP,cb,sub (M.pw HP _) (M.ph λj g1 g2=>s.unit af af)]
  rw[zMc af,W,show Ph O (mu O P C (d+1)) (zv O) (unit O) d (y.set i a)=Ph O (mu O P C d) (zv O) (unit O) d y from KF d _ (na _) af,B.nf D];have cb:nx (y.set i a) i=a.toNat:=by show(at_ _ i).toNat=_;rw[eJ yl,DK rfl]
  have ys:y=y.set i 0:=(qR (D.zero i af) yl).symm;rw[cb,G _ af]
  conv=>lhs;rw[ys]
  rw[E hz D,DL af]
  show(mu O P C d (zv O) y).set i _=_
  rw[M.l1 D];congr 1;omega
def zKX(s:jl O P C):Beh O P C 0:=by
 have l:∀{x:V1},TT O (Lu O-0) x->x=zv O:=λ{x} u=>u.ext (s.zv _) λj A B=>by omega
 refine⟨YV _,⟨⟨s.zv _,λ_ _=>s.zv _,λ_ _ _=>rfl,λh=>(l h).symm,λh=>(l h).symm⟩,λh=>⟨zv O,s.zv _,rfl,rfl⟩⟩,λh=>(l h).symm⟩
end
def Cons(O:V1)(P:V2)(C:V3):Prop:=∀i,i<Lu O->Lv O P C i
def zPp(s:jl O P C):∀{d:Nat},d<=Lu O->(∀i,(Lu O)-d<=i->i<Lu O->Lv O P C i)->Beh O P C d
 |0,_,_=>zKX s
 |d+1,hd,h=>zKY s (zPp s af λi u l=>h i af l) af (h (Lu O-(d+1)) (na _) af)
end
section
variable{α:Type}{S:α->Prop}{m:α->α->α}{e:α}{h:Nat->α}
def zHo(s:jl O P C)(hd:d+1<=Lu O){u v:V1}(B:TT O (Lu O-d) u)(D:TT O (Lu O-d) v):mu O P C (d+1) u v=mu O P C d u v:=by
 have l:(Lu O)-(d+1)<Lu O:=af
 have G:=B.zero (Lu O-(d+1)) af;have A:=D.zero (Lu O-(d+1)) af;have E:=pb s (af:d<=Lu O) B D;have H:=s.pos l;simp only[mu];rw[qR G (by rw[B.len];exact l),qR A (by rw[D.len];exact l),G,A,DL af]
 have:nx v (Lu O-(d+1))=0:=by show(at_ v _).toNat=0;rw[A];rfl
 rw[this];exact qR (E.zero _ af) (by show _<(mu O P C d u v).length;rw[E.len];exact l)
def zO4(s:jl O P C):∀{k:Nat},d+k<=Lu O->∀{u v:V1},TT O (Lu O-d) u->TT O (Lu O-d) v->mu O P C (d+k) u v=mu O P C d u v
 |0,_,u,v,_,_=>rfl
 |k+1,hk,u,v,hu,hv=>by
  rw[show d+(k+1)=(d+k)+1 by omega,zHo s af (hu.mono af) (hv.mono af),zO4 s af hu hv]
def zJI{l:α->α->α}(h:∀a b,S a->S b->l a b=m a b)(M:Mon S m e){x:α}(u:S x):∀k,pw l e x k=pw m e x k
 |0=>rfl
 |k+1=>by show l (pw l e x k) x=m (pw m e x k) x;rw[zJI h M u k,h _ _ (M.pw u k) u]
def zGi{u:α->α->α}(h:∀a b,S a->S b->u a b=m a b)(M:Mon S m e){f:Nat->α}{x:Nat->Nat}:∀{c t:Nat},(∀j,t<=j->j<t+c->S (f j))->ph u e f x t c=ph m e f x t c
 |0,t,_=>rfl
 |c+1,t,hf=>by
  have l:=hf t (na _) af;have i:=zGi h M (f:=f) (x:=x) (c:=c) (t:=t+1) λj a b=>hf j af af;rw[ph,ph,i,zJI h M l];exact h _ _ (M.pw l _) (M.ph λj a b=>hf j af af)
def zSY{m:V1->V1->V1}(M:Mon (TT O (Lu O-d)) m (zv O))(s:jl O P C){f:Nat->V1}(D:∀j,(Lu O)-d<=j->j<Lu O->TT O (Lu O-d) (f j))(hd:d<=Lu O){k:Nat}(A:(Lu O)-d<=k)(B:k<Lu O):Ph O m (zv O) f d (unit O k)=f k:=by
 have:∀(c t:Nat),(Lu O)-d<=t->t+c=Lu O->ph m (zv O) f (nx (unit O k)) t c=if t<=k then f k else zv O:=by
  intro c
  induction c with
  |zero=>intro t u E;rw[ph,DL af]
  |succ c ih=>
   intro t u E;have G:nx (unit O k) t=if t=k then 1 else 0:=by
    show(at_ ((zv O).set k 1) t).toNat=_
    rw[eJ (by simp;exact B)];split
    .rfl
    .rw[zb];rfl
   rw[ph,ih (t+1) af af,G];have l:=D t u af;by_cases e:t=k
   .subst e;rw[DK rfl,DL af,DK (na _),M.pw_one l,M.r1 l]
   .rw[DL e];show m (zv O) _=_;by_cases g:t<=k
    .rw[DK af,DK g,M.l1 (D k A B)]
    .rw[DL af,DL g,M.l1 M.one]
 have:=this d (Lu O-d) (na _) af
 rw[DK A]at this;exact this
structure Full(O:V1)(P:V2)(C:V3)(d:Nat):Prop extends Beh O P C d where
 rel:Rel O P C (TT O (Lu O-d)) (mu O P C d) (zv O) (unit O) (Lu O-d)
def zPW(s:jl O P C):Full O P C 0:=⟨zKX s,⟨λj l u=>s.unit u l,λj l u=>af,λj k l u A=>af⟩⟩
def zPX(s:jl O P C)(B:Full O P C d)(E:(Lu O)-d=i+1)(L:Lv O P C i):Full O P C (d+1):=by
 have hle:=B.le;have A:i<Lu O:=af
 have V:(Lu O)-(d+1)=i:=af
 have T:=zKY s B.toBeh E L;refine⟨T,?_⟩;have M:=B.gp.toMon;have aL:=s.pos A;have G:TT O (Lu O-d) (zv O):=s.zv _;have hw:TT O (Lu O-d) (eM P i):=by rw[E];exact s.pw i A
 have sub:∀a b,TT O (Lu O-d) a->TT O (Lu O-d) b->mu O P C (d+1) a b=mu O P C d a b:=λa b W X=>zHo s af W X;have un:∀j,(Lu O)-d<=j->j<Lu O->TT O (Lu O-d) (unit O j):=λj u l=>s.unit l u;have Q:=λ{a b:Int} {x y:V1} (N:TT O (Lu O-d) x) (Z:TT O (Lu O-d) y)=>zE4 s B.toBeh E (a:=a) (b:=b) N Z;have zs:zv O=(zv O).set i 0:=(qR (zb _ i) (by simp;exact A)).symm;have nfx:∀{j:Nat} {x:V1},i<=j->j<Lu O->TT O (j+1) x->Ph O (mu O P C (d+1)) (zv O) (unit O) (Lu O-(j+1)) x=x:=λ{j x} u l N=>by
  have I:=B.nf (N.mono (af:(Lu O)-d<=j+1));have H:Ph O (mu O P C (d+1)) (zv O) (unit O) (Lu O-(j+1)) x=Ph O (mu O P C d) (zv O) (unit O) (Lu O-(j+1)) x:=zGi sub M λk a b=>un k af af;rw[H]
  have:=M.ph_skip (h:=unit O) (x:=nx x) (d:=(Lu O)-(j+1)) (k:=j-i) (t:=(Lu O)-d) (λt a b=>by show(at_ x t).toNat=0;rw[N.zero t af];rfl) (λt a b=>un t af af)
  rw[show j-i+(Lu O-(j+1))=d by omega,show (Lu O)-d+(j-i)=Lu O-(Lu O-(j+1)) by omega]at this;show ph _ _ _ _ _ _=x;rw[<-this];exact I
 rw[V];refine⟨λj u l=>s.unit l u,λj u l=>?_,λj k u l D=>?_⟩
 .rw[nfx u l (s.pw j l)];by_cases e:j=i
  .subst e;have Y:∀k:Nat,(k:Int)<at_ O j->pw (mu O P C (d+1)) (zv O) (unit O j) k=(zv O).set j k:=by
    intro k
    induction k with
    |zero=>intro _;exact zs
    |succ k ih=>
     intro hk;show mu O P C (d+1) (pw _ _ _ k) (unit O j)=_;rw[ih af,Q G G,DL af]
     show(mu O P C d (al O P C d j (zv O)) (zv O)).set j _=_
     rw[al_zv s B.toBeh E,M.l1 G];congr 1
   obtain⟨o,ho⟩:∃o:Nat,nx O j=o+1:=⟨nx O j-1,by show(at_ O j).toNat=_;have:nx O j=(at_ O j).toNat:=rfl;omega⟩
   have Re:at_ O j=(o:Int)+1:=by have:nx O j=(at_ O j).toNat:=rfl;omega
   rw[ho];show mu O P C (d+1) (pw _ _ _ o) (unit O j)=_;rw[Y o af,Q G G,DK af]
   show(mu O P C d (eM P j) (mu O P C d (al O P C d j (zv O)) (zv O))).set j _=_
   rw[al_zv s B.toBeh E,M.l1 G,M.r1 hw,show(o:Int)+1-at_ O j=0 by omega];exact qR (hw.zero j af) (by rw[hw.len];exact A)
  .rw[zJI sub M (un j af l),B.rel.pow j af l];have I:=nfx u l (s.pw j l);have H:Ph O (mu O P C (d+1)) (zv O) (unit O) (Lu O-(j+1)) (eM P j)=Ph O (mu O P C d) (zv O) (unit O) (Lu O-(j+1)) (eM P j):=zGi sub M λk a b=>un k af af;rw[<-H];exact I
 .rw[nfx u af (s.cj j k l D)];by_cases e:j=i
  .subst e;have J:TT O (Lu O-d) (du C j k):=by rw[E];exact s.cj j k l D
   have R:=un k af D;have zu:=R.zero j af;have zc:=J.zero j af;have H:mu O P C (d+1) (unit O k) (unit O j)=(du C j k).set j 1:=by
    have:=Q (a:=0) (b:=1) R G
    rw[qR zu (by rw[R.len];exact A),DL (by have:=(s.pr j A).1;omega)]at this;rw[this]
    show(mu O P C d (al O P C d j (unit O k)) (zv O)).set j _=_
    rw[al_ph s B.toBeh E,zSY M s (λq a b=>by rw[E];exact s.cj j q af b) hle af D,M.r1 J];congr 1
   have U:mu O P C (d+1) (unit O j) (du C j k)=(du C j k).set j 1:=by
    have:=Q (a:=1) (b:=0) G J
    rw[qR zc (by rw[J.len];exact A),DL (by have:=(s.pr j A).1;omega)]at this;rw[this]
    show(mu O P C d (zv O) (du C j k)).set j _=_
    rw[M.l1 J];congr 1
   rw[H,U]
  .have MV:TT O (Lu O-d) (du C j k):=(s.cj j k l D).mono af;have I:=nfx u af (s.cj j k l D);have H:Ph O (mu O P C (d+1)) (zv O) (unit O) (Lu O-(j+1)) (du C j k)=Ph O (mu O P C d) (zv O) (unit O) (Lu O-(j+1)) (du C j k):=zGi sub M λk a b=>un k af af;rw[H]at I
   have:=B.rel.cj j k af l D
   rw[I]at this;rw[sub _ _ (un k af D) (un j af af),sub _ _ (un j af af) MV];exact this
def sY(s:jl O P C):∀{d:Nat},d<=Lu O->(∀i,(Lu O)-d<=i->i<Lu O->Lv O P C i)->Full O P C d
 |0,_,_=>zPW s
 |d+1,hd,h=>zPX s (sY s af λi u l=>h i af l) af (h (Lu O-(d+1)) (na _) af)
def Mon.ph_app(M:Mon S m e){f:Nat->α}{x:Nat->Nat}{b:Nat}:∀{a t:Nat},(∀j,t<=j->j<t+a+b->S (f j))->Grp.ph m e f x t (a+b)=m (Grp.ph m e f x t a) (Grp.ph m e f x (t+a) b)
 |0,t,hf=>by
  rw[Y5,UF];exact(M.l1 (M.ph λj l u=>hf j af af)).symm
 |a+1,t,hf=>by
  have A:=hf t (na _) af;rw[show a+1+b=(a+b)+1 by omega,Grp.ph,Grp.ph,M.ph_app λj l u=>hf j af af,show t+(a+1)=t+1+a by omega,M.as (M.pw A _) (M.ph λj l u=>hf j af af) (M.ph λj l u=>hf j af af)]
def o9(x:V1)(j:Nat):V1:=x.take (j+1)++Ep (Lu x-(j+1)) 0
def zE7(x:V1)(j:Nat):(o9 x j).length=Lu x:=by simp[o9];omega
def zDH(x:V1)(j k:Nat):at_ (o9 x j) k=if k<=j then at_ x k else 0:=by
 simp only[o9,at_,YW];by_cases l:k<=j
 .rw[DK l];by_cases u:k<Lu x
  .rw[Yn (by simp;omega),Yc,DK af]
  .rw[Yq (by simp;omega),Yq af]
 .rw[DL l];by_cases u:k<Lu x
  .rw[Yz (by simp;omega),JX];split<;>rfl
  .rw[Yq (by simp;omega)];rfl
def zJ4{t j:Nat}{x:V1}(u:TT O t x)(A:∀j,j<Lu O->0<at_ O j):TT O t (o9 x j):=by
 refine⟨by rw[zE7,u.len],λk l=>?_,λk l=>?_⟩
 .rw[zDH];split
  .exact u.bd k l
  .exact⟨af,A k l⟩
 .rw[zDH];split
  .exact u.zero k l
  .rfl
def yo(O:V1)(P:V2)(C:V3)(m:V1->V1->V1)(x:V1)(j:Nat):V1:=
 fo m (du C j) (nx x) (j+1) (Lu O-1-j) (if at_ x j+1=at_ O j then m ((o9 x j).set j 0) (eM P j)else(o9 x j).set j (at_ x j+1))
def zP3(s:jl O P C)(B:Full O P C d){x:V1}(L:TT O (Lu O-d) x){j:Nat}(G:(Lu O)-d<=j)(l:j<Lu O):yo O P C (mu O P C d) x j=mu O P C d x (unit O j):=by
 have hle:=B.le;have M:=B.gp.toMon;have aL:=s.pos l;have bx:=L.bd j l;have un:∀k,(Lu O)-d<=k->k<Lu O->TT O (Lu O-d) (unit O k):=λk a b=>s.unit b a;have E:∀k,j+1<=k->k<Lu O->TT O (Lu O-d) (du C j k):=λk a b=>(s.cj j k af b).mono af;have dB:TT O (Lu O-d) (eM P j):=(s.pw j l).mono af;have D:=un j G l;have W:j<(o9 x j).length:=by rw[zE7,L.len];exact l
 -- oT head, oT sY x6, oT rest
 let H:=ph (mu O P C d) (zv O) (unit O) (nx x) (Lu O-d) (j-(Lu O-d))
 have I:TT O (Lu O-d) H:=M.ph λk a b=>un k af af;have Y:∀{y:V1},(∀k,k<j->at_ y k=at_ x k)->TT O (Lu O-d) y->y=mu O P C d H (mu O P C d (pw (mu O P C d) (zv O) (unit O j) (nx y j)) (ph (mu O P C d) (zv O) (unit O) (nx y) (j+1) (Lu O-1-j))):=λ{y} V U=>by
  have N:=B.nf U;have e2:Ph O (mu O P C d) (zv O) (unit O) d y=mu O P C d (ph (mu O P C d) (zv O) (unit O) (nx y) (Lu O-d) (j-(Lu O-d))) (ph (mu O P C d) (zv O) (unit O) (nx y) j (Lu O-1-j+1)):=by
   have:=M.ph_app (f:=unit O) (x:=nx y) (a:=j-(Lu O-d)) (b:=(Lu O)-1-j+1) (t:=(Lu O)-d) λk a b=>un k af af
   rw[show j-(Lu O-d)+(Lu O-1-j+1)=d by omega,show (Lu O)-d+(j-(Lu O-d))=j by omega]at this;exact this
  have e3:ph (mu O P C d) (zv O) (unit O) (nx y) (Lu O-d) (j-(Lu O-d))=H:=zDY λk a b=>⟨rfl,by show(at_ y k).toNat=(at_ x k).toNat;rw[V k af]⟩
  rw[e3]at e2;exact N.symm.trans e2
 have xV:∀{y:V1},(∀k,j<k->at_ y k=0)->ph (mu O P C d) (zv O) (unit O) (nx y) (j+1) (Lu O-1-j)=zv O:=λ{y} V=>by
  have N:ph (mu O P C d) (zv O) (unit O) (nx y) (j+1) (Lu O-1-j)=ph (mu O P C d) (zv O) (unit O) (nx (zv O)) (j+1) (Lu O-1-j):=zDY λk a b=>⟨rfl,by show(at_ y k).toNat=(at_ (zv O) k).toNat;rw[V k af,zb]⟩
  rw[N]
  have:=Ph_zv (O:=O) (h:=unit O) M (Lu O-1-j)
  show ph _ _ _ _ _ _=_;rw[show j+1=Lu O-(Lu O-1-j) by omega];exact this
 let R:=ph (mu O P C d) (zv O) (unit O) (nx x) (j+1) (Lu O-1-j)
 let R':=ph (mu O P C d) (zv O) (du C j) (nx x) (j+1) (Lu O-1-j)
 have hR:TT O (Lu O-d) R:=M.ph λk a b=>un k af af;have Z:TT O (Lu O-d) R':=M.ph λk a b=>E k a af;have past:mu O P C d R (unit O j)=mu O P C d (unit O j) R':=M.past_ph D λk a b=>⟨un k af af,E k a af,by
  have:=B.rel.cj j k G af af
  have KR:Ph O (mu O P C d) (zv O) (unit O) (Lu O-(j+1)) (du C j k)=du C j k:=by
   have J:=s.cj j k af af;have T:=B.nf (E k a af);have A:=M.ph_skip (h:=unit O) (x:=nx (du C j k)) (d:=(Lu O)-(j+1)) (k:=j+1-(Lu O-d)) (t:=(Lu O)-d) (λt a b=>by show(at_ _ t).toNat=0;rw[J.zero t af];rfl) (λt a b=>un t af af);rw[show j+1-(Lu O-d)+(Lu O-(j+1))=d by omega,show (Lu O)-d+(j+1-(Lu O-d))=Lu O-(Lu O-(j+1)) by omega]at A;show ph _ _ _ _ _ _=_;rw[<-A];exact T
  rw[KR]at this;exact this⟩
 have pj:pw (mu O P C d) (zv O) (unit O j) (nx O j)=eM P j:=by
  rw[B.rel.pow j G l];have J:=s.pw j l;have T:=B.nf dB;have A:=M.ph_skip (h:=unit O) (x:=nx (eM P j)) (d:=(Lu O)-(j+1)) (k:=j+1-(Lu O-d)) (t:=(Lu O)-d) (λt a b=>by show(at_ _ t).toNat=0;rw[J.zero t af];rfl) (λt a b=>un t af af);rw[show j+1-(Lu O-d)+(Lu O-(j+1))=d by omega,show (Lu O)-d+(j+1-(Lu O-d))=Lu O-(Lu O-(j+1)) by omega]at A;show ph _ _ _ _ _ _=_;rw[<-A];exact T
 have u:∀k,TT O (Lu O-d) (pw (mu O P C d) (zv O) (unit O j) k):=λk=>M.pw D k
 -- both Hl Sl H g^(e+1) R'
 have rhs:mu O P C d x (unit O j)=mu O P C d (mu O P C d H (pw (mu O P C d) (zv O) (unit O j) (nx x j+1))) R':=by
  conv=>lhs;rw[Y (λ_ _=>rfl) L]
  rw[M.as I (M.cl (u _) hR) D,M.as (u _) hR D,past,<-M.as (u _) D Z,M.as I (u (nx x j+1)) Z];rfl
 have X:∀{c:Int},0<=c->c<at_ O j->(o9 x j).set j c=mu O P C d H (pw (mu O P C d) (zv O) (unit O j) c.toNat):=λ{c} c0 c1=>by
  have U:TT O (Lu O-d) ((o9 x j).set j c):=(zJ4 L λk Q=>s.pos Q).set l G ⟨c0,c1⟩;have hs:=Y (y:=(o9 x j).set j c) (λk Q=>by rw[eJ W,DL af,zDH,DK af]) U;rw[xV λk Q=>by rw[eJ W,DL af,zDH,DL af],M.r1 (u _)]at hs;rw[hs];congr 2
  show(at_ _ j).toNat=_
  rw[eJ W,DK rfl]
 have lhs:(if at_ x j+1=at_ O j then mu O P C d ((o9 x j).set j 0) (eM P j)else(o9 x j).set j (at_ x j+1))=mu O P C d H (pw (mu O P C d) (zv O) (unit O j) (nx x j+1)):=by
  split
  .rename_i J;rw[X (UA _) aL,<-pj,show nx O j=nx x j+1 by show(at_ O j).toNat=(at_ x j).toNat+1;omega];show mu O P C d (mu O P C d H (zv O)) _=_;rw[M.r1 I]
  .rw[X af af,show(at_ x j+1).toNat=nx x j+1 by show _=(at_ x j).toNat+1;omega]
 rw[yo,lhs,rhs];exact M.fo_eq (λk a b=>E k a af) (M.cl I (u _))
end
end Go.Grp
namespace Go.Proofs
open Go.Ab Go.Lie Go.Grp
variable{σ:cg}{vC vO vP vx:PV}{K:PV->cg->Prop}{O x:V1}{P:V2}{C:V3}
section
variable{s:Nat}
structure dU(vO vP vC:PV)(O:V1)(P:V2)(C:V3):Prop where
 O:FI vO O
 P:jj vP P
 C:Db vC C
structure SzP(O:V1)(P:V2)(C:V3):Prop where
 O:(Lu O)<=1048576
 P:SzL P
 C:SzM C
structure jh(σ:cg)(s:Nat)(vO vP vC:PV):Prop where
 bt:σ.bt s=Dc [vO,vP,vC]
 lt:s<σ.aM
def jh.bf(h:jh σ s vO vP vC)(cs:List PV):jh (σ.bf cs) s vO vP vC:=⟨by have:=h.lt;simp only[Z3,seval,-ae,Ev this];exact h.bt,by have:=h.lt;refine Lk ?_;omega⟩
def jh.set(h:jh σ s vO vP vC){t:Nat}(l:s≠t)(cs:List PV):jh (σ.set t cs) s vO vP vC:=⟨by simp only[Z3,seval,-ae,l];exact h.bt,h.lt⟩
def jh.cf{h:cg}(hs:jh σ s vO vP vC)(l:cT σ h):jh h s vO vP vC:=⟨by rw[l.bt s hs.lt];exact hs.bt,Yw hs.lt l.aM⟩
def Af(O x:V1):Prop:=(Lu x)=Lu O/\∀j,j<Lu x->0<=at_ x j/\at_ x j<=at_ O j-1
def Zy(O:V1)(t:Nat)(x:V1):Prop:=Af O x/\mw (x.take t)
def gO:V1->Int
 |[]=>1
 |o::O=>o*gO O
def rowPr(O:V1)(P:V2)(C:V3)(i:Nat):Prop:=Zy O (i+1) (P.getD i [])/\(C.getD i []).length=Lu O-1-i/\∀k,k<(C.getD i []).length->Zy O (i+1) ((C.getD i []).getD k [])
def qG(O:V1)(P:V2)(C:V3):Prop:=
 (Lu O)<=6/\Lu P=(Lu O)/\Lu C=(Lu O)/\(∀o∈O,jF o)/\gO O<=729/\∀i,i<Lu O->rowPr O P C i
def Zy.tt{t:Nat}(h:Zy O t x):TT O t x:=by
 refine⟨h.1.1,λj l=>by have:=h.1.2 j (by rw[h.1.1];exact l);omega,λj l=>?_⟩;rcases YG j (Lu x) with e|e
 .rw[dp e];exact h.2 _ (by rw[UB];exact⟨j,af,rfl⟩)
 .exact nX e
def qG.shp(h:qG O P C):jl O P C:=by
 obtain⟨B,D,E,G,I,l⟩:=h;refine⟨B,λj A=>?_,D,E,λi u=>(l i u).1.tt,λi u=>(l i u).2.1,λi j H A=>?_⟩
 .rw[dp A];exact(G _ (YZ A)).bd
 .have:=(l i af).2.2 (j-i-1) (by rw[(l i af).2.1];omega)
  exact this.tt
def zDE(hs:jh σ s vO vP vC)(N:FI vO O)(U:(Lu O)<=1048576)(M:∀o∈O,jF o)(Q:FI vx x)(X:(Lu x)<=1048576)(D:∀t:Bool,(t=DF↔Af O x)->K (.bool t) σ):zA Li 160 [.ptr s 0,vx] σ K:=by
 have H:=@Lm
 obtain⟨R,J,rfl⟩:=N;obtain⟨T,L,rfl⟩:=Q;have G:σ.dR s 0=Dc (.fz R J (Lu O) (cS O)):=by rw[zH hs.bt];rfl
 refine Lg Tryz.func160 ?_;simp only[Z3,seval,-ae,G];refine Ll (λB=>?_) λB=>?_
 .exact D _ (H λh=>B (by rw[h.1]))
 have B:(Lu x)=Lu O:=af
 refine zF (λm vs h'=>∃i:Nat,i<=Lu x/\m=Lu x-i/\vs=[.ptr s 0,.fz T L (Lu x) (cS x),.int .i64 (Lu x),.int .i64 i]/\σ=h'/\∀j,j<i->0<=at_ x j/\at_ x j<=at_ O j-1) (Lu x) ?_ ?_
 .exact⟨0,af,af,rfl,rfl,λj I=>af⟩
 rintro m vs h' ⟨i,Y,rfl,rfl,rfl,E⟩
 refine Lk ?_;refine de (λl=>?_) λV=>?_
 .have jD:i<Lu O:=af
  have W:=(M _ (YZ jD)).bd;simp only[Z3,seval,-ae,l,jD,G,gi l,gi jD,zN,fl (n:=O[i] - 1) af af];refine zIO ?_;by_cases u:0<=x[i]/\x[i]<=O[i] - 1
  .simp only[Z3,seval,-ae,u,WX l];refine⟨_,af,i+1,af,rfl,rfl,λj I=>?_⟩;by_cases e:j=i
   .subst e;rw[dp l,dp jD];exact u
   .exact E j af
  .simp only[Z3,seval,-ae,u];exact D _ (H λh=>u (by have:=h.2 i l;rwa[dp l,dp jD]at this))
 .exact D _ ⟨λ_=>⟨B,λj I=>E j af⟩,λ_=>rfl⟩
def zDp{i:Nat}(hs:jh σ s vO vP vC)(J:FI vO O)(H:(Lu O)<=1048576)(I:∀o∈O,jF o)(G:FI vx x)(L:(Lu x)<=1048576)(M:i<Lu O)(u:∀t:Bool,(t=DF↔Zy O (i+1) x)->K (.bool t) σ):zA Li 189 [.ptr s 0,.int .i64 i,vx] σ K:=by
 have B:=@Lm
 refine Lg Tryz.func189 ?_;refine Lk ?_;refine zDE hs J H I G L λt E=>?_;cases t with
 |false=>
  refine Lk ?_;exact u _ (B λh=>by cases E.2 h.1)
 |true=>
  have D:=E.1 rfl;have T:=D.1;obtain⟨U,R,rfl⟩:=G;have N:((i+1:Nat):Int)<=(Lu x:Int):=af
  have Q:i+1<=Lu x:=af
  simp only[Z3,seval,-ae,WX M,N,Q,zB8,Ed];refine QJ (by simp;omega) (by simp;omega) ?_;by_cases l:mw (x.take (i+1))
  .simp only[Z3,seval,-ae,l];exact u _ ⟨λ_=>⟨D,l⟩,λ_=>rfl⟩
  .simp only[Z3,seval,-ae,l];exact u _ (B λh=>l h.2)
def zB5:∀(a b:V1),gO (a++b)=gO a*gO b
 |[],b=>by simp[gO]
 |x::a,b=>by simp[gO,zB5 a b,UR]
def zBd{i:Nat}(l:i<Lu O):gO (O.take (i+1))=gO (O.take i)*O[i]:=by
 rw[YN l,zB5];simp[gO]
def zBL:∀{O:V1},(∀o∈O,jF o)->1<=gO O
 |[],_=>by simp[gO]
 |o::O,h=>by
  have l:=(h o aK).bd;have u:=zBL (O:=O) λq A=>h q (by simp[A]);simp only[gO]
  have:=HI l.1 u af af
  omega
def zMu(h:∀o∈O,jF o)(i:Nat):gO (O.take i)<=gO O:=by
 have A:=zBL λo l=>h o (UY (i:=i) l);have u:=zBL λo l=>h o (Ey (i:=i) l)
 have:gO O=gO (O.take i)*gO (O.drop i):=by rw[<-zB5,List.take_append_drop]
 have B:=HI (UA (gO (O.take i))) u af af;omega
def zFN(hR:dU vO vP vC O P C)(sz:SzP O P C)(hk:∀t:Bool,(t=DF↔qG O P C)->K (.bool t) σ):zA Li 125 [.agg [vO,vP,vC]] σ K:=by
 have xE:=hR.O;have Dx:=sz.P;have xQ:=sz.C;obtain⟨⟨E,D,rfl⟩,⟨w1,G,rP,rfl,hP⟩,⟨L,H,rC,rfl,hC⟩⟩:=hR;refine zA.gh ?_;have fin:∀{t:Bool} {σ':cg},(t=DF↔qG O P C)->cT σ σ'->Gh σ K (.bool t) σ':=λh k=>Gh.fin0 k trivial (hk _ h);have no:∀{σ':cg},¬qG O P C->cT σ σ'->Gh σ K (.bool false) σ':=λh k=>fin ⟨λx=>(by cases x),λx=>absurd x h⟩ k;have A:=zC σ [.fz E D (Lu O) (cS O),.fz w1 G (Lu P) rP,.fz L H (Lu C) rC];have cJ:jh (σ.bf [.fz E D (Lu O) (cS O),.fz w1 G (Lu P) rP,.fz L H (Lu C) rC]) σ.aM (.fz E D (Lu O) (cS O)) (.fz w1 G (Lu P) rP) (.fz L H (Lu C) rC):=⟨by simp only[Z3,seval,-ae],by simp only[Z3,seval,-ae]⟩
 refine Lg Tryz.func125 ?_;refine Lk ?_;by_cases h6:(Lu O)<=6;rotate_left
 .have Q:(6:Int)<(Lu O:Int):=af
  simp only[Z3,seval,-ae,Q];exact no (λh=>h6 h.1) A
 have Q:¬(6:Int)<(Lu O:Int):=af
 by_cases xA:(Lu P)=Lu O;rotate_left
 .have T:¬(Lu P:Int)=(Lu O:Int):=af
  simp only[Z3,seval,-ae,Q,T];exact no (λh=>xA h.2.1) A
 have T:(Lu P:Int)=(Lu O:Int):=af
 by_cases vi:(Lu C)=Lu O;rotate_left
 .have W:¬(Lu C:Int)=(Lu O:Int):=af
  simp only[Z3,seval,-ae,Q,eq_true T,W];exact no (λh=>vi h.2.2.1) A
 have W:(Lu C:Int)=(Lu O:Int):=af
 simp only[Z3,seval,-ae,Q,eq_true T,eq_true W];refine zF (λm vs h'=>∃i:Nat,i<=Lu O/\m=Lu O-i/\vs=[.ptr σ.aM 0,.int .i64 (Lu O),.int .i64 (gO (O.take i)),.fz E D (Lu O) (cS O),.int .i64 (Lu O),.int .i64 i]/\h'=σ.bf [.fz E D (Lu O) (cS O),.fz w1 G (Lu P) rP,.fz L H (Lu C) rC]/\(∀o∈O.take i,jF o)/\gO (O.take i)<=729) (Lu O) ?_ ?_
 .exact⟨0,af,af,rfl,rfl,aK,by simp[gO]⟩
 rintro m vs h' ⟨i,hi,rfl,rfl,rfl,I,U⟩
 refine Lk ?_;refine de (λl=>?_) λX=>?_
 .simp only[Z3,seval,-ae,l,gi l,zN];refine zCm ?_;by_cases J:jF O[i];rotate_left
  .simp only[Z3,seval,-ae,J];exact no (λh=>J (h.2.2.2.1 _ (YZ l))) A
  have gA:=J.bd;have h1:=zBL I;have uG:0<=gO (O.take i)*O[i]:=UG af af;have Al:=HI U gA.2 af af;have hw:Lp .i64 (gO (O.take i)*O[i])=gO (O.take i)*O[i]:=WE;by_cases ho:gO (O.take i)*O[i]<=729
  .have dc:¬(729:Int)<gO (O.take i)*O[i]:=af
   simp only[Z3,seval,-ae,J,hw,dc,l,gi l,zN,WX l];refine⟨_,af,i+1,af,rfl,?_,zEc l I J,?_⟩
   .rw[zBd l]
   .rw[zBd l];exact ho
  .have dc:(729:Int)<gO (O.take i)*O[i]:=af
   simp only[Z3,seval,-ae,J,hw,dc];refine no (λh=>?_) A
   have:=zMu h.2.2.2.1 (i+1)
   rw[zBd l]at this
   have:=h.2.2.2.2.1
   omega
 have aU:i=Lu O:=af
 subst aU;rw[Yf]at I U;refine zF (λm vs h'=>∃i:Nat,i<=Lu O/\m=Lu O-i/\vs=[.ptr σ.aM 0,.int .i64 (Lu O),.int .i64 (Lu O),.int .i64 i]/\h'=σ.bf [.fz E D (Lu O) (cS O),.fz w1 G (Lu P) rP,.fz L H (Lu C) rC]/\∀j,j<i->rowPr O P C j) (Lu O) ?_ ?_
 .exact⟨0,af,af,rfl,rfl,λj R=>af⟩
 rintro m vs h' ⟨i,hi,rfl,rfl,rfl,Y⟩
 refine Lk ?_;refine Ll (λX=>?_) λl=>?_
 .exact fin ⟨λ_=>⟨h6,xA,vi,I,U,λj R=>Y j af⟩,λ_=>rfl⟩ A
 have N:i<Lu P:=af
 have u:i<Lu C:=af
 obtain⟨w4,a4,hr⟩:=hP.rowI N;obtain⟨w5,a5,rs,cB,dz⟩:=hC.rowL u;have wU:=Dx.r _ (YZ N);have jH:=(xQ.r _ (YZ u)).l;have bad:(Zy O (i+1) P[i]->C[i].length=Lu O-1-i->(∀k (h:k<C[i].length),Zy O (i+1) C[i][k])->False)->¬qG O P C:=λhb dO=>by
  obtain⟨q1,q3,q4⟩:=dO.2.2.2.2.2 i l;rw[qJ N]at q1;rw[zM u]at q3;refine hb q1 q3 λk h=>?_
  have:=q4 k (by rw[zM u];exact h)
  rwa[zM u,zM h]at this
 simp only[Z3,seval,-ae,N,hr];refine zDp cJ xE sz.O I ⟨_,_,rfl⟩ wU l λt B=>?_;cases t with
 |false=>
  refine Lk ?_;exact no (bad λq _ _=>by cases B.2 q) A
 |true=>
 have hv:=B.1 rfl;have e1:Lp .i64 ((Lu O:Int)-1)=(Lu O:Int)-1:=WE;have e2:Lp .i64 ((Lu O:Int)-1-(i:Int))=(Lu O:Int)-1-(i:Int):=WE;by_cases hlen:C[i].length=Lu O-1-i;rotate_left
 .have V:¬(C[i].length:Int)=(Lu O:Int)-1-(i:Int):=af
  simp only[Z3,seval,-ae,l,u,cB,e1,e2,V];exact no (bad λ_ q _=>hlen q) A
 have V:(C[i].length:Int)=(Lu O:Int)-1-(i:Int):=af
 simp only[Z3,seval,-ae,l,u,cB,e1,e2,eq_true V];refine zF (λm vs h'=>∃k:Nat,k<=C[i].length/\m=C[i].length-k/\vs=[.ptr σ.aM 0,.int .i64 (Lu O),.int .i64 i,.int .i64 (Lu O),.int .i64 i,.fz w5 a5 C[i].length rs,.int .i64 C[i].length,.int .i64 k]/\
  h'=σ.bf [.fz E D (Lu O) (cS O),.fz w1 G (Lu P) rP,.fz L H (Lu C) rC]/\∀j (h:j<C[i].length),j<k->Zy O (i+1) C[i][j]) C[i].length ?_ ?_
 .exact⟨0,af,af,rfl,rfl,λj h R=>af⟩
 rintro m vs h' ⟨k,bF,rfl,rfl,rfl,Z⟩
 refine Lk ?_;refine de (λM=>?_) λX=>?_
 .obtain⟨w6,a6,cE⟩:=dz.rowI M;have bJ:=(xQ.r _ (YZ u)).r _ (YZ M);simp only[Z3,seval,-ae,M,cE];refine zDp cJ xE sz.O I ⟨_,_,rfl⟩ bJ l λt B=>?_;cases t with
  |false=>
   refine Lk ?_;exact no (bad λ_ _ q=>by cases B.2 (q k M)) A
  |true=>
   simp only[Z3,seval,-ae,WX M];refine⟨_,af,k+1,af,rfl,rfl,λj h R=>?_⟩;by_cases e:j=k
   .subst e;exact B.1 rfl
   .exact Z j h af
 .simp only[Z3,seval,-ae,WX l];refine⟨_,af,i+1,af,rfl,rfl,λj R=>?_⟩;by_cases e:j=i
  .subst e;refine⟨by rw[qJ N];exact hv,by rw[zM u];exact hlen,λt B=>?_⟩;rw[zM u]at B ⊢;rw[zM B];exact Z t B af
  .exact Y j af
end
end Go.Proofs
namespace Go.Grp
open Go.Ab Go.Lie
variable{d i:Nat}{O:V1}{P:V2}{C:V3}
section
variable{α:Type}{S:α->Prop}{m:α->α->α}{e:α}{h:Nat->α}
def zG4(s:jl O P C)(M:Mon S m e)(r:Rel O P C S m e h 0)(N:i<Lu O){x:V1}(R:TT O (i+1) x):
  TT O (i+1) (lD O C (mu O P C (Lu O-1-i)) i x)/\m (Ph O m e h (Lu O-1-i) x) (h i)=m (h i) (Ph O m e h (Lu O-1-i) (lD O C (mu O P C (Lu O-1-i)) i x)):=by
 have A:(Lu O)-(Lu O-1-i)=i+1:=af
 have G:(Lu O)-(i+1)=Lu O-1-i:=af
 have J:=r.mem i (YV _) N;have Q:∀{a b:V1},TT O (i+1) a->TT O (i+1) b->Ph O m e h (Lu O-1-i) (mu O P C (Lu O-1-i) a b)=m (Ph O m e h (Lu O-1-i) a) (Ph O m e h (Lu O-1-i) b):=λl u=>dyck s M r af (by rw[A];exact l) (by rw[A];exact u);have D:∀{a b:V1},TT O (i+1) a->TT O (i+1) b->TT O (i+1) (mu O P C (Lu O-1-i) a b):=λl u=>by have:=pb s (d:=(Lu O)-1-i) af (a:=_) (b:=_) (by rw[A];exact l) (by rw[A];exact u);rw[A]at this;exact this
 have B:∀x,S (Ph O m e h (Lu O-1-i) x):=λx=>Ph_in M r af x;have L:∀j,i+1<=j->j<i+1+(Lu O-1-i)->TT O (i+1) (du C i j):=λj l u=>s.cj i j af af;have E:TT O (i+1) (zv O):=s.zv _;obtain⟨H,I⟩:=Ph_fo M (T:=TT O (i+1)) (mm:=mu O P C (Lu O-1-i)) (F:=Ph O m e h (Lu O-1-i)) (λa b l u=>⟨D l u,Q l u⟩) (c:=du C i) (x:=nx x) L E;refine⟨H,?_⟩;unfold lD;rw[I,Ph_zv M,M.fo_eq (λj _ _=>B _) M.one,M.l1 (M.ph λj _ _=>B _)];show m (ph m e h (nx x) (Lu O-(Lu O-1-i)) (Lu O-1-i)) (h i)=_;rw[A];refine M.past_ph J λj l u=>⟨r.mem j af af,B _,?_⟩
 have:=r.cj i j (YV _) af af
 rw[G]at this;exact this
def zSD(s:jl O P C)(M:Mon S m e)(r:Rel O P C S m e h 0)(B:i<Lu O):∀(k:Nat) {x:V1},TT O (i+1) x->
  TT O (i+1) (iter (lD O C (mu O P C (Lu O-1-i)) i) k x)/\m (Ph O m e h (Lu O-1-i) x) (pw m e (h i) k)=m (pw m e (h i) k) (Ph O m e h (Lu O-1-i) (iter (lD O C (mu O P C (Lu O-1-i)) i) k x)):=by
 have l:=r.mem i (YV _) B;have u:∀x,S (Ph O m e h (Lu O-1-i) x):=λx=>Ph_in M r af x;intro k
 induction k with
 |zero=>exactλ{x} A=>⟨A,by show m _ e=m e _;rw[M.r1 (u x)];exact(M.l1 (u x)).symm⟩
 |succ k ik=>
  intro x A;obtain⟨D,E⟩:=zG4 s M r B A;obtain⟨G,H⟩:=ik D;refine⟨G,?_⟩;show m _ (m (pw m e (h i) k) (h i))=m (m (pw m e (h i) k) (h i)) (Ph O m e h _ (iter _ k (lD O C _ i x)));rw[M.pw_comm l,<-M.as (u _) l (M.pw l k),E,M.as l (u _) (M.pw l k),H,<-M.as l (M.pw l k) (u _)]
def Cons.of_rel(s:jl O P C)(G:Gp S m e)(r:Rel O P C S m e h 0)(inj:∀i,i<Lu O->∀x y,TT O (i+1) x->TT O (i+1) y->Ph O m e h (Lu O-1-i) x=Ph O m e h (Lu O-1-i) y->x=y)(low:∀i j x,i<j->j<Lu O->TT O (j+1) x->Ph O m e h (Lu O-1-i) x=Ph O m e h (Lu O-(j+1)) x)(un:∀i j,i<j->j<Lu O->Ph O m e h (Lu O-1-i) (unit O j)=h j):Cons O P C:=by
 have M:=G.toMon;intro i A;have Q:(Lu O)-(Lu O-1-i)=i+1:=af
 have V:(Lu O)-(i+1)=Lu O-1-i:=af
 have D:=r.mem i (YV _) A;have B:∀x,S (Ph O m e h (Lu O-1-i) x):=λx=>Ph_in M r af x;have T:∀{a b:V1},TT O (i+1) a->TT O (i+1) b->Ph O m e h (Lu O-1-i) (mu O P C (Lu O-1-i) a b)=m (Ph O m e h (Lu O-1-i) a) (Ph O m e h (Lu O-1-i) b):=λu l=>dyck s M r af (by rw[Q];exact u) (by rw[Q];exact l);have N:∀{a b:V1},TT O (i+1) a->TT O (i+1) b->TT O (i+1) (mu O P C (Lu O-1-i) a b):=λu l=>by have:=pb s (d:=(Lu O)-1-i) af (a:=_) (b:=_) (by rw[Q];exact u) (by rw[Q];exact l);rw[Q]at this;exact this
 have U:∀j,i<j->j<Lu O->m (h j) (h i)=m (h i) (Ph O m e h (Lu O-1-i) (du C i j)):=λj u l=>by have:=r.cj i j (YV _) u l;rw[V]at this;exact this
 have Y:∀{a:V1},TT O (i+1) a->∀k,TT O (i+1) (pw (mu O P C (Lu O-1-i)) (zv O) a k)/\Ph O m e h (Lu O-1-i) (pw (mu O P C (Lu O-1-i)) (zv O) a k)=pw m e (Ph O m e h (Lu O-1-i) a) k:=λ{a} W k=>by
  induction k with
  |zero=>exact⟨s.zv _,Ph_zv M _⟩
  |succ k ik=>exact⟨N ik.1 W,by show Ph O m e h _ (mu O P C _ (pw _ _ a k) a)=m _ _;rw[T ik.1 W,ik.2]⟩
 have Z:∀j,i<j->j<Lu O->∀k,m (pw m e (h j) k) (h i)=m (h i) (pw m e (Ph O m e h (Lu O-1-i) (du C i j)) k):=λj u l k=>by
  have I:=r.mem j (YV _) l
  induction k with
  |zero=>show m e (h i)=m (h i) e;rw[M.l1 D,M.r1 D]
  |succ k ik=>
   show m (m (pw m e (h j) k) (h j)) (h i)=m (h i) (m (pw m e _ k) _);rw[M.as (M.pw I k) I D,U j u l,<-M.as (M.pw I k) D (B _),ik,M.as D (M.pw (B _) k) (B _)]
 have J:∀j,i<j->j<Lu O->TT O (i+1) (du C i j):=λj u l=>s.cj i j u l;have L:∀j,i<=j->j<Lu O->TT O (i+1) (eM P j):=λj u l=>(s.pw j l).mono af;refine⟨λj u l=>?_,λj k u l H=>?_,?_,λj u l=>?_⟩
 .obtain⟨a1,a2⟩:=Y (J j u l) (nx O j);obtain⟨b1,E⟩:=zG4 s M r A (L j af l);refine inj i A _ _ a1 b1 (G.cancel D (B _) (B _) ?_);rw[a2,<-Z j u l,<-E,low i j _ u l (s.pw j l),r.pow j (YV _) l]
 .have tc:TT O (i+1) (du C j k):=(s.cj j k l H).mono af;obtain⟨b1,E⟩:=zG4 s M r A tc;have I:=r.mem j (YV _) af;have X:=r.mem k (YV _) H;refine inj i A _ _ (N (J k af H) (J j u af)) (N (J j u af) b1) (G.cancel D (B _) (B _) ?_);rw[T (J k af H) (J j u af),T (J j u af) b1,<-M.as D (B _) (B _),<-U k af H,M.as X D (B _),<-U j u af,<-M.as X I D,<-M.as D (B _) (B _),<-U j u af,M.as I D (B _),<-E,<-M.as I (B _) D,r.cj j k (YV _) l H,low i j _ u af (s.cj j k l H)]
 .obtain⟨b1,E⟩:=zG4 s M r A (L i (na _) A);have R:=r.pow i (YV _) A;rw[V]at R;refine inj i A _ _ b1 (L i (na _) A) (G.cancel D (B _) (B _) ?_);rw[<-E,<-R,M.pw_comm D]
 .obtain⟨b1,E⟩:=zSD s M r A (nx O i) (s.unit l af:TT O (i+1) (unit O j));have R:=r.pow i (YV _) A;rw[V]at R;refine inj i A _ _ (N (L i (na _) A) b1) (N (s.unit l af) (L i (na _) A)) ?_;rw[T (L i (na _) A) b1,T (s.unit l af) (L i (na _) A),<-R,E]
end
end Go.Grp
namespace Go.Proofs
open Go.Ab Go.Lie Go.Grp
variable{σ:cg}{vC vO vP vx:PV}{K:PV->cg->Prop}{O x:V1}{P:V2}{C:V3}
section
def zAj{t:Nat}{z:Int}(Y:z=(t:Int)-1)(ht:t<=Lu O)(W:FI vO O)(Z:(Lu O)<=1048576)(V:∀o∈O,jF o)(X:FI vx x)(hb:(Lu x)<=1048576)(E:∀b:Bool,(b=DF↔Zy O t x)->K (.bool b) σ):zA Li 89 [vO,vx,.int .i64 z] σ K:=by
 have M:=@Lm
 obtain⟨Q,J,rfl⟩:=W;obtain⟨R,L,rfl⟩:=X;subst Y;refine qH mix Tryz.func89 ?_;refine Lk ?_;refine Ll (λG=>?_) λG=>?_
 .exact E _ (M λh=>G (by rw[h.1.1]))
 have G:(Lu x)=Lu O:=af
 refine zF (λm vs h'=>∃i:Nat,i<=Lu x/\m=Lu x-i/\vs=[.fz Q J (Lu O) (cS O),.fz R L (Lu x) (cS x),.int .i64 ((t:Int)-1),.int .i64 i]/\σ=h'/\∀j,j<i->(0<=at_ x j/\at_ x j<=at_ O j-1)/\(j<t->at_ x j=0)) (Lu x) ?_ ?_
 .exact⟨0,af,af,rfl,rfl,λj N=>af⟩
 rintro m vs h' ⟨i,hi,rfl,rfl,rfl,I⟩
 refine Lk ?_;refine Ll (λaG=>?_) λl=>?_
 .refine E _ ⟨λ_=>⟨⟨G,λj N=>(I j af).1⟩,λy T=>?_⟩,λ_=>rfl⟩;rw[UB]at T;obtain⟨j,N,rfl⟩:=T
  have:=(I j af).2 af
  rwa[dp af]at this
 have D:i<Lu O:=af
 have bo:=(V _ (YZ D)).bd;simp only[Z3,seval,-ae,l,D,gi l,gi D,zN,fl (n:=O[i] - 1) af af];refine zCI ?_;by_cases u:0<=x[i]/\x[i]<=O[i] - 1;rotate_left
 .simp only[Z3,seval,-ae,u];exact E _ (M λh=>u (by have:=h.1.2 i l;rwa[dp l,dp D]at this))
 have next:(i<t->x[i]=0)->∃U,U<Lu x-i/\∃H:Nat,H<=Lu x/\U=Lu x-H/\[PV.fz Q J (Lu O) (cS O),.fz R L (Lu x) (cS x),.int .i64 ((t:Int)-1),.int .i64 ((i+1:Nat):Int)]=[.fz Q J (Lu O) (cS O),.fz R L (Lu x) (cS x),.int .i64 ((t:Int)-1),.int .i64 H]/\∀j,j<H->(0<=at_ x j/\at_ x j<=at_ O j-1)/\(j<t->at_ x j=0):=λB=>by
  refine⟨_,af,i+1,af,rfl,rfl,λj N=>?_⟩;by_cases e:j=i
  .subst e;rw[dp l,dp D];exact⟨u,B⟩
  .exact I j af
 by_cases hle:(i:Int)<=(t:Int)-1
 .simp only[Z3,seval,-ae,u,hle,l,gi l,zN];refine de (λB=>?_) λB=>?_
  .simp only[Z3,seval,-ae,WX l];exact next λ_=>B
  .refine E _ (M λh=>B ?_);exact h.2 _ (by rw[UB];exact⟨i,af,rfl⟩)
 .simp only[Z3,seval,-ae,u,hle,l,WX l];exact next λh=>absurd h af
def zDw(G:FI vO O)(N:(Lu O)<=6)(u:∀o∈O,jF o)(H:∀r:Int,(r<=729↔gO O<=729)->K (.int .i64 r) σ):zA Li 213 [vO] σ K:=by
 obtain⟨M,D,rfl⟩:=G;refine Lg Tryz.func213 ?_;refine Lk ?_;refine zF (λm vs h'=>∃(i:Nat) (r:Int),i<=Lu O/\m=Lu O-i/\vs=[.fz M D (Lu O) (cS O),.int .i64 r,.int .i64 i]/\σ=h'/\(r=gO (O.take i)\/(729<r/\729<gO (O.take i)))) (Lu O) ?_ ?_
 .exact⟨0,1,af,af,rfl,rfl,.inl (by simp[gO])⟩
 rintro m vs h' ⟨i,r,U,rfl,rfl,rfl,L⟩
 refine Lk ?_;refine Ll (λR=>?_) λl=>?_
 .have aU:i=Lu O:=af
  subst aU;rw[Yf]at L;exact H _ af
 have E:∀o∈O.take i,jF o:=λo I=>u o (UY I);have T:=zBL E;have J:=u _ (YZ l);have A:=J.bd;have hs:=zBd l;refine de (λhle=>?_) λQ=>?_
 .have yR:r=gO (O.take i):=af
  subst yR;have V:0<=gO (O.take i)*O[i]:=UG af af;have B:=HI hle A.2 af af;simp only[Z3,seval,-ae,l,gi l,zN,fl (n:=gO (O.take i)*O[i]) af af,WX l];exact⟨_,af,i+1,_,af,rfl,rfl,.inl hs.symm⟩
 .simp only[Z3,seval,-ae,WX l];refine⟨_,af,i+1,_,af,rfl,rfl,.inr ⟨af,?_⟩⟩;have B:=HI (UA (gO (O.take i))) A.1 af af;omega
def QR(hR:dU vO vP vC O P C)(sz:SzP O P C)(hk:∀t:Bool,(t=DF↔qG O P C)->K (.bool t) σ):zA Li 165 [.agg [vO,vP,vC]] σ K:=by
 have Y:=hR.O;have Dx:=sz.P;have xQ:=sz.C;obtain⟨⟨T,I,rfl⟩,⟨w1,J,rP,rfl,hP⟩,⟨U,L,rC,rfl,hC⟩⟩:=hR;refine zA.gh ?_;have fin:∀{t:Bool} {σ':cg},(t=DF↔qG O P C)->cT σ σ'->Gh σ K (.bool t) σ':=λh k=>Gh.fin0 k trivial (hk _ h);have no:∀{σ':cg},¬qG O P C->cT σ σ'->Gh σ K (.bool false) σ':=λh k=>fin ⟨λx=>(by cases x),λx=>absurd x h⟩ k;have A:=zC σ [.fz T I (Lu O) (cS O),.fz w1 J (Lu P) rP,.fz U L (Lu C) rC];refine qH mix Tryz.func165 ?_;refine Lk ?_;by_cases W:(Lu O)<=6;rotate_left
 .have H:(6:Int)<(Lu O:Int):=af
  simp only[Z3,seval,-ae,H];exact no (λh=>W h.1) A
 have H:¬(6:Int)<(Lu O:Int):=af
 by_cases xA:(Lu P)=Lu O;rotate_left
 .have R:¬(Lu P:Int)=(Lu O:Int):=af
  simp only[Z3,seval,-ae,H,R];exact no (λh=>xA h.2.1) A
 have R:(Lu P:Int)=(Lu O:Int):=af
 by_cases vi:(Lu C)=Lu O;rotate_left
 .have X:¬(Lu C:Int)=(Lu O:Int):=af
  simp only[Z3,seval,-ae,H,eq_true R,X];exact no (λh=>vi h.2.2.1) A
 have X:(Lu C:Int)=(Lu O:Int):=af
 simp only[Z3,seval,-ae,H,eq_true R,eq_true X];refine zF (λm vs h'=>∃i:Nat,i<=Lu O/\m=Lu O-i/\vs=[.ptr σ.aM 0,.int .i64 (Lu O),.int .i64 i]/\h'=σ.bf [.fz T I (Lu O) (cS O),.fz w1 J (Lu P) rP,.fz U L (Lu C) rC]/\(∀o∈O.take i,jF o)) (Lu O) ?_ ?_
 .exact⟨0,af,af,rfl,rfl,aK⟩
 rintro m vs h' ⟨i,hi,rfl,rfl,rfl,D⟩
 refine Lk ?_;refine de (λu=>?_) λZ=>?_
 .simp only[Z3,seval,-ae,u,gi u,zN];refine zBH ?_;by_cases Q:jF O[i];rotate_left
  .simp only[Z3,seval,-ae,Q];exact no (λh=>Q (h.2.2.2.1 _ (YZ u))) A
  simp only[Z3,seval,-ae,Q,WX u];exact⟨_,af,i+1,af,rfl,rfl,zEc u D Q⟩
 have aU:i=Lu O:=af
 subst aU;rw[Yf]at D;refine Lk ?_;refine zDw Y W D λr hr=>?_;by_cases cN:gO O<=729;rotate_left
 .have:(729:Int)<r:=af
  simp only[Z3,seval,-ae,this];exact no (λh=>cN h.2.2.2.2.1) A
 have:¬(729:Int)<r:=af
 simp only[Z3,seval,-ae,this];refine zF (λm vs h'=>∃i:Nat,i<=Lu O/\m=Lu O-i/\vs=[.ptr σ.aM 0,.int .i64 (Lu O),.int .i64 i]/\h'=σ.bf [.fz T I (Lu O) (cS O),.fz w1 J (Lu P) rP,.fz U L (Lu C) rC]/\∀j,j<i->rowPr O P C j) (Lu O) ?_ ?_
 .exact⟨0,af,af,rfl,rfl,λj N=>af⟩
 rintro m vs h' ⟨i,hi,rfl,rfl,rfl,aN⟩
 refine Lk ?_;refine Ll (λZ=>?_) λu=>?_
 .exact fin ⟨λ_=>⟨W,xA,vi,D,cN,λj N=>aN j af⟩,λ_=>rfl⟩ A
 have G:i<Lu P:=af
 have l:i<Lu C:=af
 obtain⟨w4,a4,hr⟩:=hP.rowI G;obtain⟨w5,a5,rs,M,dz⟩:=hC.rowL l;have wU:=Dx.r _ (YZ G);have jH:=(xQ.r _ (YZ l)).l;have bad:(Zy O (i+1) P[i]->C[i].length=Lu O-1-i->(∀k (h:k<C[i].length),Zy O (i+1) C[i][k])->False)->¬qG O P C:=λhb dO=>by
  obtain⟨q1,q3,q4⟩:=dO.2.2.2.2.2 i u;rw[qJ G]at q1;rw[zM l]at q3;refine hb q1 q3 λk h=>?_
  have:=q4 k (by rw[zM l];exact h)
  rwa[zM l,zM h]at this
 simp only[Z3,seval,-ae,G,hr];refine zAj (t:=i+1) af af Y sz.O D ⟨_,_,rfl⟩ wU λt B=>?_;cases t with
 |false=>
  refine Lk ?_;exact no (bad λq _ _=>by cases B.2 q) A
 |true=>
 have hv:=B.1 rfl;have e1:Lp .i64 ((Lu O:Int)-1)=(Lu O:Int)-1:=WE;have e2:Lp .i64 ((Lu O:Int)-1-(i:Int))=(Lu O:Int)-1-(i:Int):=WE;by_cases hlen:C[i].length=Lu O-1-i;rotate_left
 .have V:¬(C[i].length:Int)=(Lu O:Int)-1-(i:Int):=af
  simp only[Z3,seval,-ae,u,l,M,e1,e2,V];exact no (bad λ_ q _=>hlen q) A
 have V:(C[i].length:Int)=(Lu O:Int)-1-(i:Int):=af
 simp only[Z3,seval,-ae,u,l,M,e1,e2,eq_true V];refine zF (λm vs h'=>∃k:Nat,k<=C[i].length/\m=C[i].length-k/\vs=[.ptr σ.aM 0,.int .i64 (Lu O),.int .i64 i,.int .i64 k]/\
  h'=σ.bf [.fz T I (Lu O) (cS O),.fz w1 J (Lu P) rP,.fz U L (Lu C) rC]/\∀j (h:j<C[i].length),j<k->Zy O (i+1) C[i][j]) C[i].length ?_ ?_
 .exact⟨0,af,af,rfl,rfl,λj h N=>af⟩
 rintro m vs h' ⟨k,bF,rfl,rfl,rfl,bc⟩
 simp only[Z3,seval,-ae,l,M];refine de (λE=>?_) λZ=>?_
 .obtain⟨w6,a6,cE⟩:=dz.rowI E;have bJ:=(xQ.r _ (YZ l)).r _ (YZ E);simp only[Z3,seval,-ae,l,M,E,cE];refine zAj (t:=i+1) af af Y sz.O D ⟨_,_,rfl⟩ bJ λt B=>?_;cases t with
  |false=>
   refine Lk ?_;exact no (bad λ_ _ q=>by cases B.2 (q k E)) A
  |true=>
   simp only[Z3,seval,-ae,WX E];refine⟨_,af,k+1,af,rfl,rfl,λj h N=>?_⟩;by_cases e:j=k
   .subst e;exact B.1 rfl
   .exact bc j h af
 .simp only[Z3,seval,-ae,WX u];refine⟨_,af,i+1,af,rfl,rfl,λj N=>?_⟩;by_cases e:j=i
  .subst e;refine⟨by rw[qJ G];exact hv,by rw[zM l];exact hlen,λt B=>?_⟩;rw[zM l]at B ⊢;rw[zM B];exact bc t B af
  .exact aN j af
variable{s:Nat}{rP rC:List PV}
def gd{i:Nat}(h:i<Lu x):(cS x)[i]? = Dc (.int .i64 (at_ x i)):=by rw[zN,gi h,dp h];rfl
def CU(s:jl O P C)(A:dd FI rP P){i:Nat}(u:i<Lu O):∃w a,rP[i]? = Dc (.fz w a (Lu O) (cS (eM P i))):=by
 have l:i<Lu P:=by rw[s.pl];exact u
 obtain⟨w,a,h⟩:=A.rowI l;refine⟨w,a,?_⟩;have e:eM P i=P[i]:=qJ l;rw[h,e,show P[i].length=(Lu O) by rw[<-e];exact(s.pw i u).len]
def AI(s:jl O P C)(G:dd jj rC C){i:Nat}(D:i<Lu O):∃w a rs,rC[i]? = Dc (.fz w a (Lu O-1-i) rs)/\∀q,q<Lu O-1-i->∃l a',rs[q]? = Dc (.fz l a' (Lu O) (cS (du C i (i+(1+q))))):=by
 have A:i<Lu C:=by rw[s.cl];exact D
 obtain⟨w,a,rs,h,E⟩:=G.rowL A;have e:C.getD i []=C[i]:=zM A;have H:C[i].length=Lu O-1-i:=by rw[<-e];exact s.row i D
 refine⟨w,a,rs,by rw[h,H],λq I=>?_⟩;have u:q<C[i].length:=af
 obtain⟨l,a',h'⟩:=E.rowI u;have B:du C i (i+(1+q))=C[i][q]:=by
  show(C.getD i []).getD (i+(1+q)-i-1) []=_
  rw[e,show i+(1+q)-i-1=q by omega];exact qJ u
 exact⟨l,a',by rw[h',B,show C[i][q].length=(Lu O) by rw[<-B];exact(s.cj i _ af af).len]⟩
def FI.mk{w:Bool}{a:AV}{n:Nat}(h:(Lu x)=n):FI (.fz w a n (cS x)) x:=⟨w,a,by rw[h]⟩
def AtOK(O:V1)(P:V2)(C:V3)(d i:Nat):Prop:=
 ∀{σ:cg} {K:PV->cg->Prop} {a b:V1} {va vb vO vP vC:PV},dU vO vP vC O P C->TT O i a->TT O i b->FI va a->FI vb b->(∀v,FI v (mu O P C d a b)->K v σ)->zA Li 216 [.agg [vO,vP,vC],.int .i64 i,va,vb] σ K
def zAD(s:jl O P C){d i:Nat}(hi:(Lu O)=d+(i+1))(gH:AtOK O P C d (i+1))(R:dU vO vP vC O P C)(V:TT O 0 x)(bm:FI vx x)(T:∀v,FI v (Grp.lD O C (mu O P C d) i x)->K v σ):
  zA Li 249 [.agg [vO,vP,vC],.int .i64 i,vx] σ K:=by
 have aX:=s.le;have Y:=R;have U:=V.len;have E:i<Lu O:=af
 have hm:∀a b,TT O (i+1) a->TT O (i+1) b->TT O (i+1) (mu O P C d a b):=λa b ha hb=>by
  have:=pb s (d:=d) (a:=a) (b:=b) af (by rwa[show (Lu O)-d=i+1 by omega]) (by rwa[show (Lu O)-d=i+1 by omega])
  rwa[show (Lu O)-d=i+1 by omega]at this
 obtain⟨⟨M,G,rfl⟩,⟨w1,H,rP,rfl,hP⟩,⟨N,I,rC,rfl,hC⟩⟩:=R;obtain⟨w5,a5,rs,cB,dz⟩:=AI s hC E;have bX:i<Lu C:=by rw[s.cl];exact E
 obtain⟨X,Q,rfl⟩:=bm;rw[U];refine Lh Tryz.func249 ?_;simp only[Z3,seval,-ae,YL,zh,uK (n:=(Lu O)) af,tn (n:=(Lu O)) af,WX E];have Z:cT σ (((σ.bf [.fz M G (Lu O) (cS O),.fz w1 H (Lu P) rP,.fz N I (Lu C) rC]).bf (cS (zv O))).kill (σ.aM+1)):=((zC σ _).bf _).kill af;refine Zg (λm vs h'=>∃(q:Nat) (u:PV) (A:V1),q<=d/\m=d-q/\vs=[.int .i64 i,.fz X Q (Lu O) (cS x),.ptr σ.aM 0,.int .i64 (Lu O),u,.int .i64 ((i+(1+q):Nat):Int)]/\
  h'=((σ.bf [.fz M G (Lu O) (cS O),.fz w1 H (Lu P) rP,.fz N I (Lu C) rC]).bf (cS (zv O))).kill (σ.aM+1)/\FI u A/\TT O (i+1) A/\fo (mu O P C d) (du C i) (nx x) (i+(1+q)) (d-q) A=Grp.lD O C (mu O P C d) i x) d ?_ ?_
 .refine .fz (σ.aM+1) (cS (zv O)) (by simp only[Z3,seval,-ae]) (zL _ _) λo1=>.here ?_;refine⟨0,.fz DF (.sl o1 0 (Lu O) (.b6 (Lu O))) (Lu O) (cS (zv O)),zv O,af,af,?_,rfl,FI.mk aK,s.zv _,?_⟩
  .refine Lk ?_;simp only[kq,sb,gk,na,decide_true,and_self,if_true]
  .show _=fo _ _ _ (i+1) (Lu O-1-i) (zv O);rw[show (Lu O)-1-i=d by omega];rfl
 rintro m vs h' ⟨q,u,A,hq,rfl,rfl,rfl,B,D,l⟩
 refine Lk ?_;refine Ll (λaG=>?_) λah=>?_
 .have W:q=d:=af
  subst W;rw[Yk]at l
  have:A=Grp.lD O C (mu O P C q) i x:=l
  rw[<-this]at T;exact Gh.fin0 Z (B.bel _) (T _ B)
 have W:q<d:=af
 have L:i+(1+q)<Lu x:=af
 have bx:=V.bd (i+(1+q)) af;have bO:=s.pr (i+(1+q)) af;obtain⟨w6,a6,cE⟩:=dz q af;have jv:q<Lu O-1-i:=af
 have J:=s.cj i (i+(1+q)) af af;have e3:Lp .i64 (((i+(1+q):Nat):Int)-(i:Int))=((1+q:Nat):Int):=WQ
 have e4:Lp .i64 (((1+q:Nat):Int)-1)=(q:Int):=WQ
 have e5:Lp .i64 (((i+(1+q):Nat):Int)+1)=((i+(1+(q+1)):Nat):Int):=WQ
 rw[show d-q=(d-q-1)+1 by omega]at l;refine zF (λm vs h'=>∃(k:Nat) (u:PV) (A:V1),k<=nx x (i+(1+q))/\m=nx x (i+(1+q))-k/\vs=[.int .i64 i,.fz X Q (Lu O) (cS x),.ptr σ.aM 0,.int .i64 (Lu O),u,.int .i64 ((i+(1+q):Nat):Int),.int .i64 k]/\
  h'=((σ.bf [.fz M G (Lu O) (cS O),.fz w1 H (Lu P) rP,.fz N I (Lu C) rC]).bf (cS (zv O))).kill (σ.aM+1)/\FI u A/\TT O (i+1) A/\fo (mu O P C d) (du C i) (nx x) (i+(1+q)+1) (d-q-1) (C8 (mu O P C d) (du C i (i+(1+q))) (nx x (i+(1+q))-k) A)=Grp.lD O C (mu O P C d) i x) (nx x (i+(1+q))) ?_ ?_
 .exact⟨0,u,A,af,af,rfl,rfl,B,D,l⟩
 rintro m vs h' ⟨k,u,A,bM,rfl,rfl,rfl,B,D,l⟩
 have cb:((nx x (i+(1+q)):Nat):Int)=at_ x (i+(1+q)):=YD bx.1;simp only[Z3,seval,-ae,gd L,L,U ▸ L];refine de (λaD=>?_) λeQ=>?_
 .have bN:k<nx x (i+(1+q)):=af
  simp only[Z3,seval,-ae,WX E,bX,cB,e3,e4,jv,cE];refine gH Y D J B (FI.mk J.len) λv hv=>?_;simp only[Z3,seval,-ae,gX bN (af:nx x (i+(1+q))<=4611686018427387904)];refine⟨_,af,k+1,v,_,af,rfl,rfl,hv,hm _ _ D J,?_⟩;rw[show nx x (i+(1+q))-k=(nx x (i+(1+q))-(k+1))+1 by omega]at l;exact l
 .have eg:k=nx x (i+(1+q)):=af
  subst eg;simp only[Z3,seval,-ae,e5];refine⟨d-(q+1),af,.here ⟨q+1,u,A,af,rfl,rfl,rfl,B,D,?_⟩⟩;rw[Yk]at l;rw[show d-(q+1)=d-q-1 by omega];exact l
def zCG(s:jl O P C):∀{d i:Nat},(Lu O)=d+i->AtOK O P C d i
 |0,i,hi=>by
  rename_i σ K a b va vb vO vP vC;intro I D E eH eV B;have aX:=s.le;obtain⟨⟨w0,a0,rfl⟩,⟨w1,a1,rP,rfl,hP⟩,⟨w3,a3,rC,rfl,hC⟩⟩:=I;refine zA.gh ?_;have R:(Lu O:Int)<=(i:Int):=af
  refine Lg Tryz.func216 ?_;simp only[Z3,seval,-ae,R,YL,zh,uK (n:=(Lu O)) af,tn (n:=(Lu O)) af];exact Gh.finF (s:=σ.aM+1) ((zC σ _).bf _) (by refine Lk ?_;rfl) af (zL _ _) (by simp[gk]) λL=>B _ (FI.mk (by simp[mu]))
 |d+1,i,hi=>by
  rename_i σ K a b va vb vO vP vC;intro I D E eH eV B;have V:AtOK O P C d (i+1):=zCG s af;have aX:=s.le;have T:=I;have l:i<Lu O:=af
  have hO:=s.pr i l;have db:=D.len;have jH:=E.len;have ba:=D.bd i l;have bb:=E.bd i l;have aL:=s.pos l;have NZ:(Lu O)-(d+1)=i:=af
  have X:∀a b,TT O (i+1) a->TT O (i+1) b->TT O (i+1) (mu O P C d a b):=λa b D E=>by
   have:=pb s (d:=d) (a:=a) (b:=b) af (by rwa[show (Lu O)-d=i+1 by omega]) (by rwa[show (Lu O)-d=i+1 by omega])
   rwa[show (Lu O)-d=i+1 by omega]at this
  obtain⟨⟨w0,a0,rfl⟩,⟨w1,a1,rP,rfl,hP⟩,⟨w3,a3,rC,rfl,hC⟩⟩:=I;obtain⟨w5,a5,cN⟩:=CU s hP l;have dA:i<Lu P:=by rw[s.pl];exact l
  have U:=s.pw i l;obtain⟨wa,aa,rfl⟩:=eH;obtain⟨wb,ab,rfl⟩:=eV;have G:i<Lu a:=af
  have u:i<Lu b:=af
  have R:¬(Lu O:Int)<=(i:Int):=af
  have sa:=D.set0 l aL;have N:=E.set0 l aL;have Pv:=sa.len;have Pu:=N.len;refine Lh Tryz.func216 ?_;simp only[Z3,seval,-ae,R];refine qw rfl af λbD fT=>?_;refine Lk ?_;refine qw rfl af λbn c8=>?_;have g1:i<Lu a/\i+1<=Lu a:=⟨G,G⟩;have g2:i<Lu b/\i+1<=Lu b:=⟨u,u⟩;simp only[Z3,seval,-ae,g1.1,g1.2,g2.1,g2.2,zJ,zX G,zX u];refine Zg (λm vs h'=>∃(k:Nat) (vl M:PV) (A:V1),k<=nx b i/\m=nx b i-k/\vs=[.int .i64 i,.fz wa aa (Lu a) (cS a),.fz wb ab (Lu b) (cS b),.ptr σ.aM 0,vl,M,.int .i64 k]/\
   h'=((((σ.bf [.fz w0 a0 (Lu O) (cS O),.fz w1 a1 (Lu P) rP,.fz w3 a3 (Lu C) rC]).bf (cS (a.set i 0))).bf (cS (b.set i 0))).kill (σ.aM+1)).kill (σ.aM+2)/\FI vl A/\FI M (b.set i 0)/\TT O (i+1) A/\iter (Grp.lD O C (mu O P C d) i) (nx b i-k) A=iter (Grp.lD O C (mu O P C d) i) (nx b i) (a.set i 0)) (nx b i) ?_ ?_
  .refine .fz (σ.aM+1) (cS (a.set i 0)) (by simp only[Z3,seval,-ae]) (zL _ _) λL=>.fz (σ.aM+2) (cS (b.set i 0)) (by simp only[Z3,seval,-ae]) (zL _ _) λo2=>.here ?_;refine⟨0,.fz DF (.sl L 0 (Lu a) bD) (Lu a) (cS (a.set i 0)),.fz DF (.sl o2 0 (Lu b) bn) (Lu b) (cS (b.set i 0)),a.set i 0,af,af,?_,rfl,FI.mk aK,FI.mk aK,sa,rfl⟩;refine Lk ?_;have k1:=fT.ok;have k2:=c8.ok;have an:¬(σ.aM+2=σ.aM+1):=af
   simp only[kq,sb,k1,k2,an,false_and,if_false,na,decide_true,and_self,if_true];rfl
  rintro m vs h' ⟨k,vl,M,A,bM,rfl,rfl,rfl,iq,HM,W,H⟩
  have cb:((nx b i:Nat):Int)=at_ b i:=YD bb.1;have Iu:=fT.ok;simp only[Z3,seval,-ae,gd u,u];refine de (λah=>?_) λeQ=>?_
  .have bN:k<nx b i:=af
   refine Lk ?_;refine zAD s af V T (W.mono (YV _)) iq λv J=>?_;simp only[Z3,seval,-ae,WX bN];refine⟨nx b i-(k+1),af,.here ⟨k+1,v,M,_,af,rfl,rfl,rfl,J,HM,zAF s X _,?_⟩⟩;rw[show nx b i-k=(nx b i-(k+1))+1 by omega]at H;exact H
  have eg:k=nx b i:=af
  subst eg;rw[Yk]at H;have Ba:A=iter (Grp.lD O C (mu O P C d) i) (nx b i) (a.set i 0):=H;subst Ba;simp only[Z3,seval,-ae,WX l];have Y:=X _ _ W N;have La:=Y.len;refine V T W N iq HM λv J=>?_;have kL:Lp .i64 (at_ a i+at_ b i)=at_ a i+at_ b i:=WE;have Q:i<Lu O:=l;simp only[Z3,seval,-ae,gd G,gd u,G,u,gd l,Q,kL];have H8:∀c e:V1,(if at_ a i+at_ b i ≥ at_ O i then(mu O P C d (eM P i) (mu O P C d (iter (Grp.lD O C (mu O P C d) i) (nx b i) (a.set i 0)) (b.set i 0))).set i (at_ a i+at_ b i-at_ O i)else(mu O P C d (iter (Grp.lD O C (mu O P C d) i) (nx b i) (a.set i 0)) (b.set i 0)).set i (at_ a i+at_ b i))=mu O P C (d+1) a b:=λ_ _=>by
   simp only[mu,NZ]
  refine de (λuV=>?_) λbN=>?_
  .have cG:Lp .i64 (at_ a i+at_ b i-at_ O i)=at_ a i+at_ b i-at_ O i:=WE;have e:=H8 a b;rw[DK uV]at e;simp only[Z3,seval,-ae,gd l,Q,cG,WX l,dA,cN];have rU:=X _ _ U Y;have tN:i<(mu O P C d (eM P i) (mu O P C d (iter (Grp.lD O C (mu O P C d) i) (nx b i) (a.set i 0)) (b.set i 0))).length:=by rw[rU.len];exact l
   refine V T U Y (FI.mk U.len) J λv2 cA=>?_;obtain⟨w7,a7,rfl⟩:=cA;simp only[Z3,seval,-ae,gd l,Q,cG,WX l,dA,cN];refine qw rfl (by have:=rU.len;omega) λiV Z=>?_;simp only[Z3,seval,-ae,tN,UX tN,zJ,zX tN];rw[<-e]at B;exact Gh.finF (s:=σ.aM+1+2) ((((((zC σ _).bf _).bf _).kill af).kill af).bf _) (by simp only[Z3,seval,-ae]) af (zL _ _) Z.ok λL=>B _ (FI.mk aK)
  .have e:=H8 a b;rw[DL af]at e;have tM:i<(mu O P C d (iter (Grp.lD O C (mu O P C d) i) (nx b i) (a.set i 0)) (b.set i 0)).length:=by rw[La];exact l
   obtain⟨w7,a7,rfl⟩:=J;refine Lk ?_;refine qw rfl af λiV Z=>?_;simp only[Z3,seval,-ae,tM,UX tM,zJ,zX tM];rw[<-e]at B;exact Gh.finF (s:=σ.aM+1+2) ((((((zC σ _).bf _).bf _).kill af).kill af).bf _) (by simp only[Z3,seval,-ae]) af (zL _ _) Z.ok λL=>B _ (FI.mk aK)
def pw_sq{α:Type}{S:α->Prop}{m:α->α->α}{e:α}(M:Mon S m e){x:α}(l:S x):∀q,Grp.pw m e (m x x) q=Grp.pw m e x (q+q)
 |0=>rfl
 |q+1=>by
  rw[show q+1+(q+1)=(q+q)+1+1 by omega];show m (Grp.pw m e (m x x) q) (m x x)=m (m (Grp.pw m e x (q+q)) x) x;rw[pw_sq M l q,M.as (M.pw l _) l l]
def zSq{α:Type}{S:α->Prop}{m:α->α->α}{e:α}(M:Mon S m e){x:α}(l:S x)(q:Nat):m x (Grp.pw m e (m x x) q)=Grp.pw m e x (q+q+1):=by
 rw[pw_sq M l q];exact(M.pw_comm l _).symm
def zEP(s:jl O P C){d i:Nat}(hi:(Lu O)=d+i)(L:AtOK O P C d i)(M:Mon (TT O i) (mu O P C d) (zv O))(Z:dU vO vP vC O P C)(hx:TT O i x)(Y:FI vx x){k:Int}(ez:0<=k/\k<=1000)
  (hk:∀v,FI v (pw (mu O P C d) (zv O) x k.toNat)->K v σ):zA Li 217 [.agg [vO,vP,vC],.int .i64 i,vx,.int .i64 k] σ K:=by
 have aX:=s.le;have I:=Z;obtain⟨u,rfl⟩:∃u:Nat,k=u:=⟨k.toNat,af⟩
 obtain⟨⟨w0,V,rfl⟩,⟨w1,W,rP,rfl,hP⟩,⟨w3,X,rC,rfl,hC⟩⟩:=Z;refine Lh Tryz.func217 ?_;simp only[Z3,seval,-ae,YL,zh,uK (n:=(Lu O)) af,tn (n:=(Lu O)) af];have ar:cT σ (((σ.bf [.fz w0 V (Lu O) (cS O),.fz w1 W (Lu P) rP,.fz w3 X (Lu C) rC]).bf (cS (zv O))).kill (σ.aM+1)):=((zC σ _).bf _).kill af;refine Zg (λm vs h'=>∃(k:Nat) (H vb:PV) (A b:V1),k<=1000/\m=k/\vs=[.int .i64 i,.int .i64 k,.ptr σ.aM 0,H,vb]/\
  h'=((σ.bf [.fz w0 V (Lu O) (cS O),.fz w1 W (Lu P) rP,.fz w3 X (Lu C) rC]).bf (cS (zv O))).kill (σ.aM+1)/\FI H A/\FI vb b/\TT O i A/\TT O i b/\mu O P C d A (pw (mu O P C d) (zv O) b k)=pw (mu O P C d) (zv O) x u) u ?_ ?_
 .refine .fz (σ.aM+1) (cS (zv O)) (by simp only[Z3,seval,-ae]) (zL _ _) λo1=>.here ?_;refine⟨u,.fz DF (.sl o1 0 (Lu O) (.b6 (Lu O))) (Lu O) (cS (zv O)),vx,zv O,x,af,rfl,?_,rfl,FI.mk aK,Y,s.zv _,hx,M.l1 (M.pw hx _)⟩;refine Lk ?_;simp only[kq,sb,gk,na,decide_true,and_self,if_true,Y.sb]
 rintro m vs h' ⟨k,H,vb,A,b,bU,rfl,rfl,rfl,G,B,D,l,hinv⟩
 refine Lk ?_;refine Ll (λhle=>?_) λMC=>?_
 .have gL:m=0:=af
  subst gL;rw[show pw (mu O P C d) (zv O) b 0=zv O from rfl,M.r1 D]at hinv;rw[show((u:Int)).toNat=u from Fs u,<-hinv]at hk;exact Gh.fin0 ar (G.bel _) (hk _ G)
 have U:Int.tmod (m:Int) 2=((m % 2:Nat):Int):=by rw[Yd af];rfl
 have T:Int.tdiv (m:Int) 2=((m / 2:Nat):Int):=by rw[Uq af];rfl
 have E:¬((2:Int)=0):=by decide
 have R:Lp .i64 ((m / 2:Nat):Int)=((m / 2:Nat):Int):=WE;have P7:Lp .i64 ((m % 2:Nat):Int)=((m % 2:Nat):Int):=WE;have N:=M.cl l l;by_cases ho:m % 2=1
 .have dc:((m % 2:Nat):Int)=1:=af
  simp only[Z3,seval,-ae,E,U,dc,eq_true dc];refine L I D l G B λv hv=>?_;refine Lk ?_;refine L I l l B B λQ J=>?_;simp only[Z3,seval,-ae,E,T,R];refine⟨m / 2,af,.here ⟨m / 2,v,Q,_,_,af,rfl,rfl,rfl,hv,J,M.cl D l,N,?_⟩⟩;rw[M.as D l (M.pw N _),zSq M l,show m / 2+m / 2+1=m by omega];exact hinv
 .have dc:¬((m % 2:Nat):Int)=1:=af
  simp only[Z3,seval,-ae,E,U,dc];refine L I l l B B λQ J=>?_;simp only[Z3,seval,-ae,E,T,R];refine⟨m / 2,af,.here ⟨m / 2,H,Q,_,_,af,rfl,rfl,rfl,G,J,D,N,?_⟩⟩;rw[pw_sq M l,show m / 2+m / 2=m by omega];exact hinv
def QQ{n k:Nat}(A:n<=1048576)(l:k<n)(u:∀v,FI v (cD n k)->K v σ):zA Li 98 [.int .i64 n,.int .i64 k] σ K:=by
 refine Lh Tryz.func98 ?_;simp only[Z3,seval,-ae,YL,zh,uK (n:=n) af,tn (n:=n) af,l,UX l,zJ];rw[zX (by simpa using l)];exact Gh.finF (s:=σ.aM) (zC σ _) (by refine Lk ?_;rfl) (na _) (zL _ _) (by simp[gk]) λB=>u _ (FI.mk (zU n k))
variable{vf:PV}{y f:V1}{d:Nat}
def zRR{s off l:Nat}{cap:jZ}{ys:V1}(hs:s<σ.aM)(G:σ.rd s off l=Dc (cS ys))(E:(Lu ys)=l)(I:l<=1048576)(D:∀a,K (.fz DF a l (cS ys)) σ):zA Li 107 [.sl s off l cap] σ K:=by
 refine zA.gh ?_;have A:¬s=σ.aM:=Ev hs;refine Lg Tryz.func107 ?_;refine Lk ?_;refine eA.app (b:=0) (news:=cS ys) (m:=l) (zC σ _) (YV _) (eA.bf _ 1 rfl (na _)) rfl (λB=>?_) (by rw[zJ,E,Fe]) af af λJ h' H u=>?_
 .rw[ZG];simp only[B,if_false,na,if_true,Fe,zAS,A];exact G
 .simp only[Z3,seval,-ae]at u ⊢;exact u.fin H (zL _ _) λo cap=>D _
def zMO{α:Type}{m:α->α->α}{h:Nat->α}{x:Nat->Nat}{c:Nat}:∀{k t:Nat} {a:α},(∀j,t<=j->j<t+k->x j=0)->fo m h x t (k+c) a=fo m h x (t+k) c a
 |0,t,a,_=>by rw[Y5,UF]
 |k+1,t,a,h0=>by
  rw[show k+1+c=(k+c)+1 by omega,fo,h0 t (na _) af];show fo _ _ _ (t+1) (k+c) a=_;rw[zMO (λj l u=>h0 j af af),show t+1+k=t+(k+1) by omega]
def zSL(s:jl O P C)(F:Full O P C d)(B:TT O (Lu O-d) x)(u:TT O (Lu O-d) f):fo (mu O P C d) (Grp.unit O) (nx f) 0 (Lu O) x=mu O P C d x f:=by
 have hle:=F.le;have M:=F.gp.toMon;have l:=zMO (m:=mu O P C d) (h:=Grp.unit O) (x:=nx f) (c:=d) (k:=(Lu O)-d) (t:=0) (a:=x) λj _ A=>by show(at_ f j).toNat=0;rw[u.zero j af];rfl
 rw[show (Lu O)-d+d=(Lu O) by omega,Y5]at l;rw[l,M.fo_eq (λj l A=>s.unit af l) B];congr 1;exact F.nf u
def TGok(O:V1)(P:V2)(C:V3)(d j:Nat):Prop:=
 ∀(σ:cg) (K:PV->cg->Prop) (sp se:Nat) (cap:jZ) (x:V1) (vO vP vC:PV),jh σ sp vO vP vC->dU vO vP vC O P C->σ.bt se=Dc (cS x)->se<σ.aM->sp≠se->full 1 cap (Lu O)->TT O (Lu O-d) x->
  K (.tup []) (σ.set se (cS (mu O P C d x (Grp.unit O j))))->zA Li 174 [.ptr sp 0,.sl se 0 (Lu O) cap,.int .i64 j] σ K
def Q3(s:jl O P C)(F:Full O P C d){t:Nat}(U:(Lu O)-d<=t)(J:∀j,t<=j->j<Lu O->TGok O P C d j){sp se:Nat}{cap:jZ}(hs:jh σ sp vO vP vC)(R:dU vO vP vC O P C)
  (T:σ.bt se=Dc (cS x)) (W:se<σ.aM) (G:sp≠se) (N:full 1 cap (Lu O)) (I:TT O (Lu O-d) x) (B:TT O t f) (X:FI vf f) (H:K (.tup []) (σ.set se (cS (mu O P C d x f)))):zA Li 96 [.ptr sp 0,.sl se 0 (Lu O) cap,vf] σ K:=by
 have aX:=s.le;have Y:=B.len;have M:=F.gp.toMon;obtain⟨wf,E,rfl⟩:=X;refine Lg Tryz.func96 ?_;refine Lk ?_;refine zF (λm vs h'=>∃(q:Nat) (y:V1),q<=Lu O/\m=Lu O-q/\vs=[.ptr sp 0,.sl se 0 (Lu O) cap,.fz wf E (Lu f) (cS f),.int .i64 (Lu f),.int .i64 q]/\h'=σ.set se (cS y)/\TT O (Lu O-d) y/\fo (mu O P C d) (Grp.unit O) (nx f) q (Lu O-q) y=mu O P C d x f) (Lu O) ?_ ?_
 .exact⟨0,x,af,af,rfl,(zBz T).symm,I,zSL s F I (B.mono U)⟩
 rintro m vs h' ⟨q,y,hq,rfl,rfl,rfl,u,l⟩
 refine Lk ?_;refine Ll (λaG=>?_) λD=>?_
 .have jr:q=Lu O:=af
  subst jr;rw[Yk]at l;rw[<-l]at H;exact H
 have A:q<Lu O:=af
 have Q:=B.bd q A;have bO:=s.pr q A;have cb:((nx f q:Nat):Int)=at_ f q:=YD Q.1;rw[show (Lu O)-q=(Lu O-(q+1))+1 by omega]at l;simp only[Z3,seval,-ae,gd D,D];refine zF (λm vs h'=>∃(k:Nat) (y:V1),k<=nx f q/\m=nx f q-k/\vs=[.ptr sp 0,.sl se 0 (Lu O) cap,.int .i64 q,.fz wf E (Lu f) (cS f),.int .i64 (Lu f),.int .i64 q,.int .i64 (at_ f q),.int .i64 k]/\h'=σ.set se (cS y)/\TT O (Lu O-d) y/\fo (mu O P C d) (Grp.unit O) (nx f) (q+1) (Lu O-(q+1)) (C8 (mu O P C d) (Grp.unit O q) (nx f q-k) y)=mu O P C d x f) (nx f q) ?_ ?_
 .exact⟨0,y,af,af,rfl,rfl,u,l⟩
 rintro m vs h' ⟨k,y,bM,rfl,rfl,rfl,u,l⟩
 refine Lk ?_;refine de (λZ=>?_) λeQ=>?_
 .have bN:k<nx f q:=af
  have L:t<=q:=by
   rcases YG q t with h|h
   .have:=B.zero q h;omega
   .exact h
  have V:TT O (Lu O-d) (Grp.unit O q):=s.unit A af;refine J q L A _ _ sp se cap y vO vP vC (hs.set G _) R (by simp only[Z3,seval,-ae]) W G N u ?_;simp only[Z3,seval,-ae,WX bN];refine⟨_,af,k+1,_,af,rfl,rfl,rfl,M.cl u V,?_⟩;rw[show nx f q-k=(nx f q-(k+1))+1 by omega]at l;exact l
 .have eg:k=nx f q:=af
  subst eg;rw[Yk]at l;simp only[Z3,seval,-ae,WX D];exact⟨_,af,q+1,y,af,rfl,rfl,rfl,u,l⟩
variable{j:Nat}
def zr(x:V1)(j:Nat):Nat->V1
 |0=>x
 |k+1=>(zr x j k).set (j+(1+k)) 0
def zCz:∀k,(zr x j k).length=Lu x
 |0=>rfl
 |k+1=>by rw[zr,YA];exact zCz k
def zr_at:∀{k:Nat},j+(1+k)<=Lu x->∀t,at_ (zr x j k) t=if j<t/\t<j+(1+k)then 0 else at_ x t
 |0,_,t=>by rw[DL af];rfl
 |k+1,h,t=>by
  rw[zr,eJ (by rw[zCz];omega)];split
  .rename_i e;rw[DK af]
  .rename_i e;rw[zr_at af];by_cases g:j<t/\t<j+(1+k)
   .rw[DK g,DK af]
   .rw[DL g,DL af]
def zSc(u:j<Lu x):zr x j (Lu x-1-j)=o9 x j:=by
 refine Zz (by rw[zCz,zE7]) λt l=>?_;rw[zCz]at l;rw[zr_at af,zDH];by_cases g:t<=j
 .rw[DL af,DK g]
 .rw[DK af,DL g]
def zKz{se n:Nat}{cap:jZ}(u:full 1 cap n)(A:j+1<=n):∃off l,Zt 1 (.sl se 0 n cap) (Dc (.int .i64 ((j+1:Nat):Int))) none none=Dc (.sl se off (n-(j+1)) l)/\(off=j+1\/(off=0/\n-(j+1)=0)):=by
 have e:(0:Int)<=((j+1:Nat):Int)/\((j+1:Nat):Int)<=(n:Int):=⟨af,af⟩
 rcases u with rfl|rfl
 .refine⟨j+1,.grown 1,?_,.inl rfl⟩;rw[zB4];simp only[zB7,zB6,zDa,YP,DK e,Fs];simp
 .rw[zB3];simp only[zB7,zB6,zDa,YP,DK e,Fs];by_cases h:n=j+1
  .refine⟨0,.b6 (n-(j+1)),?_,.inr ⟨rfl,af⟩⟩;rw[DK h];simp
  .refine⟨j+1,.b6 (n-(j+1)),?_,.inl rfl⟩;rw[DL h];simp
def QA(s:jl O P C)(F:Full O P C d):∀(r:Nat) {j:Nat},(Lu O)-d<=j->j<Lu O->(Lu O)-j<=r->TGok O P C d j
 |0,j,h1,h2,h3=>by omega
 |r+1,j,h1,h2,h3=>by
  intro σ K sp se cap x vO vP vC hs hR he sr an bY hx hk;have Q:∀N,j+1<=N->N<Lu O->TGok O P C d N:=λN g1 g2=>QA s F r af g2 af;have aX:=s.le;have R:=hR;have V:=hs;have T:=hx.len;have Ft:j<Lu x:=af
  have bx:=hx.bd j h2;have bO:=s.pr j h2;have M:=F.gp.toMon;rw[<-zP3 s F hx h1 h2]at hk;obtain⟨⟨w0,a0,rfl⟩,⟨w1,a1,rP,rfl,hP⟩,⟨w3,a3,rC,rfl,hC⟩⟩:=hR;obtain⟨w5,a5,rs,cB,dz⟩:=AI s hC h2;obtain⟨w6,a6,cN⟩:=CU s hP h2;have sE:j<Lu C:=by rw[s.cl];exact h2
  have uM:j<Lu P:=by rw[s.pl];exact h2
  have W:=s.pw j h2;have e0:σ.dR sp 0=Dc (.fz w0 a0 (Lu O) (cS O)):=by rw[zH hs.bt];rfl
  have e1:σ.dR sp 1=Dc (.fz w1 a1 (Lu P) rP):=by rw[zH hs.bt];rfl
  have e2:σ.dR sp 2=Dc (.fz w3 a3 (Lu C) rC):=by rw[zH hs.bt];rfl
  have RX:∀t,σ.dR se t=(cS x)[t]?:=λt=>zH he t;obtain⟨off,aE,dZ,uz⟩:=zKz (se:=se) bY (UX h2);have ri:Lp .i64 ((j:Int)+1)=((j+1:Nat):Int):=gX h2 af;refine Lg Tryz.func174 ?_;simp only[Z3,seval,-ae,ri,dZ];have eR:(x.drop (j+1)).length=Lu O-(j+1):=by simp[T]
  refine zRR sr (ys:=x.drop (j+1)) ?_ eR af λav=>?_
  .rw[zV he,zJ];rcases uz with rfl|⟨rfl,h0⟩
   .rw[DK af,<-zQU,YS (by rw[UQ,zJ];omega)]
   .rw[h0,DK af,UT,EG af];rfl
  simp only[Z3,seval,-ae,zJ];refine zF (λm vs h'=>∃k:Nat,k<=Lu O-(j+1)/\m=Lu O-(j+1)-k/\vs=[.ptr sp 0,.sl se 0 (Lu O) cap,.int .i64 j,.fz DF av (Lu O-(j+1)) (cS (x.drop (j+1))),.int .i64 ((Lu O-(j+1):Nat):Int),.int .i64 k]/\h'=σ.set se (cS (zr x j k))) (Lu O-(j+1)) ?_ ?_
  .exact⟨0,af,af,rfl,(zBz he).symm⟩
  .rintro m vs h' ⟨k,bU,rfl,rfl,rfl⟩
   refine Lk ?_;refine de (λB=>?_) λaG=>?_
   .have e3:Lp .i64 (((j+1:Nat):Int)+(k:Int))=((j+(1+k):Nat):Int):=WQ
    have A:j+(1+k)<Lu O:=af
    have E:j+(1+k)<(zr x j k).length:=by rw[zCz];omega
    have di:(cS (zr x j k)).take (j+(1+k))++[.int .i64 0]++(cS (zr x j k)).drop (j+(1+(k+1)))=cS (zr x j (k+1)):=by rw[show j+(1+(k+1))=j+(1+k)+1 by omega];exact zX E
    have iP:j+(1+(k+1))<=Lu O:=af
    simp only[Z3,seval,-ae,ri,e3,A,zJ,zCz,T,iP,di,gX B (af:(Lu O)-(j+1)<=4611686018427387904)];exact⟨_,af,k+1,af,rfl,rfl,rfl⟩
   have G:k=Lu x-1-j:=af
   subst G;rw[zSc Ft];have X:(o9 x j).length=Lu O:=by rw[zE7];exact T
   have E:j<(o9 x j).length:=af
   have FW:at_ (o9 x j) j=at_ x j:=by rw[zDH,DK (na _)]
   have Hf:Lp .i64 (at_ x j+1)=at_ x j+1:=WE;have Z:j<((o9 x j).set j (at_ x j+1)).length:=by rw[YA];exact E
   have AO:at_ ((o9 x j).set j (at_ x j+1)) j=at_ x j+1:=by rw[eJ E,DK rfl]
   have p1:=gd E;have p2:=gd Z;rw[FW]at p1;rw[AO]at p2;have tX:j+1<=Lu O:=h2;simp only[Z3,seval,-ae,h2,X,zJ,p1,Hf,tX,zX E,zA0];simp only[Z3,seval,-ae,h2,X,zJ,p1,p2,Hf,tX,zX E,zA0,an,e0,gd h2];refine de (λheq=>?_) λmQ=>?_
   .have MB:((o9 x j).set j (at_ x j+1)).set j 0=(o9 x j).set j 0:=by rw[List.set_set]
    simp only[Z3,seval,-ae,h2,X,YA,zJ,tX,zX Z,MB,an,e1,uM,cN];have sj:TT O (Lu O-d) ((o9 x j).set j 0):=(zJ4 hx λt ht=>s.pos ht).set h2 h1 ⟨af,af⟩;refine Q3 s F (t:=j+1) af Q (V.set an (cS ((o9 x j).set j 0))) R (x:=(o9 x j).set j 0) (by simp only[Z3,seval,-ae]) sr an bY sj W (FI.mk W.len) ?_;simp only[Z3,seval,-ae,zA0];have H:TT O (Lu O-d) (mu O P C d ((o9 x j).set j 0) (eM P j)):=M.cl sj (W.mono af);have I:fo (mu O P C d) (du C j) (nx x) (j+(1+0)) (Lu O-(j+1)-0) (mu O P C d ((o9 x j).set j 0) (eM P j))=yo O P C (mu O P C d) x j:=by
     rw[yo,DK heq,show (Lu O)-1-j=Lu O-(j+1)-0 by omega]
    generalize mu O P C d ((o9 x j).set j 0) (eM P j)=Y at H I ⊢;refine zF (λm vs h'=>∃(k:Nat) (y:V1),k<=Lu O-(j+1)/\m=Lu O-(j+1)-k/\vs=[.ptr sp 0,.sl se 0 (Lu O) cap,.int .i64 j,.fz DF av (Lu O-(j+1)) (cS (x.drop (j+1))),.int .i64 ((Lu O-(j+1):Nat):Int),.int .i64 k]/\h'=σ.set se (cS y)/\TT O (Lu O-d) y/\fo (mu O P C d) (du C j) (nx x) (j+(1+k)) (Lu O-(j+1)-k) y=yo O P C (mu O P C d) x j) (Lu O-(j+1)) ?_ ?_
    .exact⟨0,Y,af,af,rfl,rfl,H,I⟩
    rintro m vs h' ⟨k,y,bU,rfl,rfl,rfl,u,l⟩
    refine Lk ?_;refine Ll (λaG=>?_) λB=>?_
    .have G:(Lu O)-(j+1)-k=0:=af
     rw[G]at l;rw[<-l]at hk;exact hk
    have A:j+(1+k)<Lu O:=af
    have J:k<(x.drop (j+1)).length:=af
    have nG:at_ (x.drop (j+1)) k=at_ x (j+(1+k)):=by
     simp only[at_,YW,Y0,show j+1+k=j+(1+k) by omega]
    have L:=gd J;rw[nG]at L;have bk:=hx.bd (j+(1+k)) A;have JB:=s.pr _ A;have cb:((nx x (j+(1+k)):Nat):Int)=at_ x (j+(1+k)):=YD bk.1;obtain⟨w7,a7,U⟩:=dz k af;have D:=s.cj j (j+(1+k)) af A;have ll:k<Lu O-1-j:=af
    rw[show (Lu O)-(j+1)-k=(Lu O-(j+1)-k-1)+1 by omega]at l;simp only[Z3,seval,-ae,L,J,B];refine zF (λm vs h'=>∃(q:Nat) (y:V1),q<=nx x (j+(1+k))/\m=nx x (j+(1+k))-q/\vs=[.ptr sp 0,.sl se 0 (Lu O) cap,.int .i64 j,.int .i64 k,.fz DF av (Lu O-(j+1)) (cS (x.drop (j+1))),.int .i64 ((Lu O-(j+1):Nat):Int),.int .i64 k,.int .i64 (at_ x (j+(1+k))),.int .i64 q]/\h'=σ.set se (cS y)/\TT O (Lu O-d) y/\fo (mu O P C d) (du C j) (nx x) (j+(1+k)+1) (Lu O-(j+1)-k-1) (C8 (mu O P C d) (du C j (j+(1+k))) (nx x (j+(1+k))-q) y)=yo O P C (mu O P C d) x j) (nx x (j+(1+k))) ?_ ?_
    .exact⟨0,y,af,af,rfl,rfl,u,l⟩
    rintro m vs h' ⟨q,y,EX,rfl,rfl,rfl,u,l⟩
    refine Lk ?_;refine de (λaD=>?_) λeQ=>?_
    .have bN:q<nx x (j+(1+k)):=af
     simp only[Z3,seval,-ae,an,e2,sE,cB,ll,U];refine Q3 s F (t:=j+1) af Q (V.set an (cS y)) R (x:=y) (by simp only[Z3,seval,-ae]) sr an bY u D (FI.mk D.len) ?_;simp only[Z3,seval,-ae,zA0,gX bN (af:nx x (j+(1+k))<=4611686018427387904)];refine⟨_,af,q+1,_,af,rfl,rfl,rfl,M.cl u (D.mono af),?_⟩;rw[show nx x (j+(1+k))-q=(nx x (j+(1+k))-(q+1))+1 by omega]at l;exact l
    .have jr:q=nx x (j+(1+k)):=af
     subst jr;rw[Yk]at l;simp only[Z3,seval,-ae,gX B (af:(Lu O)-(j+1)<=4611686018427387904)];refine⟨_,af,k+1,y,af,rfl,rfl,rfl,u,?_⟩;rw[show (Lu O)-(j+1)-(k+1)=Lu O-(j+1)-k-1 by omega];exact l
   .have H:TT O (Lu O-d) ((o9 x j).set j (at_ x j+1)):=(zJ4 hx λt ht=>s.pos ht).set h2 h1 ⟨af,af⟩;have I:fo (mu O P C d) (du C j) (nx x) (j+(1+0)) (Lu O-(j+1)-0) ((o9 x j).set j (at_ x j+1))=yo O P C (mu O P C d) x j:=by
     rw[yo,DL mQ,show (Lu O)-1-j=Lu O-(j+1)-0 by omega]
    clear p2 AO Z;generalize (o9 x j).set j (at_ x j+1)=Y at H I ⊢;refine zF (λm vs h'=>∃(k:Nat) (y:V1),k<=Lu O-(j+1)/\m=Lu O-(j+1)-k/\vs=[.ptr sp 0,.sl se 0 (Lu O) cap,.int .i64 j,.fz DF av (Lu O-(j+1)) (cS (x.drop (j+1))),.int .i64 ((Lu O-(j+1):Nat):Int),.int .i64 k]/\h'=σ.set se (cS y)/\TT O (Lu O-d) y/\fo (mu O P C d) (du C j) (nx x) (j+(1+k)) (Lu O-(j+1)-k) y=yo O P C (mu O P C d) x j) (Lu O-(j+1)) ?_ ?_
    .exact⟨0,Y,af,af,rfl,rfl,H,I⟩
    rintro m vs h' ⟨k,y,bU,rfl,rfl,rfl,u,l⟩
    refine Lk ?_;refine Ll (λaG=>?_) λB=>?_
    .have G:(Lu O)-(j+1)-k=0:=af
     rw[G]at l;rw[<-l]at hk;exact hk
    have A:j+(1+k)<Lu O:=af
    have J:k<(x.drop (j+1)).length:=af
    have nG:at_ (x.drop (j+1)) k=at_ x (j+(1+k)):=by
     simp only[at_,YW,Y0,show j+1+k=j+(1+k) by omega]
    have L:=gd J;rw[nG]at L;have bk:=hx.bd (j+(1+k)) A;have JB:=s.pr _ A;have cb:((nx x (j+(1+k)):Nat):Int)=at_ x (j+(1+k)):=YD bk.1;obtain⟨w7,a7,U⟩:=dz k af;have D:=s.cj j (j+(1+k)) af A;have ll:k<Lu O-1-j:=af
    rw[show (Lu O)-(j+1)-k=(Lu O-(j+1)-k-1)+1 by omega]at l;simp only[Z3,seval,-ae,L,J,B];refine zF (λm vs h'=>∃(q:Nat) (y:V1),q<=nx x (j+(1+k))/\m=nx x (j+(1+k))-q/\vs=[.ptr sp 0,.sl se 0 (Lu O) cap,.int .i64 j,.int .i64 k,.fz DF av (Lu O-(j+1)) (cS (x.drop (j+1))),.int .i64 ((Lu O-(j+1):Nat):Int),.int .i64 k,.int .i64 (at_ x (j+(1+k))),.int .i64 q]/\h'=σ.set se (cS y)/\TT O (Lu O-d) y/\fo (mu O P C d) (du C j) (nx x) (j+(1+k)+1) (Lu O-(j+1)-k-1) (C8 (mu O P C d) (du C j (j+(1+k))) (nx x (j+(1+k))-q) y)=yo O P C (mu O P C d) x j) (nx x (j+(1+k))) ?_ ?_
    .exact⟨0,y,af,af,rfl,rfl,u,l⟩
    rintro m vs h' ⟨q,y,EX,rfl,rfl,rfl,u,l⟩
    refine Lk ?_;refine de (λaD=>?_) λeQ=>?_
    .have bN:q<nx x (j+(1+k)):=af
     simp only[Z3,seval,-ae,an,e2,sE,cB,ll,U];refine Q3 s F (t:=j+1) af Q (V.set an (cS y)) R (x:=y) (by simp only[Z3,seval,-ae]) sr an bY u D (FI.mk D.len) ?_;simp only[Z3,seval,-ae,zA0,gX bN (af:nx x (j+(1+k))<=4611686018427387904)];refine⟨_,af,q+1,_,af,rfl,rfl,rfl,M.cl u (D.mono af),?_⟩;rw[show nx x (j+(1+k))-q=(nx x (j+(1+k))-(q+1))+1 by omega]at l;exact l
    .have jr:q=nx x (j+(1+k)):=af
     subst jr;rw[Yk]at l;simp only[Z3,seval,-ae,gX B (af:(Lu O)-(j+1)<=4611686018427387904)];refine⟨_,af,k+1,y,af,rfl,rfl,rfl,u,?_⟩;rw[show (Lu O)-(j+1)-(k+1)=Lu O-(j+1)-k-1 by omega];exact l
def Q0(s:jl O P C)(F:Full O P C d){sp se:Nat}{cap:jZ}(hs:jh σ sp vO vP vC)(D:dU vO vP vC O P C)
  (E:σ.bt se=Dc (cS x)) (J:se<σ.aM) (l:sp≠se) (u:full 1 cap (Lu O)) (I:TT O (Lu O-d) x) (G:TT O (Lu O-d) f) (L:FI vf f) (H:K (.tup []) (σ.set se (cS (mu O P C d x f)))):zA Li 96 [.ptr sp 0,.sl se 0 (Lu O) cap,vf] σ K:=
 Q3 s F (na _) (λj A B=>QA s F (Lu O) A B af) hs D E J l u I G L H
variable{va vb:PV}{a b:V1}{sp:Nat}
def zGU{v:PV}{sp:Nat}(u:f=[])(B:FI vf f)(A:K (.tup []) σ):zA Li 96 [.ptr sp 0,v,vf] σ K:=by
 obtain⟨wf,l,rfl⟩:=B;subst u;refine Lg Tryz.func96 ?_;refine Lk ?_;refine zF (λm vs h'=>m=0/\vs=[.ptr sp 0,v,.fz wf l ([]:V1).length (cS []),.int .i64 (([]:V1).length:Nat),.int .i64 (0:Nat)]/\σ=h') 0 ⟨rfl,rfl,rfl⟩ ?_
 rintro m vs h' ⟨rfl,rfl,rfl⟩
 refine Lk ?_;exact A
def zBF(s:jl O P C)(F:Full O P C d)(hs:jh σ sp vO vP vC)(L:dU vO vP vC O P C)(A:TT O (Lu O-d) a)(B:TT O (Lu O-d) b)(J:FI va a)(D:FI vb b)(H:tb σ K (mu O P C d a b)):
  zA Li 86 [.ptr sp 0,va,vb] σ K:=by
 have M:=s.le;have l:=A.len;have E:=(F.gp.cl A B).len;have I:sp≠σ.aM:=Ev hs.lt;obtain⟨Q,N,rfl⟩:=J;refine Lh Tryz.func86 ?_;refine Lk ?_;refine Z9 rfl af ⟨λG=>?_,λcap u=>?_⟩
 .have xv:b=[]:=YU (by rw[B.len,<-l,G];rfl);refine Lk ?_;refine zGU xv D ?_;refine Lk ?_;exact Gh.fin0 (cT.refl σ) trivial (H.1 (YU (by show(mu O P C d a b).length=0;rw[E,<-l,G];rfl)))
 .rw[l]at u;rw[l];refine Lk ?_;refine Q0 s F (hs.bf _) L (x:=a) (by simp only[Z3,seval,-ae]) (by simp only[Z3,seval,-ae]) I u A B D ?_;refine Lk ?_;rw[show (Lu O)=(mu O P C d a b).length from E.symm]at u ⊢;exact Gh.np (zC σ _) (by simp only[Z3,seval,-ae]) (na _) (zL _ _) (H.2 cap u)
def Z7(s:jl O P C)(F:Full O P C d)(hs:jh σ sp vO vP vC)(A:dU vO vP vC O P C)(B:TT O (Lu O-d) a)(D:TT O (Lu O-d) b)(l:FI va a)(u:FI vb b)(E:∀v,FI v (mu O P C d a b)->K v σ):
  zA Li 86 [.ptr sp 0,va,vb] σ K:=zA.fzI (λK'=>zBF s F hs A B D l u) λa=>E _ ⟨_,_,rfl⟩
def zJP(s:jl O P C)(F:Full O P C d)(hs:jh σ sp vO vP vC)(H:dU vO vP vC O P C)(l:TT O (Lu O-d) a)(u:FI va a){k:Int}(U:0<=k/\k<=1000000)(J:tb σ K (pw (mu O P C d) (zv O) a k.toNat)):
  zA Li 48 [.ptr sp 0,va,.int .i64 k] σ K:=by
 have R:=s.le;have G:=l.len;have M:=F.gp.toMon;have E:sp≠σ.aM:=Ev hs.lt;have B:=u;obtain⟨N,D,rfl⟩:=u;rw[G]at B ⊢;refine Lh Tryz.func48 ?_;simp only[Z3,seval,-ae,YL,zh,uK (n:=(Lu O)) af,tn (n:=(Lu O)) af];refine zF (λm vs h'=>∃q:Nat,q<=k.toNat/\m=k.toNat-q/\vs=[.ptr sp 0,.fz N D (Lu O) (cS a),.sl σ.aM 0 (Lu O) (.b6 (Lu O)),.int .i64 k,.int .i64 q]/\h'=σ.bf (cS (pw (mu O P C d) (zv O) a q))) k.toNat ?_ ?_
 .exact⟨0,af,af,rfl,rfl⟩
 rintro m vs h' ⟨q,V,rfl,rfl,rfl⟩
 refine Lk ?_;refine de (λT=>?_) λQ=>?_
 .have bN:q<k.toNat:=af
  have L:=M.pw l q;refine Q0 s F (hs.bf _) H (x:=pw (mu O P C d) (zv O) a q) (by simp only[Z3,seval,-ae]) (by simp only[Z3,seval,-ae]) E (.inr rfl) L l B ?_;simp only[Z3,seval,-ae,WX bN];exact⟨_,af,q+1,af,rfl,rfl,rfl⟩
 .have jr:q=k.toNat:=af
  subst jr;have A:=(M.pw l k.toNat).len;have I:full 1 (.b6 (Lu O)) (pw (mu O P C d) (zv O) a k.toNat).length:=.inr (by rw[A]);refine Gh.np (zC σ _) (by refine Lk ?_;rfl) (na _) (zL _ _) ?_
  have:=J.2 _ I
  rwa[A]at this
def zAN(s:jl O P C)(F:Full O P C d)(hs:jh σ sp vO vP vC)(A:dU vO vP vC O P C)(B:TT O (Lu O-d) a)(l:FI va a){k:Int}(u:0<=k/\k<=1000000)(D:∀v,FI v (pw (mu O P C d) (zv O) a k.toNat)->K v σ):
  zA Li 48 [.ptr sp 0,va,.int .i64 k] σ K:=zA.fzI (λK'=>zJP s F hs A B l u) λa=>D _ ⟨_,_,rfl⟩
def mu_step(s:jl O P C){i:Nat}(hd:(Lu O)-d<=i)(hle:d<=Lu O)(l:i<Lu O)(B:TT O i x):TT O i (mu O P C d x (Grp.unit O i))/\at_ (mu O P C d x (Grp.unit O i)) i=if at_ x i+1=at_ O i then 0 else at_ x i+1:=by
 have E:TT O i (Grp.unit O i):=s.unit l (na _);obtain⟨e,he⟩:∃e,(Lu O)-i=e+1:=⟨(Lu O)-i-1,af⟩
 have A:(Lu O)-(e+1)=i:=af
 have J:mu O P C d x (Grp.unit O i)=mu O P C (e+1) x (Grp.unit O i):=by
  have:=zO4 s (d:=e+1) (k:=d-(e+1)) (u:=x) (v:=Grp.unit O i) af (by rw[A];exact B) (by rw[A];exact E)
  rwa[show e+1+(d-(e+1))=d by omega]at this
 have H:=pb s (d:=e+1) (a:=x) (b:=Grp.unit O i) af (by rw[A];exact B) (by rw[A];exact E);rw[A]at H;rw[J];refine⟨H,?_⟩;have N:=B.bd i l;have M:=s.pr i l;have L:at_ (Grp.unit O i) i=1:=by rw[eJ (by simp;exact l),DK rfl]
 have G:=s.pos l;have D:∀a b,TT O (i+1) a->TT O (i+1) b->TT O (i+1) (mu O P C e a b):=λa b Q R=>by
  have:=pb s (d:=e) (a:=a) (b:=b) af (by rwa[show (Lu O)-e=i+1 by omega]) (by rwa[show (Lu O)-e=i+1 by omega])
  rwa[show (Lu O)-e=i+1 by omega]at this
 have I:=D _ _ (zBt (λx _=>zAF s D x) (nx (Grp.unit O i) i) (B.set0 l G)) (E.set0 l G);simp only[mu,A];rw[L];split
 .have rU:=D _ _ (s.pw i l) I;rw[eJ (by rw[rU.len];exact l),DK rfl];split<;>omega
 .rw[eJ (by rw[I.len];exact l),DK rfl,DL af]
def zPS(s:jl O P C)(F:Full O P C d)(hs:jh σ sp vO vP vC)(J:dU vO vP vC O P C)(D:TT O (Lu O-d) a)(U:FI va a)(N:∀z,TT O (Lu O-d) z->mu O P C d a z=zv O->tb σ K z):
  zA Li 95 [.ptr sp 0,va] σ K:=by
 have aX:=s.le;have hle:=F.le;have E:=D.len;have M:=F.gp.toMon;have R:sp≠σ.aM:=Ev hs.lt;have X:sp≠σ.aM+1:=by have:=hs.lt;omega
 obtain⟨wa,aa,rfl⟩:=U;refine Lh Tryz.func95 ?_;refine Lk ?_;refine Z9 rfl af ⟨λI=>?_,λcap L=>?_⟩
 .have dC:O=[]:=YU (by rw[<-E,I];rfl);subst dC;subst I;simp only[Z3,seval,-ae,uK (n:=0) af,tn (n:=0) af];refine zF (λm vs h'=>m=0/\vs=[.ptr sp 0,Ln,.sl σ.aM 0 0 (.b6 0),.int .i64 (0:Nat),.int .i64 (0:Nat)]/\h'=σ.bf []) 0 ⟨rfl,rfl,rfl⟩ ?_
  rintro m vs h' ⟨rfl,rfl,rfl⟩
  refine Lk ?_;have Q:d=0:=by simpa using hle
  exact Gh.np (cs:=cS []) (zC σ _) (by refine Lk ?_;rfl) (na _) (zL _ _) ((N [] (s.zv _) (by subst Q;rfl)).2 _ (.inr rfl))
 rw[E]at L;rw[E];simp only[Z3,seval,-ae,YL,zh,uK (n:=(Lu O)) af,tn (n:=(Lu O)) af];refine zF (λm vs h'=>∃(i:Nat) (r z:V1),i<=Lu O/\m=Lu O-i/\vs=[.ptr sp 0,.sl σ.aM 0 (Lu O) cap,.sl (σ.aM+1) 0 (Lu O) (.b6 (Lu O)),.int .i64 (Lu O),.int .i64 i]/\h'=(σ.bf (cS r)).bf (cS z)/\TT O (Lu O-d) r/\TT O i r/\TT O (Lu O-d) z/\mu O P C d a z=r) (Lu O) ?_ ?_
 .exact⟨0,a,zv O,af,af,rfl,rfl,D,D.mono (YV _),s.zv _,M.r1 D⟩
 rintro m vs h' ⟨i,r,z,hi,rfl,rfl,rfl,u,B,A,hinv⟩
 refine Lk ?_;refine Ll (λaG=>?_) λl=>?_
 .have aU:i=Lu O:=af
  subst aU;have pA:r=zv O:=B.ext (s.zv _) λj V W=>by omega
  rw[pA]at hinv;have H:=A.len
  have:=(N z A hinv).2 (.b6 (Lu O)) (.inr (by rw[H]))
  rw[H]at this;exact Gh.np (s:=σ.aM+1) ((zC σ _).bf _) (by simp only[Z3,seval,-ae]) af (zL _ _) this
 refine Lk ?_;have bO:=s.pr i l;refine zF (λm vs h'=>∃(r z:V1),m=((at_ O i-at_ r i) % at_ O i).toNat/\vs=[.ptr sp 0,.sl σ.aM 0 (Lu O) cap,.sl (σ.aM+1) 0 (Lu O) (.b6 (Lu O)),.int .i64 i,.int .i64 (Lu O),.int .i64 i]/\h'=(σ.bf (cS r)).bf (cS z)/\TT O (Lu O-d) r/\TT O i r/\TT O (Lu O-d) z/\mu O P C d a z=r) _ ⟨r,z,rfl,rfl,rfl,u,B,A,hinv⟩ ?_
 rintro m vs h' ⟨r,z,rfl,rfl,rfl,u,B,A,hinv⟩
 have T:i<Lu r:=by rw[u.len];exact l
 have br:=u.bd i l;simp only[Z3,seval,-ae,l,gd T];refine de (λheq=>?_) λmQ=>?_
 .simp only[Z3,seval,-ae,WX l];refine⟨_,af,i+1,r,z,af,rfl,rfl,rfl,u,?_,A,hinv⟩;refine⟨B.len,B.bd,λt ht=>?_⟩;by_cases e:t=i
  .subst e;exact heq
  .exact B.zero t af
 .have CM:(Lu O)-d<=i:=by
   rcases YG i (Lu O-d)with h|h
   .exact absurd (u.zero i h) mQ
   .exact h
  have G:TT O (Lu O-d) (Grp.unit O i):=s.unit l CM;obtain⟨Y,Z⟩:=mu_step s CM hle l B;refine QA s F (Lu O) CM l af _ _ sp σ.aM cap r vO vP vC ((hs.bf _).bf _) J (by simp only[Z3,seval,-ae]) (by refine Lk ?_;omega) R L u ?_;refine Lk ?_;refine QA s F (Lu O) CM l af _ _ sp (σ.aM+1) (.b6 (Lu O)) z vO vP vC ((hs.bf _).bf _) J (by simp only[Z3,seval,-ae]) (by simp only[Z3,seval,-ae]) X (.inr rfl) A ?_;refine Lk ?_;refine⟨_,?_,_,_,rfl,rfl,M.cl u G,Y,M.cl A G,by rw[<-M.as D A G,hinv]⟩;rw[Z];split
  .rename_i e;rw[Int.sub_zero,Int.emod_self]
   have:(at_ O i-at_ r i) % at_ O i=at_ O i-at_ r i:=Ys af af
   omega
  .rename_i e;have V:(at_ O i-at_ r i) % at_ O i=at_ O i-at_ r i:=Ys af af;have W:(at_ O i-(at_ r i+1)) % at_ O i=at_ O i-(at_ r i+1):=Ys af af;omega
def zEX(s:jl O P C)(F:Full O P C d)(hs:jh σ sp vO vP vC)(E:dU vO vP vC O P C)(G:TT O (Lu O-d) a)(B:FI va a)(A:∀v z,TT O (Lu O-d) z->mu O P C d a z=zv O->FI v z->K v σ):
  zA Li 95 [.ptr sp 0,va] σ K:=
 zA.gh (zPS s F hs E G B λz l u=>⟨λD=>Gh.fin0 (cT.refl σ) trivial (A _ z l u ⟨DF,.b8,by rw[D];rfl⟩),λcap H=>Gh.finF (zC σ _) (by simp only[Z3,seval,-ae]) (na _) (zL _ _) H.ok λo=>A _ z l u ⟨DF,.sl o 0 (Lu z) cap,rfl⟩⟩)
def zKL(s:jl O P C)(F:Full O P C d)(hs:jh σ sp vO vP vC)(B:dU vO vP vC O P C)(E:TT O (Lu O-d) a)(l:TT O (Lu O-d) b)(H:FI va a)(D:FI vb b)(R:∀z,TT O (Lu O-d) z->mu O P C d b z=mu O P C d a b->tb σ K z):
  zA Li 162 [.ptr sp 0,va,vb] σ K:=by
 have M:=F.gp.toMon;refine Lh Tryz.func162 ?_;refine Lk ?_;refine zEX s F hs B l D λU W A N I=>?_;refine Lk ?_;refine Z7 s F hs B E l H D λV J=>?_;refine Lk ?_;have u:=M.cl E l;have T:=M.cl A u;have G:=R _ T (by rw[<-M.as l A u,N,M.l1 u]);refine zBF s F hs B A u I J ⟨λL=>?_,λcap Q=>?_⟩
 .refine Lk ?_;exact Gh.ret (G.1 L)
 .refine Lk ?_;exact Gh.ret (G.2 cap Q)
def zAq(s:jl O P C)(F:Full O P C d)(hs:jh σ sp vO vP vC)(G:dU vO vP vC O P C)(H:TT O (Lu O-d) a)(I:TT O (Lu O-d) b)(B:FI va a)(D:FI vb b)(A:∀v z,TT O (Lu O-d) z->mu O P C d b z=mu O P C d a b->FI v z->K v σ):
  zA Li 162 [.ptr sp 0,va,vb] σ K:=
 zA.gh (zKL s F hs G H I B D λz l u=>⟨λE=>Gh.fin0 (cT.refl σ) trivial (A _ z l u ⟨DF,.b8,by rw[E];rfl⟩),λcap J=>Gh.finF (zC σ _) (by simp only[Z3,seval,-ae]) (na _) (zL _ _) J.ok λo=>A _ z l u ⟨DF,.sl o 0 (Lu z) cap,rfl⟩⟩)
def zBk(s:jl O P C)(F:Full O P C d){i:Nat}(hi:(Lu O)=d+(i+1))(hs:jh σ sp vO vP vC)(T:dU vO vP vC O P C)(V:TT O 0 x)(bm:FI vx x)(U:∀v,FI v (Grp.lD O C (mu O P C d) i x)->K v σ):
  zA Li 226 [.ptr sp 0,.int .i64 i,vx] σ K:=by
 have aX:=s.le;have bj:=V.len;have D:i<Lu O:=af
 have M:=F.gp.toMon;have L:sp≠σ.aM:=Ev hs.lt;have aJ:=T;have cV:=hs;have A:(Lu O)-d=i+1:=af
 obtain⟨⟨w0,a0,rfl⟩,⟨w1,a1,rP,rfl,hP⟩,⟨w3,Z,rC,rfl,hC⟩⟩:=T;obtain⟨W,J,rs,Q,R⟩:=AI s hC D;have bX:i<Lu C:=by rw[s.cl];exact D
 have e2:σ.dR sp 2=Dc (.fz w3 Z (Lu C) rC):=by rw[zH hs.bt];rfl
 have bG:Lp .i64 ((i:Int)+1)=((i+1:Nat):Int):=gX D af;obtain⟨X,N,rfl⟩:=bm;rw[bj];have H:(Lu O)-1-i=d:=af
 rw[H]at Q R;refine Lh Tryz.func226 ?_;simp only[Z3,seval,-ae,YL,zh,uK (n:=(Lu O)) af,tn (n:=(Lu O)) af,e2,L,bX,Q];refine zF (λm vs h'=>∃(k:Nat) (y:V1),k<=d/\m=d-k/\vs=[.ptr sp 0,.int .i64 i,.fz X N (Lu O) (cS x),.sl σ.aM 0 (Lu O) (.b6 (Lu O)),.fz W J d rs,.int .i64 d,.int .i64 k]/\h'=σ.bf (cS y)/\TT O (i+1) y/\fo (mu O P C d) (du C i) (nx x) (i+(1+k)) (d-k) y=Grp.lD O C (mu O P C d) i x) d ?_ ?_
 .exact⟨0,zv O,af,af,rfl,rfl,s.zv _,by rw[Grp.lD,H];rfl⟩
 rintro m vs h' ⟨k,y,nl,rfl,rfl,rfl,u,l⟩
 refine Lk ?_;refine Ll (λaG=>?_) λE=>?_
 .have eg:d-k=0:=af
  rw[eg]at l;rw[<-l]at U;exact Gh.finF (zC σ _) (by refine Lk ?_;rfl) (na _) (zL _ _) (by simp[gk]) λo=>U _ (FI.mk u.len)
 have B:i+(1+k)<Lu O:=af
 have Y:i+(1+k)<Lu x:=af
 have bk:=V.bd (i+(1+k)) B;have JB:=s.pr _ B;have cb:((nx x (i+(1+k)):Nat):Int)=at_ x (i+(1+k)):=YD bk.1;obtain⟨w7,a7,cE⟩:=R k E;have G:=s.cj i (i+(1+k)) af B;have e3:Lp .i64 (((i+1:Nat):Int)+(k:Int))=((i+(1+k):Nat):Int):=WQ
 rw[show d-k=(d-k-1)+1 by omega]at l;simp only[Z3,seval,-ae,E,cE,bG,e3,B,gd Y];refine zF (λm vs h'=>∃(q:Nat) (y:V1),q<=nx x (i+(1+k))/\m=nx x (i+(1+k))-q/\vs=[.ptr sp 0,.int .i64 i,.fz X N (Lu O) (cS x),.sl σ.aM 0 (Lu O) (.b6 (Lu O)),.fz w7 a7 (Lu O) (cS (du C i (i+(1+k)))),.fz W J d rs,.int .i64 d,.int .i64 k,.int .i64 (at_ x (i+(1+k))),.int .i64 q]/\h'=σ.bf (cS y)/\TT O (i+1) y/\fo (mu O P C d) (du C i) (nx x) (i+(1+k)+1) (d-k-1) (C8 (mu O P C d) (du C i (i+(1+k))) (nx x (i+(1+k))-q) y)=Grp.lD O C (mu O P C d) i x) (nx x (i+(1+k))) ?_ ?_
 .exact⟨0,y,af,af,rfl,rfl,u,l⟩
 rintro m vs h' ⟨q,y,EX,rfl,rfl,rfl,u,l⟩
 refine Lk ?_;refine de (λaD=>?_) λeQ=>?_
 .have bN:q<nx x (i+(1+k)):=af
  refine Q0 s F (cV.bf _) aJ (x:=y) (by simp only[Z3,seval,-ae]) (by simp only[Z3,seval,-ae]) L (.inr rfl) (by rw[A];exact u) (by rw[A];exact G) (FI.mk G.len) ?_;simp only[Z3,seval,-ae,gX bN (af:nx x (i+(1+k))<=4611686018427387904)];have I:=M.cl (a:=y) (b:=du C i (i+(1+k))) (by rw[A];exact u) (by rw[A];exact G);rw[A]at I;refine⟨_,af,q+1,_,af,rfl,rfl,rfl,I,?_⟩;rw[show nx x (i+(1+k))-q=(nx x (i+(1+k))-(q+1))+1 by omega]at l;exact l
 .have jr:q=nx x (i+(1+k)):=af
  subst jr;rw[Yk]at l;simp only[Z3,seval,-ae,WX E];refine⟨_,af,k+1,y,af,rfl,rfl,rfl,u,?_⟩;rw[show d-(k+1)=d-k-1 by omega];exact l
def zLV(s:jl O P C){d i:Nat}(hi:(Lu O)=d+(i+1))(B:Beh O P C d)(hR:dU vO vP vC O P C)
  (hk:∀T f1 f2 f3:Int,(T=0↔Lv O P C i)->K (.agg [.int .i64 T,.int .i64 f1,.int .i64 f2,.int .i64 f3]) σ):zA Li 248 [.agg [vO,vP,vC],.int .i64 i] σ K:=by
 have aX:=s.le;have I:=hR;have J:i<Lu O:=af
 have Q:AtOK O P C d (i+1):=zCG s af;have M:=B.gp.toMon;rw[show (Lu O)-d=i+1 by omega]at M;have R:(Lu O)-1-i=d:=af
 have yes:((∀q,q<d->pw (mu O P C d) (zv O) (du C i (i+(1+q))) (nx O (i+(1+q)))=Grp.lD O C (mu O P C d) i (eM P (i+(1+q))))->
   (∀q r,q+(1+r)<d->mu O P C d (du C i (i+(1+(q+(1+r))))) (du C i (i+(1+q)))=mu O P C d (du C i (i+(1+q))) (Grp.lD O C (mu O P C d) i (du C (i+(1+q)) (i+(1+(q+(1+r)))))))->
   Grp.lD O C (mu O P C d) i (eM P i)=eM P i->
   (∀q,q<d->mu O P C d (eM P i) (iter (Grp.lD O C (mu O P C d) i) (nx O i) (cD (Lu O) (i+(1+q))))=mu O P C d (cD (Lu O) (i+(1+q))) (eM P i))->Lv O P C i):=λh1 h2 h3 h4=>by
  refine⟨λj g1 g2=>?_,λj k g1 g2 g3=>?_,?_,λj g1 g2=>?_⟩
  .have:=h1 (j-i-1) af;rw[show i+(1+(j-i-1))=j by omega]at this;rw[R];exact this
  .have:=h2 (j-i-1) (k-j-1) af;rw[show i+(1+(j-i-1))=j by omega,show i+(1+(j-i-1+(1+(k-j-1))))=k by omega]at this;rw[R];exact this
  .rw[R];exact h3
  .have:=h4 (j-i-1) af;rw[show i+(1+(j-i-1))=j by omega]at this;rw[R];exact this
 obtain⟨⟨w0,V,rfl⟩,⟨w1,W,rP,rfl,hP⟩,⟨w3,X,rC,rfl,hC⟩⟩:=hR;obtain⟨w5,a5,rs,cB,dz⟩:=AI s hC J;have bX:i<Lu C:=by rw[s.cl];exact J
 have dA:i<Lu P:=by rw[s.pl];exact J
 refine zA.gh ?_;have fin:∀{T f1 f2 f3:Int} {σ':cg},(T=0↔Lv O P C i)->cT σ σ'->Gh σ K (.agg [.int .i64 T,.int .i64 f1,.int .i64 f2,.int .i64 f3]) σ':=λh k=>Gh.fin0 k ⟨DJ,DJ,DJ,DJ,DJ⟩ (hk _ _ _ _ h);have no:∀{T:Int},T≠0->¬Lv O P C i->(T=0↔Lv O P C i):=λh g=>⟨λx=>absurd x h,λx=>absurd x g⟩
 refine qH mix Tryz.func248 ?_;refine Lk ?_;have ar:∀cs:List PV,cT σ ((σ.bf [.fz w0 V (Lu O) (cS O),.fz w1 W (Lu P) rP,.fz w3 X (Lu C) rC]).bf cs):=λcs=>(zC σ _).bf _;have H:Lp .i64 ((i:Int)+1)=((i+1:Nat):Int):=gX J af
 -- first condition
 simp only[Z3,seval,-ae,H];refine zF (λm vs h'=>∃q:Nat,q<=d/\m=d-q/\vs=[.int .i64 i,.ptr σ.aM 0,.ptr (σ.aM+1) 0,.int .i64 (Lu O),.int .i64 i,.int .i64 ((i+(1+q):Nat):Int)]/\
  h'=(σ.bf [.fz w0 V (Lu O) (cS O),.fz w1 W (Lu P) rP,.fz w3 X (Lu C) rC]).bf [.int .i64 0,.int .i64 0,.int .i64 0,.int .i64 0]/\∀l,l<q->pw (mu O P C d) (zv O) (du C i (i+(1+l))) (nx O (i+(1+l)))=Grp.lD O C (mu O P C d) i (eM P (i+(1+l)))) d ?_ ?_
 .exact⟨0,af,af,rfl,rfl,λq h=>af⟩
 rintro m vs h' ⟨q,hq,rfl,rfl,rfl,ai⟩
 refine Lk ?_;refine de (λah=>?_) λaG=>?_
 .have u:i+(1+q)<Lu O:=af
  have uM:i+(1+q)<Lu P:=by rw[s.pl];exact u
  obtain⟨w6,a6,cE⟩:=dz q af;obtain⟨w7,a7,cN⟩:=CU s hP u;have jv:q<Lu O-1-i:=af
  have N:=s.cj i (i+(1+q)) af af;have G:=s.pw (i+(1+q)) u;have hO:=s.pr _ u;have e3:Lp .i64 (((i+(1+q):Nat):Int)-(i:Int))=((1+q:Nat):Int):=WQ
  have e4:Lp .i64 (((1+q:Nat):Int)-1)=(q:Int):=WQ
  have Z:Lp .i64 (((i+(1+q):Nat):Int)+1)=((i+(1+(q+1)):Nat):Int):=WQ
  simp only[Z3,seval,-ae,H,bX,cB,e3,e4,jv,cE,u,gd u];refine zEP s af Q M I N (FI.mk N.len) af λv U=>?_;simp only[Z3,seval,-ae,H,bX,cB,e3,e4,jv,cE,u,gd u,uM,cN];refine zAD s af Q I (G.mono (YV _)) (FI.mk G.len) λv2 Y=>?_;obtain⟨w8,a8,rfl⟩:=U;obtain⟨w9,a9,rfl⟩:=Y;simp only[Z3,seval,-ae,uM,cN];refine Q9 rfl rfl (by have:=(M.pw N (at_ O (i+(1+q))).toNat).len;omega) ?_;by_cases D:pw (mu O P C d) (zv O) (du C i (i+(1+q))) (nx O (i+(1+q)))=Grp.lD O C (mu O P C d) i (eM P (i+(1+q)))
  .simp only[Z3,seval,-ae,eq_true D,Z];refine⟨_,af,q+1,af,rfl,rfl,λl h=>?_⟩;by_cases e:l=q
   .subst e;exact D
   .exact ai l af
  .simp only[Z3,seval,-ae,D];exact fin (no LB λL=>D (by have:=L.pow (i+(1+q)) af u;rwa[R]at this)) (ar _)
 have sw:q=d:=af
 subst sw
 -- second condition
 simp only[Z3,seval,-ae,H];refine zF (λm vs h'=>∃l:Nat,l<=q/\m=q-l/\vs=[.int .i64 i,.ptr σ.aM 0,.ptr (σ.aM+1) 0,.int .i64 (Lu O),.int .i64 i,.int .i64 ((i+(1+l):Nat):Int)]/\
  h'=(σ.bf [.fz w0 V (Lu O) (cS O),.fz w1 W (Lu P) rP,.fz w3 X (Lu C) rC]).bf [.int .i64 0,.int .i64 0,.int .i64 0,.int .i64 0]/\
  ∀t r,t<l->t+(1+r)<q->mu O P C q (du C i (i+(1+(t+(1+r))))) (du C i (i+(1+t)))=mu O P C q (du C i (i+(1+t))) (Grp.lD O C (mu O P C q) i (du C (i+(1+t)) (i+(1+(t+(1+r))))))) q ?_ ?_
 .exact⟨0,af,af,rfl,rfl,λt r h=>af⟩
 rintro m vs h' ⟨t,ht,rfl,rfl,rfl,bc⟩
 refine Lk ?_;refine de (λah=>?_) λaG=>?_
 .have u:i+(1+t)<Lu O:=af
  have sE:i+(1+t)<Lu C:=by rw[s.cl];exact u
  obtain⟨w6,a6,cE⟩:=dz t af;obtain⟨w7,a7,xU,iJ,ub⟩:=AI s hC u;have jv:t<Lu O-1-i:=af
  have N:=s.cj i (i+(1+t)) af af;have e3:Lp .i64 (((i+(1+t):Nat):Int)-(i:Int))=((1+t:Nat):Int):=WQ
  have e4:Lp .i64 (((1+t:Nat):Int)-1)=(t:Int):=WQ
  have Z:Lp .i64 (((i+(1+t):Nat):Int)+1)=((i+(1+(t+1)):Nat):Int):=WQ
  simp only[Z3,seval,-ae,Z];refine zF (λm vs h'=>∃r:Nat,t+(1+r)<=q/\m=q-(t+(1+r))/\vs=[.int .i64 i,.ptr σ.aM 0,.ptr (σ.aM+1) 0,.int .i64 (Lu O),.int .i64 i,.int .i64 ((i+(1+t):Nat):Int),.int .i64 ((i+(1+(t+(1+r))):Nat):Int)]/\
   h'=(σ.bf [.fz w0 V (Lu O) (cS O),.fz w1 W (Lu P) rP,.fz w3 X (Lu C) rC]).bf [.int .i64 0,.int .i64 0,.int .i64 0,.int .i64 0]/\
   ∀E,E<r->t+(1+E)<q->mu O P C q (du C i (i+(1+(t+(1+E))))) (du C i (i+(1+t)))=mu O P C q (du C i (i+(1+t))) (Grp.lD O C (mu O P C q) i (du C (i+(1+t)) (i+(1+(t+(1+E))))))) (q-(t+1)) ?_ ?_
  .exact⟨0,af,af,rfl,rfl,λE h=>af⟩
  rintro m vs h' ⟨r,hr,rfl,rfl,rfl,jA⟩
  refine Lk ?_;refine de (λaD=>?_) λeQ=>?_
  .have lX:i+(1+(t+(1+r)))<Lu O:=af
   obtain⟨w8,a8,mI⟩:=dz (t+(1+r)) af;obtain⟨w9,a9,jS⟩:=ub r af;rw[show i+(1+t)+(1+r)=i+(1+(t+(1+r))) by omega]at jS;have hJ:=s.cj i (i+(1+(t+(1+r)))) af lX;have nH:=s.cj (i+(1+t)) (i+(1+(t+(1+r)))) af lX;have ll:t+(1+r)<Lu O-1-i:=af
   have nk:r<Lu O-1-(i+(1+t)):=af
   have f3:Lp .i64 (((i+(1+(t+(1+r))):Nat):Int)-(i:Int))=((1+(t+(1+r)):Nat):Int):=WQ
   have f4:Lp .i64 (((1+(t+(1+r)):Nat):Int)-1)=((t+(1+r):Nat):Int):=WQ
   have f5:Lp .i64 (((i+(1+(t+(1+r))):Nat):Int)+1)=((i+(1+(t+(1+(r+1)))):Nat):Int):=WQ
   have f6:Lp .i64 (((i+(1+(t+(1+r))):Nat):Int)-((i+(1+t):Nat):Int))=((1+r:Nat):Int):=WQ
   have f7:Lp .i64 (((1+r:Nat):Int)-1)=(r:Int):=WQ
   simp only[Z3,seval,-ae,H,bX,cB,e3,e4,f3,f4,f6,f7,jv,cE,ll,mI,sE,iJ,nk,jS];refine zAD s af Q I (nH.mono (YV _)) (FI.mk nH.len) λv U=>?_;have hz:=zAF s (i:=i) (m:=mu O P C q) (λa b ha hb=>M.cl ha hb) (du C (i+(1+t)) (i+(1+(t+(1+r)))));simp only[Z3,seval,-ae,H,bX,cB,e3,e4,f3,f4,f6,f7,jv,cE,ll,mI,sE,iJ,nk,jS];refine Q I hJ N (FI.mk hJ.len) (FI.mk N.len) λv2 Y=>?_;simp only[Z3,seval,-ae,H];refine Q I N hz (FI.mk N.len) U λv3 pn=>?_;obtain⟨Dv,lL,rfl⟩:=Y;obtain⟨J3,Da,rfl⟩:=pn;refine Lk ?_;refine Q9 rfl rfl (by have:=(M.cl hJ N).len;omega) ?_;by_cases D:mu O P C q (du C i (i+(1+(t+(1+r))))) (du C i (i+(1+t)))=mu O P C q (du C i (i+(1+t))) (Grp.lD O C (mu O P C q) i (du C (i+(1+t)) (i+(1+(t+(1+r))))))
   .simp only[Z3,seval,-ae,eq_true D,f5];refine⟨_,af,r+1,af,rfl,rfl,λE h1 h2=>?_⟩;by_cases e:E=r
    .subst e;exact D
    .exact jA E af h2
   .simp only[Z3,seval,-ae,D];exact fin (no LB λL=>D (by have:=L.cj (i+(1+t)) (i+(1+(t+(1+r)))) af af lX;rwa[R]at this)) (ar _)
  .simp only[Z3,seval,-ae,Z];refine⟨_,af,t+1,af,rfl,rfl,λt' E h1 h2=>?_⟩;by_cases e:t'=t
   .subst e;exact jA E af h2
   .exact bc t' E af h2
 -- third condition
 obtain⟨w6,a6,cN⟩:=CU s hP J;have G:=s.pw i J;simp only[Z3,seval,-ae,dA,cN];refine zAD s af Q I (G.mono (YV _)) (FI.mk G.len) λv U=>?_;obtain⟨w7,a7,rfl⟩:=U;refine Lk ?_;refine Q9 rfl G.len.symm (by have:=(zAF s (i:=i) (m:=mu O P C q) (λa b ha hb=>M.cl ha hb) (eM P i)).len;omega) ?_;by_cases pN:Grp.lD O C (mu O P C q) i (eM P i)=eM P i;rotate_left
 .simp only[Z3,seval,-ae,pN];exact fin (no LB λL=>pN (by have:=L.fix;rwa[R]at this)) (ar _)
 simp only[Z3,seval,-ae,eq_true pN,H]
 -- vE condition
 refine zF (λm vs h'=>∃l:Nat,l<=q/\m=q-l/\vs=[.int .i64 i,.ptr σ.aM 0,.ptr (σ.aM+1) 0,.int .i64 (Lu O),.int .i64 i,.fz w6 a6 (Lu O) (cS (eM P i)),.int .i64 ((i+(1+l):Nat):Int)]/\
  h'=(σ.bf [.fz w0 V (Lu O) (cS O),.fz w1 W (Lu P) rP,.fz w3 X (Lu C) rC]).bf [.int .i64 0,.int .i64 0,.int .i64 0,.int .i64 0]/\
  ∀t,t<l->mu O P C q (eM P i) (iter (Grp.lD O C (mu O P C q) i) (nx O i) (cD (Lu O) (i+(1+t))))=mu O P C q (cD (Lu O) (i+(1+t))) (eM P i)) q ?_ ?_
 .exact⟨0,af,af,rfl,rfl,λt h=>af⟩
 rintro m vs h' ⟨t,ht,rfl,rfl,rfl,jz⟩
 refine Lk ?_;refine Ll (λaG=>?_) λah=>?_
 .exact fin ⟨λ_=>yes ai (λt' E h=>bc t' E af h) pN (λt' h=>jz t' af),λ_=>rfl⟩ (ar _)
 have u:i+(1+t)<Lu O:=af
 have hO:=s.pr i J;have Z:Lp .i64 (((i+(1+t):Nat):Int)+1)=((i+(1+(t+1)):Nat):Int):=WQ
 have Cu:TT O (i+1) (cD (Lu O) (i+(1+t))):=s.unit u af;refine Lk ?_;refine QQ af u λv U=>?_;refine Lk ?_;refine zF (λm vs h'=>∃(k:Nat) (v2:PV) (A:V1),k<=nx O i/\m=nx O i-k/\vs=[.int .i64 i,.ptr σ.aM 0,.ptr (σ.aM+1) 0,.int .i64 (Lu O),.int .i64 i,.fz w6 a6 (Lu O) (cS (eM P i)),.int .i64 ((i+(1+t):Nat):Int),v,v2,.int .i64 k]/\
  h'=(σ.bf [.fz w0 V (Lu O) (cS O),.fz w1 W (Lu P) rP,.fz w3 X (Lu C) rC]).bf [.int .i64 0,.int .i64 0,.int .i64 0,.int .i64 0]/\FI v2 A/\TT O (i+1) A/\iter (Grp.lD O C (mu O P C q) i) (nx O i-k) A=iter (Grp.lD O C (mu O P C q) i) (nx O i) (cD (Lu O) (i+(1+t)))) (nx O i) ?_ ?_
 .exact⟨0,v,_,af,af,rfl,rfl,U,Cu,rfl⟩
 rintro m vs h' ⟨k,v2,A,bM,rfl,rfl,rfl,Y,hA,bw⟩
 have cb:((nx O i:Nat):Int)=at_ O i:=YD af;simp only[Z3,seval,-ae,gd J,J];refine de (λaD=>?_) λeQ=>?_
 .have bN:k<nx O i:=af
  refine zAD s af Q I (hA.mono (YV _)) Y λv3 pn=>?_;simp only[Z3,seval,-ae,WX bN];refine⟨_,af,k+1,v3,_,af,rfl,rfl,pn,zAF s (λa b ha hb=>M.cl ha hb) _,?_⟩;rw[show nx O i-k=(nx O i-(k+1))+1 by omega]at bw;exact bw
 have eg:k=nx O i:=af
 subst eg;rw[Yk]at bw;have Ba:A=iter (Grp.lD O C (mu O P C q) i) (nx O i) (cD (Lu O) (i+(1+t))):=bw;subst Ba;simp only[Z3,seval,-ae,H];refine Q I G hA (FI.mk G.len) Y λv3 pn=>?_;simp only[Z3,seval,-ae,H];refine Q I Cu G U (FI.mk G.len) λv4 Ct=>?_;obtain⟨w8,a8,rfl⟩:=pn;obtain⟨w9,a9,rfl⟩:=Ct;refine Lk ?_;refine Q9 rfl rfl (by have:=(M.cl G hA).len;omega) ?_;by_cases D:mu O P C q (eM P i) (iter (Grp.lD O C (mu O P C q) i) (nx O i) (cD (Lu O) (i+(1+t))))=mu O P C q (cD (Lu O) (i+(1+t))) (eM P i)
 .simp only[Z3,seval,-ae,eq_true D,Z];refine⟨_,af,t+1,af,rfl,rfl,λt' h=>?_⟩;by_cases e:t'=t
  .subst e;exact D
  .exact jz t' af
 .simp only[Z3,seval,-ae,D];exact fin (no LB λL=>D (by have:=L.inn (i+(1+t)) af u;rwa[R]at this)) (ar _)
end
end Go.Proofs
