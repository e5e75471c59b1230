/- . -/
import Derived.Test.YtnfnaniemocleaaGreatEP5
import Derived.Test.YtnfnaniemocleaaGreatEP4
open Int renaming reduceNatCast'->ae
set_option maxRecDepth 100000
set_option linter.unusedSimpArgs false
set_option linter.unusedVariables false
set_option linter.unusedSectionVars false
namespace Go.Grp
end Go.Grp
namespace Go.Proofs
open Go.Ab Go.Lie Go.Grp
variable{rC rP:List PV}{d j sp:Nat}{σ:PHeap}{vC vO vP:PV}{K:PV->PHeap->Prop}{O a x:V1}{P:V2}{C:V3}
section
variable{b:V1}
theorem zHW(s:Shp O P C)(F:Full O P C d){i:Nat}(hi:O.length=d+(i+1))(hs:PtrG σ sp vO vP vC)(hR:IsPr vO vP vC O P C)
  (hk:∀I f1 f2 J:Int,((I=0/\f1=0/\f2=0/\J=0/\Lv O P C i)\/(I≠0/\¬Lv O P C i))->K (.agg [.int .i64 I,.int .i64 f1,.int .i64 f2,.int .i64 J]) σ):zA Tryz.prog 190 [.ptr sp 0,.int .i64 i] σ K:=by
 have be:=s.le;have W:=hR;have R:i<O.length:=by omega
 have M:=F.gp.toMon;have a2:=F.gp;have T:O.length-d=i+1:=by omega
 have V:O.length-1-i=d:=by omega
 have X:¬sp=σ.next:=Nat.ne_of_lt hs.lt;have Z:∀cs,PtrG (σ.new cs) sp vO vP vC:=λcs=>hs.new cs;have yes:((∀q,q<d->pw (mu O P C d) (zv O) (cvec C i (i+(1+q))) (nx O (i+(1+q)))=Grp.img O C (mu O P C d) i (pvec P (i+(1+q))))->
   (∀q r,q+(1+r)<d->mu O P C d (cvec C i (i+(1+(q+(1+r))))) (cvec C i (i+(1+q)))=mu O P C d (cvec C i (i+(1+q))) (Grp.img O C (mu O P C d) i (cvec C (i+(1+q)) (i+(1+(q+(1+r)))))))->
   Grp.img O C (mu O P C d) i (pvec P i)=pvec P i->
   (∀q,q<d->mu O P C d (pvec P i) (iter (Grp.img O C (mu O P C d) i) (nx O i) (unitL O.length (i+(1+q))))=mu O P C d (unitL O.length (i+(1+q))) (pvec P i))->Lv O P C i):=λh1 h2 h3 h4=>by
  refine⟨λj g1 g2=>?_,λj k g1 g2 g3=>?_,?_,λj g1 g2=>?_⟩
  .have:=h1 (j-i-1) (by omega);rw[show i+(1+(j-i-1))=j by omega]at this;rw[V];exact this
  .have:=h2 (j-i-1) (k-j-1) (by omega);rw[show i+(1+(j-i-1))=j by omega,show i+(1+(j-i-1+(1+(k-j-1))))=k by omega]at this;rw[V];exact this
  .rw[V];exact h3
  .have:=h4 (j-i-1) (by omega);rw[show i+(1+(j-i-1))=j by omega]at this;rw[V];exact this
 have sW:∀x,TT O (O.length-d) (Grp.img O C (mu O P C d) i x):=λx=>by
  rw[T];exact Qr s (λa b ha hb=>by have:=M.cl (a:=a) (b:=b) (by rw[T];exact ha) (by rw[T];exact hb);rwa[T]at this) x
 obtain⟨⟨w0,a0,rfl⟩,⟨w1,a1,rP,rfl,hP⟩,⟨w3,a3,rC,rfl,hC⟩⟩:=hR;obtain⟨w5,a5,rs,cB,dy⟩:=cvRow s hC R;have bU:i<C.length:=by rw[s.cl];exact R
 have dA:i<P.length:=by rw[s.pl];exact R
 have e0:σ.rd1 sp 0=some (.fz w0 a0 O.length (pis O)):=by rw[zI hs.obj];rfl
 have e1:σ.rd1 sp 1=some (.fz w1 a1 P.length rP):=by rw[zI hs.obj];rfl
 have e2:σ.rd1 sp 2=some (.fz w3 a3 C.length rC):=by rw[zI hs.obj];rfl
 refine zA.gh ?_;have fin:∀{I f1 f2 J:Int} {σ':PHeap},((I=0/\f1=0/\f2=0/\J=0/\Lv O P C i)\/(I≠0/\¬Lv O P C i))->Keep σ σ'->Gh σ K (.agg [.int .i64 I,.int .i64 f1,.int .i64 f2,.int .i64 J]) σ':=λh k=>Gh.fin0 k ⟨trivial,trivial,trivial,trivial,trivial⟩ (hk _ _ _ _ h);have no:∀{I f1 f2 J:Int},I≠0->¬Lv O P C i->((I=0/\f1=0/\f2=0/\J=0/\Lv O P C i)\/(I≠0/\¬Lv O P C i)):=λh g=>.inr ⟨h,g⟩;have aq:∀cs:List PV,Keep σ (σ.new cs):=λcs=>zC σ _;have Y:IntKind.i64.wrap ((i:Int)+1)=((i+1:Nat):Int):=wrapS R (by omega);refine qG mix Tryz.func190 ?_;simp only[Z3,seval,-ae,e0,X]
 -- first condition
 simp only[Z3,seval,-ae,Y];refine zF (λm vs h'=>∃q:Nat,q<=d/\m=d-q/\vs=[.ptr sp 0,.int .i64 i,.ptr σ.next 0,.int .i64 O.length,.int .i64 i,.int .i64 ((i+(1+q):Nat):Int)]/\
  h'=σ.new [.int .i64 0,.int .i64 0,.int .i64 0,.int .i64 0]/\∀E,E<q->pw (mu O P C d) (zv O) (cvec C i (i+(1+E))) (nx O (i+(1+E)))=Grp.img O C (mu O P C d) i (pvec P (i+(1+E)))) d ?_ ?_
 .exact⟨0,by omega,by omega,rfl,rfl,λq h=>by omega⟩
 rintro m vs h' ⟨q,hq,rfl,rfl,rfl,ai⟩
 simp only[Z3,seval,-ae];refine iteI (λah=>?_) λaF=>?_
 .have l:i+(1+q)<O.length:=by omega
  have tX:i+(1+q)<P.length:=by rw[s.pl];exact l
  obtain⟨w6,a6,cK⟩:=dy q (by omega);obtain⟨w7,a7,dk⟩:=pvRow s hP l;have iX:q<O.length-1-i:=by omega
  have bG:=s.cj i (i+(1+q)) (by omega) (by omega);have mI:TT O (O.length-d) (cvec C i (i+(1+q))):=by rw[T];exact bG
  have U:=s.pw (i+(1+q)) l;have hO:=s.pr _ l;have e3:IntKind.i64.wrap (((i+(1+q):Nat):Int)-(i:Int))=((1+q:Nat):Int):=WQ
  have e4:IntKind.i64.wrap (((1+q:Nat):Int)-1)=(q:Int):=WQ
  have e5:IntKind.i64.wrap (((i+(1+q):Nat):Int)+1)=((i+(1+(q+1)):Nat):Int):=WQ
  simp only[Z3,seval,-ae,e0,e1,e2,X,Y,bU,cB,e3,e4,iX,cK,l,pisAt l,tX,dk];refine Qz s F (Z _) W mI (FI.mk bG.len) (by omega) λv hv=>?_;simp only[Z3,seval,-ae,e0,e1,e2,X,Y,bU,cB,e3,e4,iX,cK,l,pisAt l,tX,dk];refine zBE s F hi (Z _) W (U.mono (YW _)) (FI.mk U.len) λv2 cH=>?_;obtain⟨w8,a8,rfl⟩:=hv;obtain⟨w9,a9,rfl⟩:=cH;simp only[Z3,seval,-ae];refine zAo rfl rfl (by have:=(M.pw mI (at_ O (i+(1+q))).toNat).len;omega) ?_;by_cases G:pw (mu O P C d) (zv O) (cvec C i (i+(1+q))) (nx O (i+(1+q)))=Grp.img O C (mu O P C d) i (pvec P (i+(1+q)))
  .simp only[Z3,seval,-ae,eq_true G,e5];refine⟨_,by omega,q+1,by omega,rfl,rfl,λE h=>?_⟩;by_cases e:E=q
   .subst e;exact G
   .exact ai E (by omega)
  .simp only[Z3,seval,-ae,G];exact fin (no (by decide) λL=>G (by have:=L.pow (i+(1+q)) (by omega) l;rwa[V]at this)) (aq _)
 have qt:q=d:=by omega
 subst qt
 -- second condition
 simp only[Z3,seval,-ae,Y];refine zF (λm vs h'=>∃E:Nat,E<=q/\m=q-E/\vs=[.ptr sp 0,.int .i64 i,.ptr σ.next 0,.int .i64 O.length,.int .i64 i,.int .i64 ((i+(1+E):Nat):Int)]/\
  h'=σ.new [.int .i64 0,.int .i64 0,.int .i64 0,.int .i64 0]/\
  ∀t r,t<E->t+(1+r)<q->mu O P C q (cvec C i (i+(1+(t+(1+r))))) (cvec C i (i+(1+t)))=mu O P C q (cvec C i (i+(1+t))) (Grp.img O C (mu O P C q) i (cvec C (i+(1+t)) (i+(1+(t+(1+r))))))) q ?_ ?_
 .exact⟨0,by omega,by omega,rfl,rfl,λt r h=>by omega⟩
 rintro m vs h' ⟨t,ht,rfl,rfl,rfl,aV⟩
 simp only[Z3,seval,-ae];refine iteI (λah=>?_) λaF=>?_
 .have l:i+(1+t)<O.length:=by omega
  have rf:i+(1+t)<C.length:=by rw[s.cl];exact l
  obtain⟨w6,a6,cK⟩:=dy t (by omega);obtain⟨w7,a7,xe,gT,tu⟩:=cvRow s hC l;have iX:t<O.length-1-i:=by omega
  have bG:=s.cj i (i+(1+t)) (by omega) (by omega);have mI:TT O (O.length-q) (cvec C i (i+(1+t))):=by rw[T];exact bG
  have e3:IntKind.i64.wrap (((i+(1+t):Nat):Int)-(i:Int))=((1+t:Nat):Int):=WQ
  have e4:IntKind.i64.wrap (((1+t:Nat):Int)-1)=(t:Int):=WQ
  have e5:IntKind.i64.wrap (((i+(1+t):Nat):Int)+1)=((i+(1+(t+1)):Nat):Int):=WQ
  simp only[Z3,seval,-ae,e5];refine zF (λm vs h'=>∃r:Nat,t+(1+r)<=q/\m=q-(t+(1+r))/\vs=[.ptr sp 0,.int .i64 i,.ptr σ.next 0,.int .i64 O.length,.int .i64 i,.int .i64 ((i+(1+t):Nat):Int),.int .i64 ((i+(1+(t+(1+r))):Nat):Int)]/\
   h'=σ.new [.int .i64 0,.int .i64 0,.int .i64 0,.int .i64 0]/\
   ∀H,H<r->t+(1+H)<q->mu O P C q (cvec C i (i+(1+(t+(1+H))))) (cvec C i (i+(1+t)))=mu O P C q (cvec C i (i+(1+t))) (Grp.img O C (mu O P C q) i (cvec C (i+(1+t)) (i+(1+(t+(1+H))))))) (q-(t+1)) ?_ ?_
  .exact⟨0,by omega,by omega,rfl,rfl,λH h=>by omega⟩
  rintro m vs h' ⟨r,hr,rfl,rfl,rfl,jf⟩
  simp only[Z3,seval,-ae];refine iteI (λar=>?_) λez=>?_
  .have lh:i+(1+(t+(1+r)))<O.length:=by omega
   obtain⟨w8,a8,lY⟩:=dy (t+(1+r)) (by omega);obtain⟨w9,a9,jB⟩:=tu r (by omega);rw[show i+(1+t)+(1+r)=i+(1+(t+(1+r))) by omega]at jB;have jb:=s.cj i (i+(1+(t+(1+r)))) (by omega) lh;have Ao:TT O (O.length-q) (cvec C i (i+(1+(t+(1+r))))):=by rw[T];exact jb
   have mH:=s.cj (i+(1+t)) (i+(1+(t+(1+r)))) (by omega) lh;have kE:t+(1+r)<O.length-1-i:=by omega
   have mr:r<O.length-1-(i+(1+t)):=by omega
   have J:IntKind.i64.wrap (((i+(1+(t+(1+r))):Nat):Int)-(i:Int))=((1+(t+(1+r)):Nat):Int):=WQ
   have f4:IntKind.i64.wrap (((1+(t+(1+r)):Nat):Int)-1)=((t+(1+r):Nat):Int):=WQ
   have f5:IntKind.i64.wrap (((i+(1+(t+(1+r))):Nat):Int)+1)=((i+(1+(t+(1+(r+1)))):Nat):Int):=WQ
   have f6:IntKind.i64.wrap (((i+(1+(t+(1+r))):Nat):Int)-((i+(1+t):Nat):Int))=((1+r:Nat):Int):=WQ
   have f7:IntKind.i64.wrap (((1+r:Nat):Int)-1)=(r:Int):=WQ
   simp only[Z3,seval,-ae,e0,e1,e2,X,Y,bU,cB,e3,e4,J,f4,f6,f7,iX,cK,kE,lY,rf,gT,mr,jB];refine zAV s F (Z _) W Ao mI (FI.mk jb.len) (FI.mk bG.len) λv z dE db hv=>?_;simp only[Z3,seval,-ae,e0,e1,e2,X,Y,bU,cB,e3,e4,J,f4,f6,f7,iX,cK,kE,lY,rf,gT,mr,jB];refine zBE s F hi (Z _) W (mH.mono (YW _)) (FI.mk mH.len) λv2 cH=>?_;have hz:=sW (cvec C (i+(1+t)) (i+(1+(t+(1+r)))));obtain⟨C7,nD,rfl⟩:=hv;obtain⟨Kd,CF,rfl⟩:=cH;simp only[Z3,seval,-ae];refine zAo rfl rfl (by have:=dE.len;omega) ?_;by_cases G:z=Grp.img O C (mu O P C q) i (cvec C (i+(1+t)) (i+(1+(t+(1+r)))))
   .simp only[Z3,seval,-ae,eq_true G,f5];refine⟨_,by omega,r+1,by omega,rfl,rfl,λH h1 h2=>?_⟩;by_cases e:H=r
    .subst e;rw[<-G];exact db.symm
    .exact jf H (by omega) h2
   .simp only[Z3,seval,-ae,G];exact fin (no (by decide) λL=>G (by
     have:=L.cj (i+(1+t)) (i+(1+(t+(1+r)))) (by omega) (by omega) lh
     rw[V]at this;exact a2.cancel mI dE hz (db.trans this))) (aq _)
  .simp only[Z3,seval,-ae,e5];refine⟨_,by omega,t+1,by omega,rfl,rfl,λt' H h1 h2=>?_⟩;by_cases e:t'=t
   .subst e;exact jf H (by omega) h2
   .exact aV t' H (by omega) h2
 -- third condition
 obtain⟨w6,a6,dk⟩:=pvRow s hP R;have U:=s.pw i R;have yJ:TT O (O.length-q) (pvec P i):=by rw[T];exact U
 simp only[Z3,seval,-ae,e1,X,dA,dk];refine zBE s F hi (Z _) W (U.mono (YW _)) (FI.mk U.len) λv hv=>?_;obtain⟨w7,a7,rfl⟩:=hv;simp only[Z3,seval,-ae];refine zAo rfl U.len.symm (by have:=(sW (pvec P i)).len;omega) ?_;by_cases oX:Grp.img O C (mu O P C q) i (pvec P i)=pvec P i;rotate_left
 .simp only[Z3,seval,-ae,oX];exact fin (no (by decide) λL=>oX (by have:=L.fix;rwa[V]at this)) (aq _)
 simp only[Z3,seval,-ae,eq_true oX,Y]
 -- uG condition
 refine zF (λm vs h'=>∃E:Nat,E<=q/\m=q-E/\vs=[.ptr sp 0,.int .i64 i,.ptr σ.next 0,.int .i64 O.length,.int .i64 i,.fz w6 a6 O.length (pis (pvec P i)),.int .i64 ((i+(1+E):Nat):Int)]/\
  h'=σ.new [.int .i64 0,.int .i64 0,.int .i64 0,.int .i64 0]/\
  ∀t,t<E->mu O P C q (pvec P i) (iter (Grp.img O C (mu O P C q) i) (nx O i) (unitL O.length (i+(1+t))))=mu O P C q (unitL O.length (i+(1+t))) (pvec P i)) q ?_ ?_
 .exact⟨0,by omega,by omega,rfl,rfl,λt h=>by omega⟩
 rintro m vs h' ⟨t,ht,rfl,rfl,rfl,je⟩
 simp only[Z3,seval,-ae];refine iteI (λah=>?_) λaF=>?_;rotate_left
 .exact fin (.inl ⟨rfl,rfl,rfl,rfl,yes ai (λt' H h=>aV t' H (by omega) h) oX (λt' h=>je t' (by omega))⟩) (aq _)
 have l:i+(1+t)<O.length:=by omega
 have hO:=s.pr i R;have e5:IntKind.i64.wrap (((i+(1+t):Nat):Int)+1)=((i+(1+(t+1)):Nat):Int):=WQ
 have BR:TT O (i+1) (unitL O.length (i+(1+t))):=s.unit l (by omega);have yk:TT O (O.length-q) (unitL O.length (i+(1+t))):=by rw[T];exact BR
 simp only[Z3,seval,-ae];refine qC (by omega) l λav=>?_;simp only[Z3,seval,-ae,e0,X,R,pisAt R];refine zF (λm vs h'=>∃(k:Nat) (v2:PV) (A:V1),k<=nx O i/\m=nx O i-k/\vs=[.ptr sp 0,.int .i64 i,.ptr σ.next 0,.int .i64 O.length,.int .i64 i,.fz w6 a6 O.length (pis (pvec P i)),.int .i64 ((i+(1+t):Nat):Int),v2,.int .i64 (at_ O i),.int .i64 k]/\
  h'=σ.new [.int .i64 0,.int .i64 0,.int .i64 0,.int .i64 0]/\FI v2 A/\TT O (O.length-q) A/\iter (Grp.img O C (mu O P C q) i) (nx O i-k) A=iter (Grp.img O C (mu O P C q) i) (nx O i) (unitL O.length (i+(1+t)))) (nx O i) ?_ ?_
 .exact⟨0,.fz true av O.length (pis (unitL O.length (i+(1+t)))),_,by omega,by omega,rfl,rfl,FI.mk (zQ _ _),yk,rfl⟩
 rintro m vs h' ⟨k,v2,A,bN,rfl,rfl,rfl,cH,hA,bn⟩
 have cb:((nx O i:Nat):Int)=at_ O i:=YI (by omega);simp only[Z3,seval,-ae];refine iteI (λar=>?_) λez=>?_
 .have bK:k<nx O i:=by omega
  refine zBE s F hi (Z _) W (hA.mono (YW _)) cH λv3 om=>?_;simp only[Z3,seval,-ae,WX bK];refine⟨_,by omega,k+1,v3,_,by omega,rfl,rfl,om,sW _,?_⟩;rw[show nx O i-k=(nx O i-(k+1))+1 by omega]at bn;exact bn
 have fe:k=nx O i:=by omega
 subst fe;rw[Yv]at bn;have AI:A=iter (Grp.img O C (mu O P C q) i) (nx O i) (unitL O.length (i+(1+t))):=bn;subst AI;simp only[Z3,seval,-ae];refine qC (by omega) l λTa=>?_;simp only[Z3,seval,-ae];refine zAV s F (Z _) W yk yJ (FI.mk (zQ _ _)) (FI.mk U.len) λv z dE db hv=>?_;obtain⟨w8,a8,rfl⟩:=cH;obtain⟨w9,a9,rfl⟩:=hv;simp only[Z3,seval,-ae];refine zAo rfl rfl (by have:=hA.len;omega) ?_;by_cases G:iter (Grp.img O C (mu O P C q) i) (nx O i) (unitL O.length (i+(1+t)))=z
 .simp only[Z3,seval,-ae,eq_true G,e5];refine⟨_,by omega,t+1,by omega,rfl,rfl,λt' h=>?_⟩;by_cases e:t'=t
  .subst e;rw[G];exact db
  .exact je t' (by omega)
 .simp only[Z3,seval,-ae,G];exact fin (no (by decide) λL=>G (by
   have:=L.inn (i+(1+t)) (by omega) l
   rw[V]at this;exact a2.cancel yJ hA dE (this.trans db.symm))) (aq _)
end
theorem zEd(s:Shp O P C)(hs:PtrG σ sp vO vP vC)(I:IsPr vO vP vC O P C)(J:∀r:Int,(r=0↔Cons O P C)->K (.int .i64 r) σ):zA Tryz.prog 126 [.ptr sp 0] σ K:=by
 have be:=s.le;have T:=I;have U:=hs;obtain⟨⟨w0,R,rfl⟩,⟨w1,a1,rP,rfl,hP⟩,⟨w3,a3,rC,rfl,hC⟩⟩:=I;have V:σ.rd1 sp 0=some (.fz w0 R O.length (pis O)):=by rw[zI hs.obj];rfl
 refine zD mix Tryz.func126 ?_;simp only[Z3,seval,-ae,V];refine zF (λm vs h'=>∃k:Nat,k<=O.length/\m=k/\vs=[.ptr sp 0,.int .i64 k]/\σ=h'/\∀j,k<=j->j<O.length->Lv O P C j) O.length ?_ ?_
 .exact⟨O.length,na _,rfl,rfl,rfl,λj H l=>by omega⟩
 rintro m vs h' ⟨k,lh,rfl,rfl,rfl,G⟩
 rcases Nat.eq_zero_or_pos m with rfl|yX
 .have OF:¬((0:Int)<((0:Nat):Int)):=by omega
  simp only[Z3,seval,-ae,OF];exact J _ ⟨λ_ j Y=>G j (YW _) Y,λ_=>rfl⟩
 obtain⟨i,rfl⟩:∃i,m=i+1:=⟨m-1,by omega⟩
 have E:(0:Int)<((i+1:Nat):Int):=by omega
 have hw:IntKind.i64.wrap (((i+1:Nat):Int)-1)=(i:Int):=WQ
 have F:Full O P C (O.length-(i+1)):=full_of s (by omega) λj H l=>G j (by omega) l;simp only[Z3,seval,-ae,E,hw];refine zHW s F (i:=i) (by omega) U T λf0 f1 f2 f3 X=>?_;rcases X with ⟨rfl,rfl,rfl,rfl,L⟩|⟨W,Z⟩
 .simp only[Z3,seval,-ae,E,hw];refine⟨i,by omega,i,by omega,rfl,rfl,λj H l=>?_⟩;by_cases e:j=i
  .subst e;exact L
  .exact G j (by omega) l
 .simp only[Z3,seval,-ae,E,hw,W,Bool.false_and];exact J _ ⟨λh=>absurd h (by omega),λh=>absurd (h i (by omega)) Z⟩
theorem zGT(l:IsPr vO vP vC O P C)(sz:SzP O P C)(E:∀t:Bool,(t=true↔qE O P C/\Cons O P C)->K (.bool t) σ):zA Tryz.prog 65 [.agg [vO,vP,vC]] σ K:=by
 have T:=l.O.one;have U:=l.P.one;have V:=l.C.one;have R:∀{A:Prop},¬A->((false=true)↔A):=λh=>⟨λx=>(by cases x),λx=>absurd x h⟩
 have J:PtrG (σ.new [vO,vP,vC]) σ.next vO vP vC:=⟨by simp only[Z3,seval,-ae],by simp only[Z3,seval,-ae]⟩
 refine zA.gh ?_;refine zD mix Tryz.func65 ?_;simp only[Z3,seval,-ae,T,U,V];refine zEe l sz λt I=>?_;cases t with
 |false=>
  simp only[Z3,seval,-ae];exact Gh.fin0 (zC σ _) trivial (E _ (R λh=>by cases I.2 h.1))
 |true=>
  have G:=I.1 rfl;simp only[Z3,seval,-ae];refine zEd G.shp J l λr H=>?_;simp only[Z3,seval,-ae];exact Gh.fin0 (zC σ _) trivial (E _ (by rw[decide_eq_true_iff];exact⟨λh=>⟨G,H.1 h⟩,λh=>H.2 h.2⟩))
def cenE(C:V3)(i q:Nat):Prop:=at_ (cvec C i (i+(1+q))) (i+(1+q))=1/\isZ ((cvec C i (i+(1+q))).take (i+(1+q)))
def isCen(O:V1)(C:V3):Prop:=∀i,i<O.length->at_ O i=at_ O 0/\∀q,i+(1+q)<O.length->cenE C i q
theorem zIf(s:Shp O P C)(hs:PtrG σ sp vO vP vC)(hR:IsPr vO vP vC O P C)(I:∀t:Bool,(t=true↔isCen O C)->K (.bool t) σ):zA Tryz.prog 161 [.ptr sp 0] σ K:=by
 have T:∀{A:Prop},¬A->((false=true)↔A):=λh=>⟨λx=>(by cases x),λx=>absurd x h⟩
 have be:=s.le;obtain⟨⟨U,R,rfl⟩,⟨w1,a1,rP,rfl,hP⟩,⟨w3,a3,rC,rfl,hC⟩⟩:=hR;have e0:σ.rd1 sp 0=some (.fz U R O.length (pis O)):=by rw[zI hs.obj];rfl
 have e2:σ.rd1 sp 2=some (.fz w3 a3 C.length rC):=by rw[zI hs.obj];rfl
 refine zD mix Tryz.func161 ?_;simp only[Z3,seval,-ae,e0];refine zF (λm vs h'=>∃i:Nat,i<=O.length/\m=O.length-i/\vs=[.ptr sp 0,.fz U R O.length (pis O),.int .i64 O.length,.int .i64 i]/\σ=h'/\∀t,t<i->at_ O t=at_ O 0/\∀q,t+(1+q)<O.length->cenE C t q) O.length ?_ ?_
 .exact⟨0,by omega,by omega,rfl,rfl,λt h=>by omega⟩
 rintro m vs h' ⟨i,hi,rfl,rfl,rfl,Y⟩
 simp only[Z3,seval,-ae];refine iteI (λl=>?_) λaF=>?_;rotate_left
 .exact I _ ⟨λ_ t ht=>Y t (by omega),λ_=>rfl⟩
 have V:0<O.length:=by omega
 have kP:(0:Int)<(O.length:Int):=by omega
 have bU:i<C.length:=by rw[s.cl];exact l
 obtain⟨w5,a5,rs,cB,dy⟩:=cvRow s hC l;simp only[Z3,seval,-ae,e0,l,V,kP,pisAt l,pisAt V];by_cases heq:at_ O i=at_ O 0;rotate_left
 .simp only[Z3,seval,-ae,heq];exact I _ (T λh=>heq (h i l).1)
 simp only[Z3,seval,-ae,eq_true heq,e2,bU,cB];refine zF (λm vs h'=>∃k:Nat,k<=O.length-1-i/\m=O.length-1-i-k/\vs=[.ptr sp 0,.int .i64 i,.fz U R O.length (pis O),.int .i64 O.length,.int .i64 i,.fz w5 a5 (O.length-1-i) rs,.int .i64 ((O.length-1-i:Nat):Int),.int .i64 k]/\σ=h'/\∀q,q<k->cenE C i q) (O.length-1-i) ?_ ?_
 .exact⟨0,by omega,by omega,rfl,rfl,λt h=>by omega⟩
 rintro m vs h' ⟨k,bQ,rfl,rfl,rfl,X⟩
 simp only[Z3,seval,-ae];refine iteI (λH=>?_) λez=>?_;rotate_left
 .simp only[Z3,seval,-ae,WX l];refine⟨_,by omega,i+1,by omega,rfl,rfl,λt h=>?_⟩;by_cases e:t=i
  .subst e;exact⟨heq,λq hq=>X q (by omega)⟩
  .exact Y t (by omega)
 obtain⟨w6,a6,cK⟩:=dy k H;have E:i+(1+k)<O.length:=by omega
 have bG:=s.cj i (i+(1+k)) (by omega) E;have W:i+(1+k)<(cvec C i (i+(1+k))).length:=by rw[bG.len];exact E
 have Z:IntKind.i64.wrap ((i:Int)+1)=((i+1:Nat):Int):=wrapS l (by omega);have e3:IntKind.i64.wrap (((i+1:Nat):Int)+(k:Int))=((i+(1+k):Nat):Int):=WQ
 have ig:((i+(1+k):Nat):Int)<=(O.length:Int):=by omega
 have OC:(0:Int)<=((i+(1+k):Nat):Int):=by omega
 by_cases G:at_ (cvec C i (i+(1+k))) (i+(1+k))=1;rotate_left
 .simp only[Z3,seval,-ae,H,cK,Z,e3,E,pisAt W,G];exact I _ (T λh=>G ((h i l).2 k E).1)
 simp only[Z3,seval,-ae,H,cK,Z,e3,E,pisAt W,G,ig,zBd,Nat.sub_zero];refine Zu (by rw[Yu,Nat.min_eq_left (by omega)]) (by rw[Yu];omega) ?_;by_cases J:isZ ((cvec C i (i+(1+k))).take (i+(1+k)))
 .simp only[Z3,seval,-ae,J,WX H];refine⟨_,by omega,k+1,by omega,rfl,rfl,λq h=>?_⟩;by_cases e:q=k
  .subst e;exact⟨G,J⟩
  .exact X q (by omega)
 .simp only[Z3,seval,-ae,J];exact I _ (T λh=>J ((h i l).2 k E).2)
theorem zHY(hR:IsPr vO vP vC O P C)(sz:SzP O P C)(hk:∀t:Bool,(t=true↔(qE O P C/\Cons O P C)/\isCen O C)->K (.bool t) σ):zA Tryz.prog 168 [.agg [vO,vP,vC]] σ K:=by
 have I:∀{A:Prop},¬A->((false=true)↔A):=λh=>⟨λx=>(by cases x),λx=>absurd x h⟩
 have aK:=hR;obtain⟨⟨X,R,rfl⟩,⟨w1,T,rP,rfl,hP⟩,⟨Y,U,rC,rfl,hC⟩⟩:=hR;refine zA.gh ?_;have fin:∀{t:Bool} {σ':PHeap},(t=true↔(qE O P C/\Cons O P C)/\isCen O C)->Keep σ σ'->Gh σ K (.bool t) σ':=λh k=>Gh.fin0 k trivial (hk _ h);have G:=zC σ [.fz X R O.length (pis O),.fz w1 T P.length rP,.fz Y U C.length rC];refine zD mix Tryz.func168 ?_;simp only[Z3,seval,-ae];refine zEs aK sz λt V=>?_;cases t with
 |false=>
  simp only[Z3,seval,-ae];exact fin (I λh=>by cases V.2 h.1) G
 |true=>
 have hp:=V.1 rfl;have s:=hp.1.shp;have be:=s.le;simp only[Z3,seval,-ae];refine zF (λm vs h'=>∃i:Nat,i<=O.length/\m=O.length-i/\vs=[.ptr σ.next 0,.int .i64 i]/\h'=σ.new [.fz X R O.length (pis O),.fz w1 T P.length rP,.fz Y U C.length rC]/\∀t,t<i->at_ O t=at_ O 0/\∀q,t+(1+q)<O.length->cenE C t q) O.length ?_ ?_
 .exact⟨0,by omega,by omega,rfl,rfl,λt h=>by omega⟩
 rintro m vs h' ⟨i,hi,rfl,rfl,rfl,ai⟩
 simp only[Z3,seval,-ae];refine iteI (λl=>?_) λaF=>?_;rotate_left
 .exact fin ⟨λ_=>⟨hp,λt V=>ai t (by omega)⟩,λ_=>rfl⟩ G
 have Z:0<O.length:=by omega
 have kP:(0:Int)<(O.length:Int):=by omega
 have bU:i<C.length:=by rw[s.cl];exact l
 obtain⟨w5,a5,rs,cB,dy⟩:=cvRow s hC l;simp only[Z3,seval,-ae,l,Z,kP,pisAt l,pisAt Z];by_cases heq:at_ O i=at_ O 0;rotate_left
 .simp only[Z3,seval,-ae,heq];exact fin (I λh=>heq (h.2 i l).1) G
 have bM:IntKind.i64.wrap ((i:Int)+1)=((i+1:Nat):Int):=wrapS l (by omega);simp only[Z3,seval,-ae,eq_true heq,bM];refine zF (λm vs h'=>∃k:Nat,i+(1+k)<=O.length/\m=O.length-(i+(1+k))/\vs=[.ptr σ.next 0,.int .i64 i,.int .i64 ((i+(1+k):Nat):Int)]/\h'=σ.new [.fz X R O.length (pis O),.fz w1 T P.length rP,.fz Y U C.length rC]/\∀q,q<k->cenE C i q) (O.length-(i+1)) ?_ ?_
 .exact⟨0,by omega,by omega,rfl,rfl,λt h=>by omega⟩
 rintro m vs h' ⟨k,bQ,rfl,rfl,rfl,aV⟩
 simp only[Z3,seval,-ae];refine iteI (λar=>?_) λez=>?_;rotate_left
 .simp only[Z3,seval,-ae,bM];refine⟨_,by omega,i+1,by omega,rfl,rfl,λt h=>?_⟩;by_cases e:t=i
  .subst e;exact⟨heq,λq hq=>aV q (by omega)⟩
  .exact ai t (by omega)
 have E:i+(1+k)<O.length:=ar;have W:k<O.length-1-i:=by omega
 obtain⟨w6,a6,cK⟩:=dy k W;have bG:=s.cj i (i+(1+k)) (by omega) E;have Ac:i+(1+k)<(cvec C i (i+(1+k))).length:=by rw[bG.len];exact E
 have e3:IntKind.i64.wrap (((i+(1+k):Nat):Int)-(i:Int))=((1+k:Nat):Int):=WQ
 have e4:IntKind.i64.wrap (((1+k:Nat):Int)-1)=(k:Int):=WQ
 have e5:IntKind.i64.wrap (((i+(1+k):Nat):Int)+1)=((i+(1+(k+1)):Nat):Int):=WQ
 have ig:((i+(1+k):Nat):Int)<=(O.length:Int):=by omega
 by_cases H:at_ (cvec C i (i+(1+k))) (i+(1+k))=1;rotate_left
 .simp only[Z3,seval,-ae,bU,cB,W,cK,e3,e4,E,pisAt Ac,H];exact fin (I λh=>H ((h.2 i l).2 k E).1) G
 simp only[Z3,seval,-ae,bU,cB,W,cK,e3,e4,E,pisAt Ac,H,ig,zBd,Nat.sub_zero];refine ZO (by rw[Yu,Nat.min_eq_left (by omega)]) (by rw[Yu];omega) ?_;by_cases J:isZ ((cvec C i (i+(1+k))).take (i+(1+k)))
 .simp only[Z3,seval,-ae,J,e5];refine⟨_,by omega,k+1,by omega,rfl,rfl,λq h=>?_⟩;by_cases e:q=k
  .subst e;exact⟨H,J⟩
  .exact aV q (by omega)
 .simp only[Z3,seval,-ae,J];exact fin (I λh=>J ((h.2 i l).2 k E).2) G
end Go.Proofs
namespace Go.Grp
open Go.Ab Go.Lie
variable{d i k t:Nat}{O a c x y z:V1}{L P u v:V2}{C:V3}
section
variable{α:Type}{S:α->Prop}{m:α->α->α}{e:α}{a b c x y z g:α}
noncomputable def ginv[Inhabited α](S:α->Prop)(m:α->α->α)(e a:α):α:=Classical.epsilon λb=>S b/\m a b=e
section
variable[Inhabited α]
theorem Gp.inv_in(G:Gp S m e)(E:S a):S (ginv S m e a)/\m a (ginv S m e a)=e:=by
 obtain⟨b,h,l,H⟩:=G.inv E;exact Uj (p:=λb=>S b/\m a b=e) ⟨b,h,l⟩
theorem Gp.inv_eq(G:Gp S m e)(l:S a)(E:S b)(h:m a b=e):b=ginv S m e a:=G.cancel l E (G.inv_in l).1 (h.trans (G.inv_in l).2.symm)
theorem Gp.inv_l(G:Gp S m e)(h:S a):m (ginv S m e a) a=e:=by
 obtain⟨b,l,E,H⟩:=G.inv h;rw[<-G.inv_eq h l E];exact H
theorem Gp.inv_r(G:Gp S m e)(h:S a):m a (ginv S m e a)=e:=(G.inv_in h).2
noncomputable def com(S:α->Prop)(m:α->α->α)(e x y:α):α:=m (ginv S m e x) (m (ginv S m e y) (m x y))
noncomputable def cnj(S:α->Prop)(m:α->α->α)(e x g:α):α:=m (ginv S m e g) (m x g)
theorem Gp.com_in(G:Gp S m e)(h:S x)(l:S y):S (com S m e x y):=G.cl (G.inv_in h).1 (G.cl (G.inv_in l).1 (G.cl h l))
theorem Gp.cnj_in(G:Gp S m e)(l:S x)(h:S g):S (cnj S m e x g):=G.cl (G.inv_in h).1 (G.cl l h)
theorem Gp.com_spec(G:Gp S m e)(h:S x)(l:S y):m (m y x) (com S m e x y)=m x y:=by
 have I:=(G.inv_in h).1;have H:=(G.inv_in l).1;have E:=G.cl h l;unfold com;rw[G.as l h (G.cl I (G.cl H E)),<-G.as h I (G.cl H E),G.inv_r h,G.l1 (G.cl H E),<-G.as l H E,G.inv_r l,G.l1 E]
theorem Gp.com_eq(G:Gp S m e)(l:S x)(E:S y)(H:S z)(h:m (m y x) z=m x y):z=com S m e x y:=
 G.cancel (G.cl E l) H (G.com_in l E) (h.trans (G.com_spec l E).symm)
theorem Gp.cnj_spec(G:Gp S m e)(l:S x)(h:S g):m g (cnj S m e x g)=m x g:=by
 unfold cnj;rw[<-G.as h (G.inv_in h).1 (G.cl l h),G.inv_r h,G.l1 (G.cl l h)]
theorem Gp.cnj_eq(G:Gp S m e)(E:S x)(l:S g)(H:S z)(h:m g z=m x g):z=cnj S m e x g:=
 G.cancel l H (G.cnj_in E l) (h.trans (G.cnj_spec E l).symm)
structure NSub(S:α->Prop)(m:α->α->α)(e:α)(N:α->Prop):Prop where
 inS:∀{x},N x->S x
 one:N e
 cl:∀{x y},N x->N y->N (m x y)
 inv:∀{x},N x->N (ginv S m e x)
 nor:∀{x g},N x->S g->N (cnj S m e x g)
def NC(S:α->Prop)(m:α->α->α)(e:α)(L:α->Prop)(x:α):Prop:=∀N,NSub S m e N->(∀l,L l->N l)->N x
theorem Gp.whole(G:Gp S m e):NSub S m e S:=⟨id,G.one,λa b=>G.cl a b,λa=>(G.inv_in a).1,λa b=>G.cnj_in a b⟩
theorem NC.sub(G:Gp S m e){L:α->Prop}(R:∀l,L l->S l):NSub S m e (NC S m e L):=
 ⟨λh=>h S G.whole R,λN E _=>E.one,λI J N E H=>E.cl (I N E H) (J N E H),λh N E H=>E.inv (h N E H),λh T N E H=>E.nor (h N E H) T⟩
theorem NC.mem{L:α->Prop}(h:L x):NC S m e L x:=λN _ l=>l x h
theorem NC.le{L:α->Prop}{N:α->Prop}(E:NSub S m e N)(h:∀l,L l->N l){x:α}(G:NC S m e L x):N x:=G N E h
def Cen(S:α->Prop)(m:α->α->α)(e:α)(N:α->Prop)(x:α):Prop:=S x/\∀y,S y->N (com S m e x y)
theorem Gp.com_mul(G:Gp S m e)(E:S x)(h:S z)(l:S y):com S m e (m x z) y=m (cnj S m e (com S m e x y) z) (com S m e z y):=by
 have I:=G.com_in E l;have H:=G.com_in h l;have J:=G.cnj_in I h;refine(G.com_eq (G.cl E h) l (G.cl J H) ?_).symm;have T:=G.cl E h;have R:=G.cl l E
 -- y x z (I^z) H = y x I z H = x y z H = x z y
 rw[<-G.as l E h,G.as R h (G.cl J H),<-G.as h J H,G.cnj_spec I h,<-G.as R (G.cl I h) H,<-G.as R I h,G.com_spec E l,G.as E l h,G.as E (G.cl l h) H,G.com_spec h l,<-G.as E h l]
theorem Gp.com_mul2(G:Gp S m e)(h:S x)(E:S y)(l:S z):com S m e x (m y z)=m (com S m e x z) (cnj S m e (com S m e x y) z):=by
 have H:=G.com_in h E;have I:=G.com_in h l;have J:=G.cnj_in H l;refine(G.com_eq h (G.cl E l) (G.cl I J) ?_).symm
 -- y z x I H^z = y x z H^z = y x H z = x y z
 rw[G.as E l h,G.as E (G.cl l h) (G.cl I J),<-G.as (G.cl l h) I J,G.com_spec h l,G.as h l J,G.cnj_spec H l,<-G.as E h (G.cl H l),<-G.as (G.cl E h) H l,G.com_spec h E,G.as h E l]
theorem Gp.com_one(G:Gp S m e)(h:S y):com S m e e y=e:=(G.com_eq G.one h G.one (by rw[G.r1 h,G.r1 h,G.l1 h])).symm
theorem Gp.com_one2(G:Gp S m e)(h:S x):com S m e x e=e:=(G.com_eq h G.one G.one (by rw[G.l1 h,G.r1 h])).symm
theorem Gp.cnj_one(G:Gp S m e)(h:S g):cnj S m e e g=e:=(G.cnj_eq G.one h G.one (by rw[G.r1 h,G.l1 h])).symm
theorem Gp.cnj_com(G:Gp S m e)(h:S x)(l:S y):m x (com S m e x y)=cnj S m e x y:=by
 have E:=G.com_in h l;exact G.cnj_eq h l (G.cl h E) (by rw[<-G.as l h E];exact G.com_spec h l)
theorem Gp.cen(G:Gp S m e){N:α->Prop}(E:NSub S m e N)(T:∀{x},N x->∀{y},S y->N (com S m e x y)):NSub S m e (Cen S m e N):=by
 refine⟨λh=>h.1,⟨G.one,λy l=>by rw[G.com_one l];exact E.one⟩,λH J=>⟨G.cl H.1 J.1,λy l=>?_⟩,λh=>⟨(G.inv_in h.1).1,λy l=>?_⟩,λ{x g} h I=>?_⟩
 .rw[G.com_mul H.1 J.1 l];exact E.cl (E.nor (H.2 y l) J.1) (J.2 y l)
 .rename_i x;have R:=(G.inv_in h.1).1
  -- e = [x x^-1, y] = [x, y]^(x^-1) [x^-1, y]
  have H:=G.com_mul h.1 R l;rw[G.inv_r h.1,G.com_one l]at H;have c:=E.nor (h.2 y l) R
  have:=G.inv_eq (E.inS c) (G.com_in R l) H.symm
  rw[this];exact E.inv c
 ·-- x^g = x [x, g]
  rw[<-G.cnj_com h.1 I];refine⟨G.cl h.1 (E.inS (h.2 g I)),λy l=>?_⟩;rw[G.com_mul h.1 (E.inS (h.2 g I)) l];exact E.cl (E.nor (h.2 y l) (E.inS (h.2 g I))) (T (h.2 g I) l)
theorem NSub.com_in(G:Gp S m e){N:α->Prop}(l:NSub S m e N)(H:N x)(E:S y):N (com S m e x y):=by
 have h:=l.inS H;have I:=G.cnj_com h E;have J:=(G.inv_in h).1
 have:com S m e x y=m (ginv S m e x) (cnj S m e x y):=by
  rw[<-I,<-G.as J h (G.com_in h E),G.inv_l h,G.l1 (G.com_in h E)]
 rw[this];exact l.cl (l.inv H) (l.nor H E)
theorem Gp.cen'(G:Gp S m e){N:α->Prop}(l:NSub S m e N):NSub S m e (Cen S m e N):=G.cen l λh _ E=>l.com_in G h E
end
end
section
variable{A B:V1->Prop}
abbrev gS(O:V1):V1->Prop:=TT O 0
abbrev gm(O:V1)(P:V2)(C:V3):V1->V1->V1:=mu O P C O.length
theorem Full.g(F:Full O P C O.length):Gp (gS O) (gm O P C) (zv O):=by
 have:=F.gp
 rwa[Yv]at this
noncomputable abbrev gcom (O:V1) (P:V2) (C:V3) (x y:V1):V1:=com (gS O) (gm O P C) (zv O) x y
abbrev gN(O:V1)(P:V2)(C:V3)(N:V1->Prop):Prop:=NSub (gS O) (gm O P C) (zv O) N
abbrev gNC(O:V1)(P:V2)(C:V3)(A:V1->Prop):V1->Prop:=NC (gS O) (gm O P C) (zv O) A
theorem Full.nfx(F:Full O P C O.length)(h:gS O x):ph (gm O P C) (zv O) (unit O) (nx x) 0 O.length=x:=by
 have:=F.nf (x:=x) (by rw[Yv];exact h)
 unfold Ph at this;rwa[Yv]at this
theorem zEN(s:Shp O P C)(F:Full O P C O.length){N:V1->Prop}(l:gN O P C N)(J:gS O x)(h:∀i,i<O.length->N (gcom O P C x (unit O i)))(T:gS O y):N (gcom O P C x y):=by
 have G:=F.g
 have:=G.toMon.ph_ind (Q:=λy=>N (gcom O P C x y)) (h:=unit O) (x:=nx y) (d:=O.length) (t:=0) (by rw[gcom,G.com_one2 J];exact l.one)
  (λa b R I E H=>by rw[gcom,G.com_mul2 J R I];exact l.cl H (l.nor E I)) λj E H=>⟨s.unit (by omega) (YW _),h j (by omega)⟩
 rwa[F.nfx T]at this
def cs(O:V1)(P:V2)(C:V3)(A:V1->Prop)(c:V1):Prop:=∃x i,A x/\i<O.length/\c=gcom O P C x (unit O i)
theorem cs_in(s:Shp O P C)(F:Full O P C O.length)(h:∀x,A x->gS O x):∀c,cs O P C A c->gS O c:=by
 rintro c ⟨x,i,E,l,rfl⟩
 exact F.g.com_in (h x E) (s.unit l (YW _))
theorem cs_le(s:Shp O P C)(F:Full O P C O.length)(h:∀x,A x->gS O x)(R:∀x,B x->gNC O P C A x):∀c,gNC O P C (cs O P C B) c->gNC O P C (cs O P C A) c:=by
 have G:=F.g;have E:gN O P C (gNC O P C (cs O P C A)):=NC.sub G (cs_in s F h);intro c T;refine NC.le E ?_ T
 rintro _ ⟨x,i,U,H,rfl⟩
 have J:=G.cen' E
 have:Cen (gS O) (gm O P C) (zv O) (gNC O P C (cs O P C A)) x:=NC.le J (λl I=>⟨h l I,λy V=>zEN s F E (h l I) (λi H=>NC.mem ⟨l,i,I,H,rfl⟩) V⟩) (R x U)
 exact this.2 _ (s.unit H (YW _))
theorem cs_eq(s:Shp O P C)(F:Full O P C O.length)(E:∀x,A x->gS O x)(G:∀x,B x->gS O x)(h:∀x,gNC O P C A x↔gNC O P C B x)(c:V1):gNC O P C (cs O P C A) c↔gNC O P C (cs O P C B) c:=
 ⟨cs_le s F G (λx l=>(h x).1 (NC.mem l)) c,cs_le s F E (λx l=>(h x).2 (NC.mem l)) c⟩
end
section
variable{b:V1}
def Cent(O:V1)(C:V3):Prop:=∀i j,i<j->j<O.length->TT O j (cvec C i j)/\at_ (cvec C i j) j=1
def addm(o a b:Int):Int:=if a+b ≥ o then a+b-o else a+b
theorem zOC(o a b:Int):addm o a b=addm o b a:=by unfold addm;rw[Int.add_comm]
theorem zPc{o a b:Int}(l:0<=a/\a<o)(E:0<=b/\b<o)(h:addm o a b=a):b=0:=by
 unfold addm at h;split at h<;>omega
def Upto(O:V1)(t:Nat)(x y:V1):Prop:=∀j,j<t->at_ x j=at_ y j
theorem zQK(s:Shp O P C)(hd:d+1<=O.length)(E:i=O.length-(d+1))(h:at_ b i=0)(l:TT O i a)(H:TT O i b):mu O P C (d+1) a b=(mu O P C d (a.set i 0) (b.set i 0)).set i (at_ a i):=by
 have G:=l.bd i (by omega);subst E;simp only[mu];rw[h,if_neg (by omega),show nx b (O.length-(d+1))=0 by show(at_ b _).toNat=0;rw[h];rfl,Uy];rfl
theorem Zy(s:Shp O P C):∀{d:Nat} {b:V1},d<=O.length->O.length-d<=t->t<O.length->TT O (O.length-d) b->TT O t a->Upto O t (mu O P C d b a) b/\at_ (mu O P C d b a) t=addm (at_ O t) (at_ b t) (at_ a t)
 |0,b,hd,H,E,hb,ha=>by omega
 |d+1,b,hd,H,E,hb,ha=>by
  have l:O.length-(d+1)<O.length:=by omega
  have e:O.length-d=O.length-(d+1)+1:=by omega
  have J:=s.pos l;have R:O.length-(d+1)<b.length:=by rw[hb.len];exact l
  have G:=hb.set0 l J;rw[<-e]at G;by_cases W:O.length-(d+1)=t
  .have hr:=mu_tt s hd hb (ha.mono (by omega):TT O (O.length-(d+1)) a);refine⟨λj U=>by rw[hr.zero j (by omega),hb.zero j (by omega)],?_⟩;have I:∀a b,TT O (O.length-d) a->TT O (O.length-d) b->TT O (O.length-d) (mu O P C d a b):=λa b H E=>mu_tt s (by omega) H E;have has:=(ha.mono (by omega):TT O (O.length-(d+1)) a).set0 l J;rw[<-e]at has;have V:=I _ _ (zBR (λx _=>by rw[e];exact Qr s (by rw[<-e];exact I) x) (nx a (O.length-(d+1))) G) has;have hw:TT O (O.length-d) (pvec P (O.length-(d+1))):=by rw[e];exact s.pw _ l
   have Z:=I _ _ hw V;rw[<-W];simp only[mu,addm];split
   .rw[at_set (by rw[Z.len];exact l),if_pos rfl]
   .rw[at_set (by rw[V.len];exact l),if_pos rfl]
  .have um:at_ a (O.length-(d+1))=0:=ha.zero _ (by omega);rw[zQK s hd rfl um hb (ha.mono (by omega)),qM um (by rw[ha.len];exact l)];obtain⟨X,Y⟩:=Zy s (d:=d) (by omega) (by omega) E G ha;have T:=(mu_tt s (by omega:d<=O.length) G (ha.mono (by omega):TT O (O.length-d) a)).len;refine⟨λj U=>?_,?_⟩
   .rw[at_set (by rw[T];exact l)];split
    .rename_i h;rw[h]
    .rename_i h;rw[X j U,at_set R,if_neg h]
   .rw[at_set (by rw[T];exact l),if_neg (by omega),Y,at_set R,if_neg (by omega)]
theorem zPG(s:Shp O P C)(hC:Cent O C)(G:O.length-d=i+1)(hd:d<=O.length)(bn:i<t)(I:t<O.length)(Y:TT O t x):TT O t (Grp.img O C (mu O P C d) i x)/\at_ (Grp.img O C (mu O P C d) i x) t=at_ x t:=by
 have bx:=Y.bd t I;have X:∀a b,TT O (i+1) a->TT O (i+1) b->TT O (i+1) (mu O P C d a b):=λa b T U=>by
  have:=mu_tt s hd (a:=a) (b:=b) (by rw[G];exact T) (by rw[G];exact U)
  rwa[G]at this
 have sk:Grp.img O C (mu O P C d) i x=fo (mu O P C d) (cvec C i) (nx x) t (O.length-t) (zv O):=by
  unfold img;have h:=Nat.add_sub_of_le (show i+1<=t by omega)
  have:∀(k u:Nat) (a:V1),u+k=t->(fo (mu O P C d) (cvec C i) (nx x) u (k+(O.length-t)) a=fo (mu O P C d) (cvec C i) (nx x) t (O.length-t) a):=by
   intro k
   induction k with
   |zero=>intro u a h;rw[Y5,show u=t by omega]
   |succ k ih=>
    intro u a h;rw[show k+1+(O.length-t)=(k+(O.length-t))+1 by omega,fo,show nx x u=0 by show(at_ x u).toNat=0;rw[Y.zero u (by omega)];rfl];exact ih (u+1) a (by omega)
  have:=this (t-(i+1)) (i+1) (zv O) (by omega)
  rwa[show t-(i+1)+(O.length-t)=O.length-1-i by omega]at this
 rw[sk,show O.length-t=(O.length-(t+1))+1 by omega,fo];obtain⟨J,c2⟩:=hC i t bn I;have st:∀k:Nat,(k:Int)<=at_ x t->∀{a:V1} {q:Int},TT O t a->at_ a t=q->0<=q->q+k<=at_ x t->TT O t (rep (mu O P C d) (cvec C i t) k a)/\at_ (rep (mu O P C d) (cvec C i t) k a) t=q+k:=by
  intro k
  induction k with
  |zero=>intro _ a q l H _ _;exact⟨l,by rw[rep,H];omega⟩
  |succ k ih=>
   intro W a q l H iH MB;obtain⟨r1,r2⟩:=Zy s (d:=d) (t:=t) (a:=cvec C i t) (b:=a) hd (by omega) I (l.mono (by omega)) J;have Z:TT O t (mu O P C d a (cvec C i t)):=by
    have E:=X a (cvec C i t) (l.mono (by omega)) (J.mono (by omega));exact⟨E.len,E.bd,λj V=>by rw[r1 j V];exact l.zero j V⟩
   rw[c2,H,addm,if_neg (by omega)]at r2
   have:=ih (by omega) Z r2 (by omega) (by omega)
   rw[rep];exact⟨this.1,by rw[this.2];omega⟩
 have cb:((nx x t:Nat):Int)=at_ x t:=YI bx.1;obtain⟨q1,q2⟩:=st (nx x t) (by omega) (a:=zv O) (q:=0) (s.zv _) (qF _ t) (UD _) (by omega)
 -- nV later CB leave it
 have LA:=fo_in (S:=λa=>TT O t a/\at_ a t=at_ x t) (m:=mu O P C d) (h:=cvec C i) (x:=nx x) (d:=O.length-(t+1)) (t:=t+1) (a:=rep (mu O P C d) (cvec C i t) (nx x t) (zv O)) ?_ ⟨q1,by rw[q2];omega⟩
 .exact LA
 .rintro j T U a ⟨l,fT⟩
  obtain⟨R,d2⟩:=hC i j (by omega) (by omega);obtain⟨r1,r2⟩:=Zy s (d:=d) (t:=j) (a:=cvec C i j) (b:=a) hd (by omega) (by omega) (l.mono (by omega)) R;have E:=X a (cvec C i j) (l.mono (by omega)) (R.mono (by omega));exact⟨⟨E.len,E.bd,λk W=>by rw[r1 k (by omega)];exact l.zero k W⟩,by rw[r1 t (by omega)];exact fT⟩
end
section
variable{b g:V1}
theorem zEJ(s:Shp O P C)(hC:Cent O C):∀{d:Nat} {a b:V1},d<=O.length->O.length-d<=t->t<O.length->TT O t a->TT O (O.length-d) b->Upto O t (mu O P C d a b) b/\at_ (mu O P C d a b) t=addm (at_ O t) (at_ a t) (at_ b t)
 |0,a,b,hd,G,E,ha,hb=>by omega
 |d+1,a,b,hd,G,E,ha,hb=>by
  have l:O.length-(d+1)<O.length:=by omega
  have e:O.length-d=O.length-(d+1)+1:=by omega
  have J:=s.pos l;have R:O.length-(d+1)<b.length:=by rw[hb.len];exact l
  have I:=hb.set0 l J;rw[<-e]at I;have X:TT O (O.length-(d+1)) a:=ha.mono (by omega);have has:=X.set0 l J;rw[<-e]at has;have H:∀a b,TT O (O.length-d) a->TT O (O.length-d) b->TT O (O.length-d) (mu O P C d a b):=λa b G E=>mu_tt s (by omega) G E;by_cases ht:O.length-(d+1)=t
  .have hr:=mu_tt s hd X hb;refine⟨λj U=>by rw[hr.zero j (by omega),hb.zero j (by omega)],?_⟩;have V:=H _ _ (zBR (λx _=>by rw[e];exact Qr s (by rw[<-e];exact H) x) (nx b (O.length-(d+1))) has) I;have hw:TT O (O.length-d) (pvec P (O.length-(d+1))):=by rw[e];exact s.pw _ l
   have pQ:=H _ _ hw V;rw[<-ht];simp only[mu,addm];split
   .rw[at_set (by rw[pQ.len];exact l),if_pos rfl]
   .rw[at_set (by rw[V.len];exact l),if_pos rfl]
  .have um:at_ a (O.length-(d+1))=0:=ha.zero _ (by omega);have Y:a.set (O.length-(d+1)) 0=a:=qM um (by rw[ha.len];exact l);have bb:=hb.bd _ l
   -- D9 of a
   have it:∀(k:Nat) {u:V1},TT O t u->at_ u t=at_ a t->TT O t (iter (Grp.img O C (mu O P C d) (O.length-(d+1))) k u)/\at_ (iter (Grp.img O C (mu O P C d) (O.length-(d+1))) k u) t=at_ a t:=by
    intro k
    induction k with
    |zero=>intro u G E;exact⟨G,E⟩
    |succ k ih=>
     intro u Z h4;obtain⟨k1,k2⟩:=zPG (P:=P) (t:=t) (d:=d) s hC (i:=O.length-(d+1)) e (by omega) (by omega) E Z;exact ih k1 (by rw[k2];exact h4)
   obtain⟨W,l2⟩:=it (nx b (O.length-(d+1))) ha rfl;obtain⟨i1,i2⟩:=zEJ s hC (d:=d) (by omega) (by omega) E W I;have T:=(H _ _ (W.mono (by omega)) I).len;simp only[mu];rw[um,if_neg (by omega),Y,Uc];refine⟨λj U=>?_,?_⟩
   .show at_ ((mu O P C d _ _).set _ _) j=_;rw[at_set (by rw[T];exact l)];split
    .rename_i h;rw[h]
    .rename_i h;rw[i1 j U,at_set R,if_neg h]
   .show at_ ((mu O P C d _ _).set _ _) t=_;rw[at_set (by rw[T];exact l),if_neg (by omega),i2,l2,at_set R,if_neg (by omega)]
section
variable(s:Shp O P C)(F:Full O P C O.length)(hC:Cent O C)
include s F hC
theorem behind(G:gS O z)(l:gS O c)(h:Upto O t (gm O P C z c) z)(R:t<=O.length):TT O t c:=by
 have:∀k,k<=t->TT O k c:=by
  intro k
  induction k with
  |zero=>intro _;exact l
  |succ k ih=>
   intro J;have E:=ih (by omega);obtain⟨r1,r2⟩:=Zy s (d:=O.length) (t:=k) (a:=c) (b:=z) (na _) (by omega) (by omega) (by rw[Yv];exact G) E;have e:=h k (by omega);show TT O (k+1) c;have H:addm (at_ O k) (at_ z k) (at_ c k)=at_ z k:=by rw[<-r2];exact e
   have:=zPc (G.bd k (by omega)) (l.bd k (by omega)) H
   refine⟨l.len,l.bd,λj I=>?_⟩;by_cases g:j=k
   .subst g;exact this
   .exact E.zero j (by omega)
 exact this t (na _)
theorem tt_cl(T:t<=O.length)(l:TT O t x)(E:TT O t y):TT O t (gm O P C x y):=by
 have G:=F.g;have H:=G.cl (l.mono (YW _)) (E.mono (YW _));rcases YG t O.length with h|h
 .obtain⟨r1,_⟩:=Zy s (d:=O.length) (t:=t) (a:=y) (b:=x) (na _) (by omega) h (by rw[Yv];exact l.mono (YW _)) E;exact⟨H.len,H.bd,λj I=>(r1 j I).trans (l.zero j I)⟩
 .have eR:x=zv O:=l.ext (s.zv _) λj J R=>by omega
  rw[eR,G.l1 (E.mono (YW _))];exact E
theorem zMa(H:t<=O.length)(l:TT O t x):TT O t (ginv (gS O) (gm O P C) (zv O) x):=by
 have G:=F.g;have h:gS O x:=l.mono (YW _);obtain⟨I,J⟩:=G.inv_in h;refine behind s F hC h I (λj E=>?_) H;rw[show gm O P C x (ginv (gS O) (gm O P C) (zv O) x)=zv O from J,l.zero j E];exact qF _ j
theorem QX(E:t<O.length)(H:TT O t x)(h:gS O y):TT O (t+1) (gcom O P C x y):=by
 have G:=F.g;have l:gS O x:=H.mono (YW _);have T:=G.cl h l;have I:=G.com_in l h;refine behind s F hC T I (λj U=>?_) E;have e:gm O P C (gm O P C y x) (gcom O P C x y)=gm O P C x y:=G.com_spec l h;rw[e];obtain⟨r1,r2⟩:=Zy s (d:=O.length) (t:=t) (a:=x) (b:=y) (na _) (by omega) E (by rw[Yv];exact h) H;obtain⟨J,R⟩:=zEJ s hC (d:=O.length) (t:=t) (a:=x) (b:=y) (na _) (by omega) E H (by rw[Yv];exact h);by_cases g:j=t
 .subst g;exact(R.trans (zOC _ _ _)).trans r2.symm
 .exact(J j (by omega)).trans (r1 j (by omega)).symm
theorem zGX(I:t<=O.length)(l:TT O t x)(E:gS O y):Upto O t (gm O P C x y) y:=by
 rcases YG t O.length with h|h
 .exact(zEJ s hC (d:=O.length) (t:=t) (a:=x) (b:=y) (na _) (by omega) h l (by rw[Yv];exact E)).1
 .have eR:x=zv O:=l.ext (s.zv _) λj G H=>by omega
  rw[eR,F.g.l1 E];exactλj _=>rfl
theorem zCS(J:t<=O.length):gN O P C (TT O t):=by
 have G:=F.g;have E:∀{x:V1},TT O t x->gS O x:=λh=>h.mono (YW _);refine⟨E,s.zv _,λ{x y} l R=>?_,λ{x} l=>?_,λ{x g} l I=>?_⟩
 .have h0:=G.cl (E l) (E R);exact⟨h0.len,h0.bd,λj H=>by rw[zGX s F hC J l (E R) j H];exact R.zero j H⟩
 .obtain⟨T,U⟩:=G.inv_in (E l)
  have:=zGX s F hC J l T
  rw[show gm O P C x (ginv (gS O) (gm O P C) (zv O) x)=zv O from U]at this;exact⟨T.len,T.bd,λj H=>by rw[<-this j H];exact qF _ j⟩
 .refine behind s F hC I (G.cnj_in (E l) I) (λj H=>?_) J;have e:gm O P C g (cnj (gS O) (gm O P C) (zv O) x g)=gm O P C x g:=G.cnj_spec (E l) I;rw[e];exact zGX s F hC J l I j H
theorem filled{N:V1->Prop}(E:gN O P C N)(h:∀x,N x->gNC O P C (cs O P C N) x):∀x,N x->x=zv O:=by
 have:∀t,t<=O.length->∀x,N x->TT O t x:=by
  intro t
  induction t with
  |zero=>intro _ x l;exact E.inS l
  |succ t ih=>
   intro H x l;refine NC.le (zCS s F hC H) ?_ (h x l)
   rintro _ ⟨y,i,I,G,rfl⟩
   exact QX s F hC (by omega) (ih (by omega) y I) (s.unit G (YW _))
 exactλx l=>(this O.length (na _) x l).ext (s.zv _) λj J R=>by omega
end
end
section
variable{g:V1}
abbrev memL(u:V2):V1->Prop:=λx=>x∈u
def okL(O:V1)(u:V2):Prop:=∀x∈u,gS O x/\x≠zv O
def ZF(O:V1):V2:=(List.range O.length).map (unit O)
noncomputable def comL(O:V1)(P:V2)(C:V3)(L:V2):V2:=
 L.flatMap λx=>((List.range O.length).map λi=>gcom O P C x (unit O i)).filter λc=>decide (c≠zv O)
theorem zBi:c∈comL O P C L↔cs O P C (memL L) c/\c≠zv O:=by
 simp only[comL,UI,List.mem_filter,Yj,UC,decide_eq_true_eq,cs];constructor
 .rintro⟨x,E,⟨i,l,rfl⟩,h⟩;exact⟨⟨x,i,E,l,rfl⟩,h⟩
 .rintro⟨⟨x,i,E,l,rfl⟩,h⟩;exact⟨x,E,⟨i,l,rfl⟩,h⟩
noncomputable def Lc(O:V1)(P:V2)(C:V3):Nat->V2
 |0=>ZF O
 |k+1=>comL O P C (Lc O P C k)
structure SStep(O:V1)(P:V2)(C:V3)(u v:V2):Prop where
 ok:okL O v
 nc:∀x,gNC O P C (memL v) x↔gNC O P C (cs O P C (memL u)) x
structure SRel(O:V1)(P:V2)(C:V3)(u L:V2):Prop where
 ou:okL O u
 oL:okL O L
 nc:∀x,gNC O P C (memL u) x↔gNC O P C (memL L) x
section
variable(s:Shp O P C)(F:Full O P C O.length)
include s F
theorem zBs:okL O (ZF O):=by
 intro x E;simp only[ZF,Yj,UC]at E;obtain⟨i,l,rfl⟩:=E;refine⟨s.unit l (YW _),λh=>?_⟩
 have:=congrArg (λv=>at_ v i) h
 simp only[qF]at this;rw[at_set (by simp;exact l),if_pos rfl]at this;omega
theorem zES(h:okL O L):okL O (comL O P C L):=λc G=>by
 obtain⟨l,E⟩:=zBi.1 G;exact⟨cs_in s F (λx H=>(h x H).1) c l,E⟩
theorem SRel.start:SRel O P C (ZF O) (ZF O):=⟨zBs s F,zBs s F,λ_=>Iff.rfl⟩
theorem SRel.step(r:SRel O P C u L)(h:SStep O P C u v):SRel O P C v (comL O P C L):=by
 refine⟨h.ok,zES s F r.oL,λx=>?_⟩;rw[h.nc x,cs_eq s F (λx E=>(r.ou x E).1) (λx E=>(r.oL x E).1) r.nc x];have I:=cs_in s F (A:=memL L) λx E=>(r.oL x E).1;constructor
 .intro E;refine NC.le (NC.sub F.g λl G=>(zES s F r.oL l G).1) (λl G=>?_) E;by_cases H:l=zv O
  .rw[H];exact(NC.sub F.g λl G=>(zES s F r.oL l G).1).one
  .exact NC.mem (zBi.2 ⟨G,H⟩)
 .intro E;exact NC.le (NC.sub F.g I) (λl G=>NC.mem (zBi.1 G).1) E
theorem triv:gN O P C (λx=>x=zv O):=by
 have G:=F.g;refine⟨λh=>by rw[h];exact G.one,rfl,λl E=>by rw[l,E];exact G.l1 G.one,λh=>?_,λh H=>by rw[h];exact G.cnj_one H⟩;rw[h];exact(G.inv_eq G.one G.one (G.l1 G.one)).symm
theorem okL.nil(h:okL O u)(l:∀x,gNC O P C (memL u) x->x=zv O):u=[]:=by
 cases u with
 |nil=>rfl
 |cons x u=>exact absurd (l x (NC.mem (by simp))) (h x (by simp)).2
theorem SRel.nil(r:SRel O P C u L):u=[]↔L=[]:=by
 constructor
 .rintro rfl
  exact okL.nil s F r.oL λx E=>NC.le (triv s F) (λl h=>by cases h) ((r.nc x).2 E)
 .rintro rfl
  exact okL.nil s F r.ou λx E=>NC.le (triv s F) (λl h=>by cases h) ((r.nc x).1 E)
theorem SRel.stop(hC:Cent O C)(r:SRel O P C u L)(h:SStep O P C u u):u=[]:=by
 have I:∀x,memL u x->gS O x:=λx l=>(r.ou x l).1;have G:gN O P C (gNC O P C (memL u)):=NC.sub F.g I;refine okL.nil s F r.ou (filled s F hC G λx l=>?_);refine NC.le (NC.sub F.g (cs_in s F λy E=>G.inS E)) ?_ ((h.nc x).1 l)
 rintro _ ⟨y,i,E,H,rfl⟩
 exact NC.mem ⟨y,i,NC.mem E,H,rfl⟩
theorem Lc_ok:∀k,okL O (Lc O P C k)
 |0=>zBs s F
 |k+1=>zES s F (Lc_ok k)
theorem zLE(hC:Cent O C):∀k,k<=O.length->∀x∈Lc O P C k,TT O k x
 |0,_,x,hx=>(Lc_ok s F 0 x hx).1
 |k+1,hk,x,hx=>by
  obtain⟨⟨y,i,l,h,rfl⟩,_⟩:=zBi.1 hx;exact QX s F hC hk (zLE hC k (by omega) y l) (s.unit h (YW _))
theorem Lc_lt(hC:Cent O C)(G:Lc O P C k≠[])(E:k<=O.length):k<O.length:=by
 rcases YG k O.length with h|h
 .exact h
 .exfalso;obtain⟨x,l⟩:=List.exists_mem_of_ne_nil _ G;exact(Lc_ok s F k x l).2 ((zLE s F hC k E x l).ext (s.zv _) λj H I=>by omega)
theorem zJN(h:Lc O P C k=[]):∀j,k<=j->Lc O P C j=[]:=by
 intro j l
 induction j with
 |zero=>
   have:k=0:=by omega
   subst this;exact h
 |succ j ih=>
  by_cases e:k=j+1
  .subst e;exact h
  .show comL O P C (Lc O P C j)=[];rw[ih (by omega)];rfl
end
end
end Go.Grp
namespace Go.Proofs
open Go.Ab Go.Lie Go.Grp
variable{rC rP:List PV}{d j:Nat}{σ:PHeap}{vC vL vO vP va vb vx vy:PV}{K:PV->PHeap->Prop}{O a x y:V1}{L P:V2}{C:V3}
section
variable{b:V1}
theorem zPp{i:Nat}(h:i<x.length):(x.set i 0).set i (at_ x i)=x:=zMd h
theorem zIh(s:Shp O P C){d i:Nat}(hi:O.length=(d+1)+i)(F:Full O P C d)(F1:Full O P C (d+1)){J T:V1}(V:TT O i x)(h1:TT O (i+1) J)(h2:TT O (i+1) T)(U:mu O P C d (x.set i 0) J=zv O)(e2:mu O P C d (pvec P i) T=zv O):
  (at_ x i=0->mu O P C (d+1) x J=zv O)/\(at_ x i≠0->mu O P C (d+1) x (mu O P C (d+1) (mu O P C (d+1) J ((zv O).set i (at_ O i-at_ x i))) T)=zv O):=by
 have E:i<O.length:=by omega
 have G:O.length-d=i+1:=by omega
 have dQ:O.length-(d+1)=i:=by omega
 have aQ:=s.pos E;have bx:=V.bd i E;have xl:i<x.length:=by rw[V.len];exact E
 have M:=F.gp.toMon;have l:=F1.gp;rw[dQ]at l;have H:TT O (O.length-d) (x.set i 0):=by rw[G];exact V.set0 E aQ
 have rK:TT O (O.length-d) J:=by rw[G];exact h1
 have gw:TT O (O.length-d) T:=by rw[G];exact h2
 have R:TT O (O.length-d) (zv O):=s.zv _;have hw:TT O (O.length-d) (pvec P i):=by rw[G];exact s.pw i E
 have sub:∀{u v:V1},TT O (O.length-d) u->TT O (O.length-d) v->mu O P C (d+1) u v=mu O P C d u v:=λhu hv=>zGi s (by omega) hu hv;constructor
 .intro h0;rw[qM h0 xl]at U H;rw[sub H rK];exact U
 .intro h0;have z0:(zv O).set i 0=zv O:=qM (qF _ i) (by simp;exact E);have ia:∀k,iter (al O P C d i) k (zv O)=zv O:=λk=>zDl (al_zv s F.toBeh G) k;have hg:TT O i ((zv O).set i (at_ x i)):=(s.zv i).set E (na _) bx;have I:TT O i ((zv O).set i (at_ O i-at_ x i)):=(s.zv i).set E (na _) ⟨by omega,by omega⟩;have bF:i<(x.set i 0).length:=by rw[YC];exact xl
  have r0:(x.set i 0).set i 0=x.set i 0:=by rw[List.set_set]
  have up:∀{u:V1},TT O (O.length-d) u->TT O i u:=λh=>h.mono (by omega);have ex:mu O P C (d+1) ((zv O).set i (at_ x i)) (x.set i 0)=x:=by
   have:=zEI s F.toBeh G (a:=at_ x i) (b:=0) R H
   rw[r0,if_neg (by omega),ia,M.l1 H,Uy,zPp xl]at this;exact this
  have et:mu O P C (d+1) ((zv O).set i (at_ x i)) ((zv O).set i (at_ O i-at_ x i))=pvec P i:=by
   have:=zEI s F.toBeh G (a:=at_ x i) (b:=at_ O i-at_ x i) R R
   rw[if_pos (by omega),ia,M.l1 R,M.r1 hw,show at_ x i+(at_ O i-at_ x i)-at_ O i=0 by omega,qM (hw.zero i (by omega)) (by rw[hw.len];exact E)]at this;exact this
  have key:∀Y,mu O P C (d+1) x Y=mu O P C (d+1) (mu O P C (d+1) ((zv O).set i (at_ x i)) (x.set i 0)) Y:=λY=>by rw[ex]
  rw[key];have W:=up rK;have X:=up gw;have Z:=up H;rw[l.as hg Z (l.cl (l.cl W I) X),<-l.as Z (l.cl W I) X,<-l.as Z W I,sub H rK,U,l.l1 I,<-l.as hg I X,et,sub hw gw,e2]
end
def zOH(O:V1)(P:V2)(C:V3)(d i:Nat):Prop:=
 ∀(σ:PHeap) (K:PV->PHeap->Prop) (x:V1) (vx vO vP vC:PV),IsPr vO vP vC O P C->TT O i x->FI vx x->(∀v y,FI v y->TT O i y->mu O P C d x y=zv O->K v σ)->zA Tryz.prog 171 [.agg [vO,vP,vC],.int .i64 i,vx] σ K
theorem zF4(s:Shp O P C)(Z:Cons O P C):∀{d i:Nat},O.length=d+i->zOH O P C d i
 |0,i,hi=>by
  intro σ K x vx vO vP vC hR hx bj hk;have be:=s.le;obtain⟨⟨w0,a0,rfl⟩,⟨w1,a1,rP,rfl,hP⟩,⟨w3,a3,rC,rfl,hC⟩⟩:=hR;refine zA.gh ?_;have T:(O.length:Int)<=(i:Int):=by omega
  refine qG mix Tryz.func171 ?_;simp only[Z3,seval,-ae,T,YT,zf,mk8 (n:=O.length) (by omega),mkL (n:=O.length) (by omega)];exact Gh.finF (s:=σ.next+1) ((zC σ _).new _) (by simp only[Z3,seval,-ae]) (by omega) (zL _ _) (by simp[capOK]) λo1=>hk _ (zv O) (FI.mk (by simp)) (s.zv _) rfl
 |d+1,i,hi=>by
  intro σ K x vx vO vP vC hR hx bj hk;have R:zOH O P C d (i+1):=zF4 s Z (by omega);have F:Full O P C d:=full_of s (by omega) λj h1 Y=>Z j Y;have F1:Full O P C (d+1):=full_of s (by omega) λj h1 Y=>Z j Y;have fV:AtOK O P C (d+1) i:=zBk s (by omega);have be:=s.le;have l:=hR;have h:i<O.length:=by omega
  have hO:=s.pr i h;have aQ:=s.pos h;have bp:=hx.len;have bx:=hx.bd i h;have dQ:O.length-(d+1)=i:=by omega
  have J:=F1.gp;rw[dQ]at J;obtain⟨⟨w0,a0,rfl⟩,⟨w1,a1,rP,rfl,hP⟩,⟨w3,a3,rC,rfl,hC⟩⟩:=hR;obtain⟨w5,a5,W⟩:=pvRow s hP h;have U:i<P.length:=by rw[s.pl];exact h
  have V:=s.pw i h;obtain⟨wx,ax,rfl⟩:=bj;have E:i<x.length:=by omega
  have T:¬(O.length:Int)<=(i:Int):=by omega
  have sx:=hx.set0 h aQ;have G:IntKind.i64.wrap ((i:Int)+1)=((i+1:Nat):Int):=wrapS h (by omega);have Ad:i+1<=x.length:=E;refine zA.gh ?_;refine qG mix Tryz.func171 ?_;simp only[Z3,seval,-ae,T];refine qg rfl (by omega) λbJ iK=>?_;simp only[Z3,seval,-ae,E,Ad,zJ,zU E,G];refine zA.frz (s:=σ.next+1) (cs:=pis (x.set i 0)) (by simp only[Z3,seval,-ae]) (zL _ _) λo1=>?_;have uh:=iK.ok;simp only[sbs,sb,uh,and_self,if_true,l.O.sb,l.P.sb,l.C.sb];refine R _ _ (x.set i 0) _ _ _ _ l sx (FI.mk (by simp)) λv1 y1 H I e1=>?_;have aq:Keep σ (((σ.new [.fz w0 a0 O.length (pis O),.fz w1 a1 P.length rP,.fz w3 a3 C.length rC]).new (pis (x.set i 0))).kill (σ.next+1)):=((zC σ _).new _).kill (by omega);simp only[Z3,seval,-ae,E,pisAt E];refine iteI (λX=>?_) λX=>?_
  .have hr:=R
   -- nV BN of nV xo is not asked for; any JX do
   obtain⟨y2,I5,Oz,_⟩:=F.gp.inv (a:=pvec P i) (by rw[show O.length-d=i+1 by omega];exact V);rw[show O.length-d=i+1 by omega]at I5
   have:=(zIh s (by omega) F F1 hx I I5 e1 Oz).1 X
   exact Gh.fin0 aq (H.bel _) (hk v1 y1 H (I.mono (by omega)) this)
  have mf:i<(zv O).length:=by simp;exact h
  have E7:i+1<=O.length:=h;have cD:IntKind.i64.wrap (at_ O i-at_ x i)=at_ O i-at_ x i:=WE;have dX:=zU mf (x:=at_ O i-at_ x i);have ht:TT O i ((zv O).set i (at_ O i-at_ x i)):=(s.zv i).set h (na _) ⟨by omega,by omega⟩;simp only[Z3,seval,-ae,YT,zf,mk8 (n:=O.length) (by omega),mkL (n:=O.length) (by omega),E,pisAt E,h,E7,pisAt h,cD,zJ,dX,G,U,W];refine zA.frz (s:=σ.next+2) (cs:=pis ((zv O).set i (at_ O i-at_ x i))) (by simp only[Z3,seval,-ae]) (zL _ _) λo2=>?_;simp only[sbs,sb,capOK,na,decide_true,and_self,if_true,l.O.sb,l.P.sb,l.C.sb,H.sb];have xT:TT O i y1:=I.mono (by omega);refine fV l xT ht H (FI.mk (by simp)) λv3 om=>?_;simp only[Z3,seval,-ae,G,U,W];refine R _ _ (pvec P i) _ _ _ _ l V (FI.mk V.len) λv2 y2 cH uY e2=>?_;have xR:TT O i y2:=uY.mono (by omega);have Cv:=J.cl xT ht;simp only[Z3,seval,-ae,G,U,W];refine fV l Cv xR om cH λv4 s9=>?_;simp only[Z3,seval,-ae]
  have:=(zIh s (by omega) F F1 hx I uY e1 e2).2 X
  exact Gh.fin0 (((((zC σ _).new _).kill (by omega)).new _).kill (by omega)) (s9.bel _) (hk v4 _ s9 (J.cl Cv xR) this)
theorem zAB(s:Shp O P C)(E:Cons O P C)(l:IsPr vO vP vC O P C)(J:gS O x)(R:FI vx x)(H:∀v,FI v (ginv (gS O) (gm O P C) (zv O) x)->K v σ):zA Tryz.prog 93 [.agg [vO,vP,vC],vx] σ K:=by
 have T:=l.O.one;have U:=l.P.one;have V:=l.C.one;have G:=(full_of s (na _) λj _ h=>E j h).g;refine zA.gh ?_;refine zD mix Tryz.func93 ?_;simp only[Z3,seval,-ae,T,U,V];refine zF4 s E (d:=O.length) (i:=0) (by omega) _ _ x _ _ _ _ l J R λv y I W e=>?_;simp only[Z3,seval,-ae]
 have:=G.inv_eq J W e
 rw[<-this]at H;exact Gh.fin0 (zC σ _) (I.bel _) (H v I)
section
variable{b:V1}
theorem zB3(s:Shp O P C)(h:IsPr vO vP vC O P C)(R:gS O a)(T:gS O b)(G:FI va a)(E:FI vb b)(U:∀v,FI v (gm O P C a b)->K v σ):zA Tryz.prog 170 [.agg [vO,vP,vC],va,vb] σ K:=by
 have H:=h.O.one;have I:=h.P.one;have J:=h.C.one;refine zA.gh ?_;refine zD mix Tryz.func170 ?_;simp only[Z3,seval,-ae,H,I,J];refine zBk s (d:=O.length) (i:=0) (by omega) h R T G E λv l=>?_;simp only[Z3,seval,-ae];exact Gh.fin0 (zC σ _) (l.bel _) (U v l)
theorem Zz(s:Shp O P C)(Z:Cons O P C)(l:IsPr vO vP vC O P C)(E:gS O x)(H:gS O y)(X:FI vx x)(Y:FI vy y)(hk:∀v,FI v (gcom O P C x y)->K v σ):zA Tryz.prog 91 [.agg [vO,vP,vC],vx,vy] σ K:=by
 have J:=l.O.one;have R:=l.P.one;have T:=l.C.one;have G:=(full_of s (na _) λj _ h=>Z j h).g;have U:=G.cl H E;have I:=G.cl E H;have W:=(G.inv_in U).1;refine zA.gh ?_;refine zD mix Tryz.func91 ?_;simp only[Z3,seval,-ae,J,R,T];refine zB3 s l H E Y X λv1 f1=>?_;simp only[Z3,seval,-ae,J,R,T];refine zAB s Z l U f1 λv2 f2=>?_;simp only[Z3,seval,-ae,J,R,T];refine zB3 s l E H X Y λv3 f3=>?_;simp only[Z3,seval,-ae,J,R,T];refine zB3 s l W I f2 f3 λv4 V=>?_;simp only[Z3,seval,-ae];have e:gm O P C (ginv (gS O) (gm O P C) (zv O) (gm O P C y x)) (gm O P C x y)=gcom O P C x y:=
  G.com_eq E H (G.cl W I) (by rw[<-G.as U W I,G.inv_r U,G.l1 I])
 rw[e]at V;exact Gh.fin0 (zC σ _) (V.bel _) (hk v4 V)
end
theorem zDm(E:x.length=O.length):isZ x↔x=zv O:=by
 constructor
 .intro h;refine Zr (by simp[E]) λj l=>?_;rw[at_eq l,qF];exact h _ (YK l)
 .rintro rfl y G
  exact Y9 G
noncomputable def comR(O:V1)(P:V2)(C:V3)(x:V1)(i:Nat):V2:=((List.range i).map λi=>gcom O P C x (Grp.unit O i)).filter λc=>decide (c≠zv O)
theorem zCA(x:V1)(i:Nat):comR O P C x (i+1)=comR O P C x i++(if gcom O P C x (Grp.unit O i)=zv O then []else [gcom O P C x (Grp.unit O i)]):=by
 unfold comR;rw[List.range_succ,Yh,List.filter_append,YO,Y3];congr 1;by_cases h:gcom O P C x (Grp.unit O i)=zv O
 .rw[if_pos h,List.filter_cons_of_neg (by simp[h]),List.filter_nil]
 .rw[if_neg h,List.filter_cons_of_pos (by simp[h]),List.filter_nil]
theorem zI2(x:V1)(i:Nat):(comR O P C x i).length<=i:=by
 unfold comR;exact Y7 (List.length_filter_le _ _) (by simp)
theorem zN6{k:Nat}(h:k<L.length):comL O P C (L.take (k+1))=comL O P C (L.take k)++comR O P C L[k] O.length:=by
 unfold comL;rw[YU h,List.flatMap_append];simp[comR]
theorem zFW(s:Shp O P C):∀(L:V2),(comL O P C L).length<=6*L.length
 |[]=>by simp[comL]
 |x::L=>by
  have l:=zFW s L;have E:=zI2 (O:=O) (P:=P) (C:=C) x O.length;have h:comL O P C (x::L)=comR O P C x O.length++comL O P C L:=by simp[comL,comR]
  have G:=s.le;rw[h,YV,YS];omega
theorem zJ9(s:Shp O P C)(hc:Cons O P C)(hR:IsPr vO vP vC O P C)(hL:FII vL L)(hg:∀x∈L,gS O x)(hb:L.length<=600000)(hk:∀v,FII v (comL O P C L)->K v σ):zA Tryz.prog 215 [.agg [vO,vP,vC],vL] σ K:=by
 have be:=s.le;have aK:=hR;have a2:=(full_of s (na _) λj _ h=>hc j h).g;obtain⟨⟨R,H,rfl⟩,⟨w1,I,rP,rfl,hP⟩,⟨T,J,rC,rfl,hC⟩⟩:=hR;obtain⟨wl,al,rl,rfl,bF⟩:=hL;refine zA.gh ?_;have tT:Keep σ (σ.new [.fz R H O.length (pis O),.fz w1 I P.length rP,.fz T J C.length rC]):=zC σ _;have yN:∀{h':PHeap},Keep (σ.new [.fz R H O.length (pis O),.fz w1 I P.length rP,.fz T J C.length rC]) h'->h'.rd σ.next 0 3=some [.fz R H O.length (pis O),.fz w1 I P.length rP,.fz T J C.length rC]:=λ{h'} bA=>by
  have:h'.obj σ.next=some [.fz R H O.length (pis O),.fz w1 I P.length rP,.fz T J C.length rC]:=by rw[bA.obj _ (by simp[PHeap.new])];simp[PHeap.new]
  simp[PHeap.rd,this]
 refine zD mix Tryz.func215 ?_;simp only[Z3,seval,-ae];refine zF (λm vs h'=>∃k v rows,k<=L.length/\m=L.length-k/\vs=[.fz wl al L.length rl,.ptr σ.next 0,.int .i64 O.length,v,.int .i64 (k:Nat)]/\Keep (σ.new [.fz R H O.length (pis O),.fz w1 I P.length rP,.fz T J C.length rC]) h'/\PSl (σ.next+1) 1 h' v (comL O P C (L.take k)).length rows/\All2 FI rows (comL O P C (L.take k))) L.length ?_ ?_
 .exact⟨0,_,[],by omega,by omega,rfl,zC _ _,PSl.new (σ.next+1) 1 rfl (na _),by simpa [comL]using All2.nil _⟩
 rintro m vs h' ⟨k,v,rows,fM,rfl,rfl,G,E,l⟩
 simp only[Z3,seval,-ae];refine iteI (λah=>?_) λaF=>?_;rotate_left
 .have fe:k=L.length:=by omega
  subst fe;rw[Yg]at E l;exact(E.acc.low (UQ _)).fin (tT.trans G) (l.bI 0) λa=>hk _ ⟨true,a,rows,rfl,l⟩
 have V:k<L.length:=by omega
 obtain⟨w4,a4,hr⟩:=bF.rowI V;have gx:=hg _ (YK V);simp only[Z3,seval,-ae];refine zF (λm vs X=>∃i v rows,i<=O.length/\m=O.length-i/\vs=[.fz wl al L.length rl,.ptr σ.next 0,.int .i64 O.length,v,.int .i64 (k:Nat),.int .i64 (i:Nat)]/\Keep (σ.new [.fz R H O.length (pis O),.fz w1 I P.length rP,.fz T J C.length rC]) X/\PSl (σ.next+1) 1 X v (comL O P C (L.take k)++comR O P C L[k] i).length rows/\All2 FI rows (comL O P C (L.take k)++comR O P C L[k] i)) O.length ?_ ?_
 .exact⟨0,v,rows,by omega,by omega,rfl,G,by simpa [comR]using E,by simpa [comR]using l⟩
 clear E l G v rows
 rintro m vs X ⟨i,v,rows,hi,rfl,rfl,G,E,l⟩
 have e3:=yN G;simp only[Z3,seval,-ae];refine iteI (λMQ=>?_) λNf=>?_;rotate_left
 .have aU:i=O.length:=by omega
  subst aU;rw[<-zN6 V]at E l;simp only[Z3,seval,-ae,WX V];exact⟨_,by omega,k+1,v,rows,by omega,rfl,rfl,G,E,l⟩
 have W:i<O.length:=by omega
 have nN:=zFW s (L.take k);have ij:=zI2 (O:=O) (P:=P) (C:=C) L[k] i;have B5:(L.take k).length<=L.length:=by rw[Yu];omega
 simp only[Z3,seval,-ae,V,hr,e3];refine Z4 (by omega) W λvu fu=>?_;simp only[Z3,seval,-ae,V,hr,e3];refine Zz s hc aK gx (s.unit (t:=0) W (YW _)) ⟨w4,a4,rfl⟩ fu λvc fc=>?_;obtain⟨wc,Y,rfl⟩:=fc;have Z:=(a2.com_in gx (s.unit (t:=0) W (YW _))).len;simp only[Z3,seval,-ae];refine ZO rfl (by rw[Z];omega) ?_;have hz:=zDm Z;by_cases U:gcom O P C L[k] (Grp.unit O i)=zv O
 .have AL:=hz.2 U;simp only[Z3,seval,-ae,AL,WX W];refine⟨_,by omega,i+1,v,rows,by omega,rfl,rfl,G,?_,?_⟩
  .rw[zCA,if_pos U,Y0];exact E
  .rw[zCA,if_pos U,Y0];exact l
 .have AL:¬isZ _:=λh=>U (hz.1 h);simp only[Z3,seval,-ae,AL];refine PSl.push (bytes:=24) (σb:=σ.new [.fz R H O.length (pis O),.fz w1 I P.length rP,.fz T J C.length rC]) G E (by rw[YV];omega) (by rw[YV];omega) λv' h3 k3 p3=>?_;simp only[Z3,seval,-ae,WX W];refine⟨_,by omega,i+1,v',rows++[.fz wc Y (gcom O P C L[k] (Grp.unit O i)).length (pis (gcom O P C L[k] (Grp.unit O i)))],by omega,rfl,rfl,k3,?_,?_⟩;rotate_left
  .rw[zCA,if_neg U,<-Yb];exact l.snoc ⟨wc,Y,rfl⟩
  .rw[zCA,if_neg U,<-Yb,YV];exact p3
end Go.Proofs
namespace Go.Grp
open Go.Ab Go.Lie
variable{d i k t:Nat}{O a c w' x y z:V1}{P:V2}{C:V3}
section
variable{b g:V1}{D:List (Option V1)}{N:V1->Prop}
theorem zFe(h:gS O x):TT O (dep x) x:=⟨h.len,h.bd,λj l=>zg l⟩
theorem zAU(l:TT O t x)(E:t<=O.length):t<=dep x:=by
 rcases YG (dep x) t with h|h
 .have hl:=l.len;exact absurd (l.zero _ h) (qz (by omega))
 .exact h
theorem zRT(l:gS O x)(h:O.length<=dep x):x=zv O:=by
 refine Zr (by rw[l.len];simp) λj E=>?_;rw[qF];exact zg (by have:=l.len;omega)
theorem zQm(s:Shp O P C):dep (zv O)=O.length:=by
 have l:=zAU (t:=O.length) (s.zv _) (na _);have h:=QG (zv O);rw[(s.zv 0).len]at h;omega
theorem zN2(s:Shp O P C)(h:dep x<O.length):x≠zv O:=λe=>by
 rw[e,zQm s]at h;omega
theorem zC6{o a b:Int}(h:0<=a/\a<o)(l:0<=b/\b<o):addm o a b=(a+b) % o:=by
 unfold addm;split
 .have:(a+b) % o=(a+b-o) % o:=by rw[Int.sub_emod_right]
  rw[this,Yc (by omega) (by omega)]
 .rw[Yc (by omega) (by omega)]
section
variable(s:Shp O P C)(F:Full O P C O.length)(hC:Cent O C)
include s F hC
theorem zEE(h:t<O.length)(l:TT O t x):∀k:Nat,TT O t (pw (gm O P C) (zv O) x k)/\at_ (pw (gm O P C) (zv O) x k) t=((k:Int)*at_ x t) % at_ O t
 |0=>⟨s.zv _,by show at_ (zv O) t=_;rw[qF];simp⟩
 |k+1=>by
  obtain⟨E,H⟩:=zEE h l k;have I:=s.pr t h;obtain⟨_,G⟩:=Zy s (d:=O.length) (b:=pw (gm O P C) (zv O) x k) (a:=x) (t:=t) (na _) (by omega) h (by rw[Yv];exact E.mono (YW _)) l;refine⟨tt_cl s F hC (Y8 h) E l,?_⟩;show at_ (mu O P C O.length (pw (gm O P C) (zv O) x k) x) t=_;rw[G,zC6 (E.bd t h) (l.bd t h),H,Int.emod_add_emod];congr 1;grind
theorem zMb(l:t<O.length)(H:TT O t x)(T:TT O t b)(V:at_ b t=1):TT O (t+1) (gm O P C (pw (gm O P C) (zv O) b (at_ O t-at_ x t).toNat) x):=by
 obtain⟨G,R⟩:=zEE s F hC l T (at_ O t-at_ x t).toNat;have I:=H.bd t l;obtain⟨_,J⟩:=Zy s (d:=O.length) (b:=pw (gm O P C) (zv O) b (at_ O t-at_ x t).toNat) (a:=x) (t:=t) (na _) (by omega) l (by rw[Yv];exact G.mono (YW _)) H;have E:=tt_cl s F hC (Y8 l) G H;have U:at_ (gm O P C (pw (gm O P C) (zv O) b (at_ O t-at_ x t).toNat) x) t=0:=by
  show at_ (mu O P C O.length _ _) t=0;rw[J,zC6 (G.bd t l) I,R,V,Ur,Int.emod_add_emod,YI (by omega),show at_ O t-at_ x t+at_ x t=at_ O t by omega,Int.emod_self]
 refine⟨E.len,E.bd,λj W=>?_⟩;rcases YG j t with h|h
 .exact E.zero j h
 .rw[show j=t by omega];exact U
theorem zOW(l:t<O.length)(E:gS O x)(h:TT O t b)(I:at_ b t=1):gS O (gm O P C x b)/\Upto O t (gm O P C x b) x/\at_ (gm O P C x b) t=(at_ x t+1) % at_ O t:=by
 obtain⟨G,H⟩:=Zy s (d:=O.length) (b:=x) (a:=b) (t:=t) (na _) (by omega) l (by rw[Yv];exact E) h;refine⟨F.g.cl E (h.mono (YW _)),G,?_⟩;show at_ (mu O P C O.length x b) t=_;rw[H,zC6 (E.bd t l) (h.bd t l),I]
end
theorem NSub.pw(l:gN O P C N)(h:N x):∀k:Nat,N (Grp.pw (gm O P C) (zv O) x k)
 |0=>l.one
 |k+1=>l.cl (NSub.pw l h k) h
structure OkD(O:V1)(D:List (Option V1)):Prop where
 len:D.length=O.length
 row:∀(d:Nat) (y:V1),D[d]? = some (some y)->TT O d y/\at_ y d=1
def InD(N:V1->Prop)(D:List (Option V1)):Prop:=∀(d:Nat) (y:V1),D[d]? = some (some y)->N y
def free:List (Option V1)->Nat
 |[]=>0
 |none::D=>free D+1
 |some _::D=>free D
theorem zEO:∀D,free D<=D.length
 |[]=>na _
 |none::D=>by have:=zEO D;simp only[free,YS];omega
 |some _::D=>by have:=zEO D;simp only[free,YS];omega
theorem zIn{y:V1}:∀{D:List (Option V1)} {d:Nat},D[d]? = some none->free (D.set d (some y))+1=free D
 |[],d,h=>by simp at h
 |v::D,0,h=>by
  simp only[List.getElem?_cons_zero,YD]at h;subst h;rfl
 |v::D,d+1,h=>by
  have:=zIn (y:=y) (D:=D) (d:=d) (by simpa using h)
  cases v<;>simp only[List.set_cons_succ,free]<;>omega
theorem OkD.put(h:OkD O D)(hd:d<O.length)(H:TT O d y)(E:at_ y d=1):OkD O (D.set d (some y)):=by
 refine⟨by rw[YC];exact h.len,λe v l=>?_⟩;rw[Yi]at l;split at l
 .rename_i G;subst G;split at l
  .cases l;exact⟨H,E⟩
  .cases l
 .exact h.row e v l
theorem InD.put(hd:D[d]? = some none):InD N (D.set d (some y))↔InD N D/\N y:=by
  have I:d<D.length:=by
    rcases YG d D.length with h|h
    .exact h
    .rw[Yq h]at hd;cases hd
  constructor
  . intro h
    refine⟨λe v l=>h e v ?_,h d y ?_⟩
    .rw[Yi,if_neg λE=>by subst E;rw[hd]at l;cases l];exact l
    .rw[Yi,if_pos rfl,if_pos I]
  . rintro⟨H,G⟩ e v l
    rw[Yi]at l;split at l
    . rename_i E;subst E
      first
      |(cases l;exact G)
      | (split at l
         .cases l;exact G
         .cases l)
    .exact H e v l
theorem OkD.start(n:Nat)(l:n=O.length):OkD O (List.replicate n none):=⟨by simp[l],λd y h=>by
 rw[List.getElem?_replicate]at h;split at h<;>cases h⟩
theorem InD.start(n:Nat):InD N (List.replicate n none):=λd y h=>by
 rw[List.getElem?_replicate]at h;split at h<;>cases h
end
section
variable{b g w:V1}
section
variable{α:Type}{S:α->Prop}{m:α->α->α}{e:α}
theorem Mon.pw_e(M:Mon S m e):∀k,Grp.pw m e e k=e
 |0=>rfl
 |k+1=>by
  show m (Grp.pw m e e k) e=e;rw[M.pw_e k];exact M.l1 M.one
theorem Mon.pw_mul(M:Mon S m e){x:α}(h:S x)(a:Nat):∀b,Grp.pw m e x (a*b)=Grp.pw m e (Grp.pw m e x a) b
 |0=>rfl
 |b+1=>by
  rw[Nat.mul_succ,M.pw_add h,M.pw_mul h a b];rfl
theorem Mon.pw_mod(M:Mon S m e){x:α}(h:S x){n a:Nat}(E:Grp.pw m e x n=e):Grp.pw m e x a=Grp.pw m e x (a % n):=by
 have l:=M.pw_add h (n*(a / n)) (a % n);rw[Nat.div_add_mod,M.pw_mul h,E,M.pw_e,M.l1 (M.pw h _)]at l;exact l
end
def Rt(O:V1)(P:V2)(C:V3)(z:V1)(c:Int)(w:V1):Prop:=
 (z=zv O/\w=zv O)\/(z≠zv O/\∃j y n:Nat,(n:Int)=at_ O 0 ^ j/\Grp.pw (gm O P C) (zv O) z n=zv O/\(c*y) % n=1 % n/\w=Grp.pw (gm O P C) (zv O) z y)
theorem zAJ{p:Int}{j l:Nat}(h:j<=l):p ^ j∣p ^ l:=by
 obtain⟨k,rfl⟩:∃k,l=j+k:=⟨l-j,by omega⟩
 rw[Int.pow_add];exact Int.dvd_mul_right _ _
theorem ZN{a b m n:Int}(h:m∣n)(l:a % n=b % n):a % m=b % m:=by
 rw[<-UX a h,l,UX b h]
theorem zIP{c y h m:Int}(E:(c*y) % m=1 % m)(G:(c*h) % m=1 % m):y % m=h % m:=by
 have l:m∣c*y-1:=Int.dvd_of_emod_eq_zero (by rw[Ua,E];simp);have d2:m∣c*h-1:=Int.dvd_of_emod_eq_zero (by rw[Ua,G];simp)
 have:m∣y-h:=by
  have H:y-h=h*(c*y-1)-y*(c*h-1):=by grind
  rw[H];exact Int.dvd_sub (Int.dvd_mul_of_dvd_right l) (Int.dvd_mul_of_dvd_right d2)
 exact Int.emod_eq_emod_iff_emod_sub_eq_zero.2 (Int.emod_eq_zero_of_dvd this)
theorem zBN(F:Full O P C O.length)(G:gS O z){n y l:Nat}(E:Grp.pw (gm O P C) (zv O) z n=zv O)(h:(y:Int) % n=(l:Int) % n):Grp.pw (gm O P C) (zv O) z y=Grp.pw (gm O P C) (zv O) z l:=by
 rw[F.g.toMon.pw_mod G (a:=y) E,F.g.toMon.pw_mod G (a:=l) E];congr 1;omega
theorem Rt.two{n E:Nat}{j l:Nat}(G:(n:Int)=at_ O 0 ^ j)(H:(E:Int)=at_ O 0 ^ l):((n:Int)∣E/\j<=l)\/((E:Int)∣n/\l<=j):=by
 rcases Nat.le_total j l with h|h
 .exact .inl ⟨by rw[G,H];exact zAJ h,h⟩
 .exact .inr ⟨by rw[G,H];exact zAJ h,h⟩
theorem Rt.unique(F:Full O P C O.length)(I:gS O z){c:Int}(h:Rt O P C z c w)(g:Rt O P C z c w'):w=w':=by
 rcases h with ⟨E,rfl⟩|⟨E,j,y,n,T,U,H,rfl⟩
 .rcases g with ⟨_,rfl⟩|⟨l,_⟩
  .rfl
  .exact absurd E l
 .rcases g with ⟨l,_⟩|⟨_,V,X,W,J,R,G,rfl⟩
  .exact absurd l E
  .rcases Rt.two T J with ⟨hd,_⟩|⟨hd,_⟩
   .exact zBN F I U (zIP H (ZN hd G))
   .exact zBN F I R (zIP (ZN hd H) G)
theorem Rt.gS(F:Full O P C O.length)(s:Shp O P C)(l:Go.Grp.gS O z){c:Int}(h:Rt O P C z c w):Go.Grp.gS O w:=by
 rcases h with ⟨_,rfl⟩|⟨_,j,y,n,_,_,_,rfl⟩
 .exact s.zv _
 .exact F.g.toMon.pw l _
theorem Rt.neg(F:Full O P C O.length)(s:Shp O P C)(E:Go.Grp.gS O z){c:Int}(h:Rt O P C z c w)(g:Rt O P C z (-c) w'):w'=ginv (Go.Grp.gS O) (gm O P C) (zv O) w:=by
 have G:=F.g;have wS:=h.gS F s E;have T:=g.gS F s E;refine G.inv_eq wS T ?_;rcases h with ⟨I,rfl⟩|⟨I,j,y,n,h1,h2,R,rfl⟩
 .rcases g with ⟨_,rfl⟩|⟨H,_⟩
  .exact G.l1 G.one
  .exact absurd I H
 .rcases g with ⟨H,_⟩|⟨_,j',l,n',g1,g2,J,rfl⟩
  .exact absurd H I
  .rw[<-G.toMon.pw_add E];have key:∀{m:Nat},Grp.pw (gm O P C) (zv O) z m=zv O->(c*y) % m=1 % m->(-c*l) % m=1 % m->Grp.pw (gm O P C) (zv O) z (y+l)=zv O:=λ{m} U V W=>by
    have X:(c*(-(l:Int))) % m=1 % m:=by rw[show c*(-(l:Int))=-c*l by grind];exact W
    have Y:=zIP V X;have Z:((y+l:Nat):Int) % m=((0:Nat):Int) % m:=by
     have:((y+l:Nat):Int)=(y:Int)-(-(l:Int)):=by omega
     rw[this];rw[Int.emod_eq_emod_iff_emod_sub_eq_zero.1 Y];simp
    exact zBN F E U Z
   rcases Rt.two h1 g1 with ⟨hd,_⟩|⟨hd,_⟩
   .exact key h2 R (ZN hd J)
   .exact key g2 (ZN hd R) J
theorem zDo{p n:Int}{j:Nat}(G:p=5\/p=7)(l:n=p ^ j)(H:n<=729){c:Int}(E:c=2\/c=12):∃y:Int,(c*y) % n=1 % n:=by
 have hd:(p=5/\n∣625)\/(p=7/\n∣343):=by
  rcases G with rfl|rfl
  .left;refine⟨rfl,?_⟩;rcases YG 4 j with h|h
   .exfalso;obtain⟨k,rfl⟩:∃k,j=5+k:=⟨j-5,by omega⟩
    rw[Int.pow_add]at l
    have:(1:Int)<=5 ^ k:=Int.pow_pos (by decide)
    omega
   .rw[l,show(625:Int)=5 ^ 4 by decide];exact zAJ h
  .right;refine⟨rfl,?_⟩;rcases YG 3 j with h|h
   .exfalso;obtain⟨k,rfl⟩:∃k,j=4+k:=⟨j-4,by omega⟩
    rw[Int.pow_add]at l
    have:(1:Int)<=7 ^ k:=Int.pow_pos (by decide)
    omega
   .rw[l,show(343:Int)=7 ^ 3 by decide];exact zAJ h
 rcases hd with ⟨_,hd⟩|⟨_,hd⟩
 .rcases E with rfl|rfl
  .exact⟨313,ZN hd (by decide)⟩
  .exact⟨573,ZN hd (by decide)⟩
 .rcases E with rfl|rfl
  .exact⟨172,ZN hd (by decide)⟩
  .exact⟨143,ZN hd (by decide)⟩
section
variable(s:Shp O P C)(F:Full O P C O.length)(hC:Cent O C)
include s F hC
theorem Q5(E:t<O.length)(H:TT O t x):TT O (t+1) (Grp.pw (gm O P C) (zv O) x (at_ O t).toNat):=by
 obtain⟨l,G⟩:=zEE s F hC E H (at_ O t).toNat;refine⟨l.len,l.bd,λj I=>?_⟩;rcases YG j t with h|h
 .exact l.zero j h
 .rw[show j=t by omega,G,YI (by have:=s.pr t E;omega),Int.mul_emod_right]
omit hC in
theorem zJO(k:Nat)(h:gNC O P C (memL (Lc O P C k)) x)(T:gS O y):gNC O P C (memL (Lc O P C (k+1))) (gcom O P C x y):=by
 have H:∀x,memL (Lc O P C k) x->gS O x:=λx h=>(Lc_ok s F k x h).1;have E:gN O P C (gNC O P C (memL (Lc O P C (k+1)))):=NC.sub F.g λl G=>(Lc_ok s F (k+1) l G).1;have I:gN O P C (gNC O P C (memL (Lc O P C k))):=NC.sub F.g H;refine zEN s F E (I.inS h) (λi R=>?_) T;have J:=cs_le s F H (B:=gNC O P C (memL (Lc O P C k))) (λx h=>h) _ (NC.mem ⟨x,i,h,R,rfl⟩);refine NC.le E (λl G=>?_) J;by_cases e:l=zv O
 .rw[e];exact E.one
 .exact NC.mem (zBi.2 ⟨G,e⟩)
omit hC in
theorem zJM(J:gS O x):gNC O P C (memL (Lc O P C 0)) x:=by
 have H:gN O P C (gNC O P C (memL (Lc O P C 0))):=NC.sub F.g λl I=>(Lc_ok s F 0 l I).1
 have:=F.g.toMon.ph_ind (Q:=gNC O P C (memL (Lc O P C 0))) (h:=unit O) (x:=nx x) (d:=O.length) (t:=0) H.one (λa b _ _ E G=>H.cl E G)
  λj E G=>⟨s.unit (by omega) (YW _),NC.mem (Yj.2 ⟨j,UC.2 (by omega),rfl⟩)⟩
 rwa[F.nfx J]at this
omit hC in
theorem zLD{k:Nat}(E:Lc O P C k=[])(G:gNC O P C (memL (Lc O P C k)) x):x=zv O:=
 NC.le (triv s F) (λl h=>by rw[E]at h;cases h) G
omit hC in
theorem QW{k:Nat}(E:Lc O P C k=[])(h:k<=1)(G:gS O x)(H:gS O y):gcom O P C x y=zv O:=by
 have l:=zJN s F E 1 h;exact zLD s F l (zJO s F 0 (zJM s F G) H)
omit hC in
theorem zB9{k:Nat}(E:Lc O P C k=[])(h:k<=2)(G:gS O x)(H:gS O y)(I:gS O z):gcom O P C (gcom O P C x y) z=zv O:=by
 have l:=zJN s F E 2 h;exact zLD s F l (zJO s F 1 (zJO s F 0 (zJM s F G) H) I)
end
end
section
section
variable{α:Type}[Inhabited α]{S:α->Prop}{m:α->α->α}{e:α}{x y a:α}{N:α->Prop}
structure GSub(S:α->Prop)(m:α->α->α)(e:α)(N:α->Prop):Prop where
 inS:∀{x},N x->S x
 one:N e
 cl:∀{x y},N x->N y->N (m x y)
 inv:∀{x},N x->N (ginv S m e x)
theorem NSub.toB(h:NSub S m e N):GSub S m e N:=⟨h.inS,h.one,h.cl,h.inv⟩
theorem Gp.wholeB(G:Gp S m e):GSub S m e S:=⟨id,G.one,λa b=>G.cl a b,λa=>(G.inv_in a).1⟩
theorem GSub.com_in(h:GSub S m e N)(l:N x)(E:N y):N (com S m e x y):=h.cl (h.inv l) (h.cl (h.inv E) (h.cl l E))
theorem GSub.quot(G:Gp S m e)(h:GSub S m e N)(l:N a)(E:S x)(I:N (m a x)):N x:=by
 have H:=h.cl (h.inv l) I;rwa[<-G.as (h.inS (h.inv l)) (h.inS l) E,G.inv_l (h.inS l),G.l1 E]at H
theorem GSub.quotR(G:Gp S m e)(h:GSub S m e N)(l:N a)(E:S x)(I:N (m x a)):N x:=by
 have H:=h.cl I (h.inv l);rwa[G.as E (h.inS l) (h.inS (h.inv l)),G.inv_r (h.inS l),G.r1 E]at H
theorem GSub.pw(h:GSub S m e N)(l:N x):∀k,N (Grp.pw m e x k)
 |0=>h.one
 |k+1=>h.cl (h.pw l k) l
end
variable{O:V1}{P:V2}{C:V3}{x y z a b c g:V1}{D D':List (Option V1)}{t k d:Nat}{N:V1->Prop}{u Q:V2}
abbrev gB(O:V1)(P:V2)(C:V3)(N:V1->Prop):Prop:=GSub (gS O) (gm O P C) (zv O) N
inductive Rdu(O:V1)(P:V2)(C:V3)(D:List (Option V1)):V1->V1->Prop where
 |refl (x:V1):Rdu O P C D x x
 |left {d j:Nat} {b x x' z:V1} (hd:d<O.length) (hb:D[d]? = some (some b)) (hx:TT O d x) (h0:at_ x d≠0) (dN:TT O (d+1) x') (e:x=gm O P C (pw (gm O P C) (zv O) b j) x') (r:Rdu O P C D x' z):Rdu O P C D x z
 |right {d j:Nat} {b x x' z:V1} (hd:d<O.length) (hb:D[d]? = some (some b)) (hx:TT O d x) (h0:at_ x d≠0) (dN:TT O (d+1) x') (e:x=gm O P C x' (pw (gm O P C) (zv O) b j)) (r:Rdu O P C D x' z):Rdu O P C D x z
theorem Rdu.trans(h:Rdu O P C D x y)(g:Rdu O P C D y z):Rdu O P C D x z:=by
 induction h with
 |refl x=>exact g
 |left hd hb hx h0 dN e r ih=>exact .left hd hb hx h0 dN e (ih g)
 |right hd hb hx h0 dN e r ih=>exact .right hd hb hx h0 dN e (ih g)
def Sup(D D':List (Option V1)):Prop:=∀(d:Nat) (b:V1),D[d]? = some (some b)->D'[d]? = some (some b)
theorem Rdu.mono(h:Rdu O P C D x z)(s:Sup D D'):Rdu O P C D' x z:=by
 induction h with
 |refl x=>exact .refl x
 |left hd hb hx h0 dN e r ih=>exact .left hd (s _ _ hb) hx h0 dN e ih
 |right hd hb hx h0 dN e r ih=>exact .right hd (s _ _ hb) hx h0 dN e ih
theorem Rdu.iff(F:Full O P C O.length)(l:gB O P C N)(E:InD N D)(h:Rdu O P C D x z):N x↔N z:=by
 have G:=F.g
 induction h with
 |refl x=>exact Iff.rfl
 |left hd hb hx h0 dN e r ih=>
  refine Iff.trans ?_ ih;rw[e];exact⟨λh=>l.quot G (l.pw (E _ _ hb) _) (dN.mono (YW _)) h,λh=>l.cl (l.pw (E _ _ hb) _) h⟩
 |right hd hb hx h0 dN e r ih=>
  refine Iff.trans ?_ ih;rw[e];exact⟨λh=>l.quotR G (l.pw (E _ _ hb) _) (dN.mono (YW _)) h,λh=>l.cl h (l.pw (E _ _ hb) _)⟩
theorem Sup.put(hd:D[d]? = some none):Sup D (D.set d (some y)):=λe b l=>by
 rw[Yi];split
 .rename_i h;rw[<-h,hd]at l;cases l
 .exact l
def RQ(O:V1)(P:V2)(C:V3)(D:List (Option V1))(Q:V2)(x:V1):Prop:=∃z,Rdu O P C D x z/\(z=zv O\/z∈Q)
structure QI(O:V1)(P:V2)(C:V3)(D:List (Option V1))(Q:V2):Prop where
 pow:∀(d:Nat) (b:V1),D[d]? = some (some b)->RQ O P C D Q (pw (gm O P C) (zv O) b (at_ O d).toNat)
 com:∀(d e:Nat) (b c:V1),d≠e->D[d]? = some (some b)->D[e]? = some (some c)->RQ O P C D Q (gcom O P C b c)\/RQ O P C D Q (gcom O P C c b)
theorem RQ.step{l:V2}(h:RQ O P C D (x::Q) y)(s:Sup D D')(H:Rdu O P C D x z)(I:z=zv O\/z∈l)(G:∀q∈Q,q∈l):RQ O P C D' l y:=by
 obtain⟨w,E,h2⟩:=h;rcases h2 with rfl|h2
 .exact⟨_,E.mono s,.inl rfl⟩
 .rcases YH.1 h2 with rfl|h2
  .exact⟨z,(E.trans H).mono s,I⟩
  .exact⟨w,E.mono s,.inr (G w h2)⟩
theorem zIN{n d:Nat}{b:V1}(h:(List.replicate n (none:Option V1))[d]? = some (some b)):False:=by
 rw[List.getElem?_replicate]at h;split at h<;>cases h
theorem QI.start(n:Nat):QI O P C (List.replicate n none) Q:=⟨λd b h=>(zIN h).elim,λd e b c _ h _=>(zIN h).elim⟩
theorem QI.mem{l:V2}(h:QI O P C D Q)(J:∀q∈Q,q∈l):QI O P C D l:=
 have r:∀{x},RQ O P C D Q x->RQ O P C D l x:=λ⟨z,H,I⟩=>⟨z,H,I.imp id (J z)⟩
 ⟨λd b E=>r (h.pow d b E),λd e b c G E R=>(h.com d e b c G E R).imp r r⟩
theorem QI.drop(h:QI O P C D (x::Q))(I:Rdu O P C D x (zv O)):QI O P C D Q:=
 have r:∀{y},RQ O P C D (x::Q) y->RQ O P C D Q y:=λh=>h.step (λd b l=>l) I (.inl rfl) λq H=>H
 ⟨λd b l=>r (h.pow d b l),λd e b c E l G=>(h.com d e b c E l G).imp r r⟩
theorem QI.put{E:V2}(h:QI O P C D (x::Q))(hx:Rdu O P C D x z)(hd:D[d]? = some none)(hz:z∈E)(Y:∀q∈Q,q∈E)(Z:pw (gm O P C) (zv O) y (at_ O d).toNat∈E)(R:∀(e:Nat) (b:V1),D[e]? = some (some b)->gcom O P C b y∈E\/gcom O P C y b∈E):QI O P C (D.set d (some y)) E:=by
  have hl:d<D.length:=by
    rcases YG d D.length with h|h
    .exact h
    .rw[Yq h]at hd;cases hd
  have s:Sup D (D.set d (some y)):=Sup.put hd;have r:∀{w},RQ O P C D (x::Q) w->RQ O P C (D.set d (some y)) E w:=λh=>h.step s hx (.inr hz) Y;have ge:∀(e:Nat) (b:V1),(D.set d (some y))[e]? = some (some b)->(e=d/\b=y)\/(e≠d/\D[e]? = some (some b)):=λe b l=>by
    rw[Yi]at l;split at l
    . rename_i I
      subst I
      first
      |(cases l;exact .inl ⟨rfl,rfl⟩)
      | (split at l
         .cases l;exact .inl ⟨rfl,rfl⟩
         .cases l)
    .rename_i I;exact .inr ⟨λh=>I h.symm,l⟩
  refine⟨λe b l=>?_,λe e' b c W l U=>?_⟩
  . rcases ge e b l with ⟨T,J⟩|⟨_,G⟩
    .rw[T,J];exact⟨_,.refl _,.inr Z⟩
    .exact r (h.pow e b G)
  . rcases ge e b l with ⟨T,J⟩|⟨h1,G⟩
    . rcases ge e' c U with ⟨l1,V⟩|⟨X,H⟩
      .omega
      . rw[J]
        rcases R e' c H with h3|h3
        .exact .inr ⟨_,.refl _,.inr h3⟩
        .exact .inl ⟨_,.refl _,.inr h3⟩
    . rcases ge e' c U with ⟨l1,V⟩|⟨X,H⟩
      . rw[V]
        rcases R e b G with h3|h3
        .exact .inl ⟨_,.refl _,.inr h3⟩
        .exact .inr ⟨_,.refl _,.inr h3⟩
      .exact(h.com e e' b c W G H).imp r r
section
variable(s:Shp O P C)(F:Full O P C O.length)(hC:Cent O C)
include s F hC
theorem zPl(G:gS O x):∃E:Nat,0<E/\pw (gm O P C) (zv O) x E=zv O:=by
 have M:=F.g.toMon
 have:∀t,t<=O.length->∃E:Nat,0<E/\TT O t (pw (gm O P C) (zv O) x E):=by
  intro t
  induction t with
  |zero=>intro _;exact⟨1,by omega,by rw[M.pw_one G];exact G⟩
  |succ t ih=>
   intro I;obtain⟨E,h,l⟩:=ih (by omega);have H:=s.pr t (by omega);refine⟨E*(at_ O t).toNat,Nat.mul_pos h (by omega),?_⟩;rw[M.pw_mul G];exact Q5 s F hC (by omega) l
 obtain⟨E,h,l⟩:=this O.length (na _);exact⟨E,h,l.ext (s.zv _) λj h l=>by omega⟩
end
structure CanD(O:V1)(P:V2)(C:V3)(D:List (Option V1))(u:V2):Prop where
 one:∀v∈u,gS O v/\dep v<O.length/\at_ v (dep v)=1
 asc:u.Pairwise λa b=>dep a<dep b
 red:∀v∈u,∀w∈u,dep v≠dep w->at_ v (dep w)=0
 all:∀(d:Nat) (y:V1),D[d]? = some (some y)->∃v∈u,dep v=d
 len:u.length<=O.length
 iff:∀N,gB O P C N->((∀x∈u,N x)↔InD N D)
section
variable(s:Shp O P C)(F:Full O P C O.length)(hC:Cent O C)
include s F hC
theorem zRI(h:gS O b)(k:Nat):∃j,gm O P C (pw (gm O P C) (zv O) b j) (pw (gm O P C) (zv O) b k)=zv O/\gm O P C (pw (gm O P C) (zv O) b k) (pw (gm O P C) (zv O) b j)=zv O:=by
 have M:=F.g.toMon;obtain⟨E,l,G⟩:=zPl s F hC h;have e:pw (gm O P C) (zv O) b (E*k)=zv O:=by rw[M.pw_mul h,G,M.pw_e]
 have hle:k<=E*k:=Nat.le_mul_of_pos_left k l;refine⟨E*k-k,?_,?_⟩
 .rw[<-M.pw_add h,show E*k-k+k=E*k by omega,e]
 .rw[<-M.pw_add h,show k+(E*k-k)=E*k by omega,e]
theorem Rdu.stepL(ok:OkD O D)(l:D[d]? = some (some b))(hd:d<O.length)(E:TT O d z)(J:at_ z d≠0)(I:TT O (d+1) (gm O P C (pw (gm O P C) (zv O) b k) z)):Rdu O P C D z (gm O P C (pw (gm O P C) (zv O) b k) z):=by
 have G:=F.g;have h:gS O b:=(ok.row d b l).1.mono (YW _);have H:gS O z:=E.mono (YW _);obtain⟨j,R,T⟩:=zRI s F hC h k;refine .left (j:=j) hd l E J I ?_ (.refl _);rw[<-G.as (G.pw h j) (G.pw h k) H,R,G.l1 H]
end
end
end Go.Grp
namespace Go.Proofs
open Go.Ab Go.Lie Go.Grp
variable{rb:List PV}{d j n sp ss:Nat}{σ:PHeap}{vB vC vL vO vP vU vV va vg vx vy:PV}{K:PV->PHeap->Prop}{O a x y z:V1}{L P ln u v z':V2}{C:V3}
section
variable{D:List (Option V1)}{sb:Nat}
structure SeqG(σ:PHeap)(ss sb sp:Nat)(n:Nat)(rb:List PV)(vO vP vC:PV):Prop where
 obj:σ.obj ss=some [.ptr sp 0,.sl sb 0 n (.known n)]
 lt:ss<σ.next
 bobj:σ.obj sb=some rb
 blt:sb<σ.next
 pg:PtrG σ sp vO vP vC
 ne1:ss≠sb
 ne2:sp≠sb
theorem SeqG.keep{h:PHeap}(q:SeqG σ ss sb sp n rb vO vP vC)(l:Keep σ h):SeqG h ss sb sp n rb vO vP vC:=
 ⟨by rw[l.obj _ q.lt];exact q.obj,Yk q.lt l.next,by rw[l.obj _ q.blt];exact q.bobj,Yk q.blt l.next,q.pg.keep l,q.ne1,q.ne2⟩
theorem SeqG.setB(q:SeqG σ ss sb sp n rb vO vP vC)(h:List PV):SeqG (σ.set sb h) ss sb sp n h vO vP vC:=
 ⟨by rw[zG,if_neg q.ne1];exact q.obj,q.lt,by rw[zG,if_pos rfl],q.blt,q.pg.set q.ne2 _,q.ne1,q.ne2⟩
def DRow(n:Nat)(c:PV)(r:Option V1):Prop:=(c=.fz true .nils 0 []/\r=none)\/∃o cap y,c=.fz true (.sl o 0 n cap) n (pis y)/\r=some y
theorem DRow.bel{c:PV}{r:Option V1}(h:DRow n c r):Bel 0 c:=by
 rcases h with ⟨rfl,_⟩|⟨_,_,_,rfl,_⟩<;>trivial
theorem DRow.bels{rb:List PV}{D:List (Option V1)}(h:All2 (DRow n) rb D)(m:Nat):Bels m rb:=by
 refine zAp.2 λc E=>?_;obtain⟨k,l,rfl⟩:=YE.1 E;exact(DRow.bel (h.2 k _ _ (YQ l) (YQ (by rw[<-h.1];exact l)))).up (YW _)
theorem DRow.get{rb:List PV}{D:List (Option V1)}(h:All2 (DRow n) rb D){d:Nat}(hd:d<D.length):(rb[d]? = some (.fz true .nils 0 [])/\D[d]? = some none)\/∃o cap y,rb[d]? = some (.fz true (.sl o 0 n cap) n (pis y))/\D[d]? = some (some y):=by
 have G:d<rb.length:=by rw[h.1];exact hd
 rw[YQ G,YQ hd];rcases h.2 d _ _ (YQ G) (YQ hd)with ⟨l,E⟩|⟨o,cap,y,l,E⟩
 .exact .inl ⟨by rw[l],by rw[E]⟩
 .exact .inr ⟨o,cap,y,by rw[l],by rw[E]⟩
theorem DRow.put{rb:List PV}{D:List (Option V1)}(h:All2 (DRow n) rb D){o d:Nat}{cap:Cap}:All2 (DRow n) (rb.set d (.fz true (.sl o 0 n cap) n (pis y))) (D.set d (some y)):=by
 refine⟨by rw[YC,YC];exact h.1,λk c r l E=>?_⟩;rw[Yi]at l E;by_cases e:d=k
 .rw[if_pos e]at l E;split at l
  .split at E
   .cases l;cases E;exact .inr ⟨o,cap,y,rfl,rfl⟩
   .cases E
  .cases l
 .rw[if_neg e]at l E;exact h.2 k c r l E
theorem zOg(s:Shp O P C)(F:Full O P C O.length)(R:0<O.length)(hs:PtrG σ sp vO vP vC)(I:IsPr vO vP vC O P C)(h:gS O a)(E:FI va a){k:Int}(G:0<=k/\k<=1000000)(J:∀o cap,K (.fz true (.sl o 0 O.length cap) O.length (pis (Grp.pw (gm O P C) (zv O) a k.toNat))) σ):
  zA Tryz.prog 48 [.ptr sp 0,va,.int .i64 k] σ K:=by
 have hlen:=(F.g.pw h k.toNat).len;refine zA.gh (zIA s F hs I (by rw[Yv];exact h) E G ⟨λH=>?_,λcap l=>?_⟩)
 .rw[H]at hlen;simp at hlen;omega
 .rw[hlen]at l ⊢;exact Gh.finF (zC σ _) (by simp[PHeap.new]) (na _) (zL _ _) l.ok λo=>J o cap
theorem zPo(s:Shp O P C)(F:Full O P C O.length)(hC:Cent O C)(E:SeqG σ ss sb sp O.length rb vO vP vC)(hR:IsPr vO vP vC O P C)(T:OkD O D)(cB:All2 (DRow O.length) rb D)(hx:gS O x)(bj:FI vx x)
  (hk:∀v z,FI v z->gS O z->(dep z<O.length->D[dep z]? = some none)->Rdu O P C D x z->K v σ):zA Tryz.prog 252 [.ptr ss 0,vx] σ K:=by
 have be:=s.le;obtain⟨wx,ax,rfl⟩:=bj;have bp:=hx.len;have r0:σ.rd1 ss 0=some (.ptr sp 0):=by rw[zI E.obj];rfl
 have r1:σ.rd1 ss 1=some (.sl sb 0 O.length (.known O.length)):=by rw[zI E.obj];rfl
 have V:=hR;obtain⟨⟨w0,a0,rfl⟩,_,_⟩:=hR;have Z:σ.rd1 sp 0=some (.fz w0 a0 O.length (pis O)):=by rw[zI E.pg.obj];rfl
 refine qG mix Tryz.func252 ?_;simp only[Z3,seval,-ae];refine zAT rfl (by omega) ?_;simp only[Z3,seval,-ae];refine zF (λm vs h'=>∃z w a,m=O.length-dep z/\vs=[.ptr ss 0,.fz w a O.length (pis z),.int .i64 (dep z)]/\σ=h'/\gS O z/\Rdu O P C D x z) _ ⟨x,wx,ax,rfl,by rw[bp];rfl,rfl,hx,.refl _⟩ ?_
 rintro m vs h' ⟨z,w,a,rfl,rfl,rfl,l,U⟩
 have J:=l.len;by_cases hd:dep z<O.length
 .have cL:=zI E.bobj (dep z);have hdz:dep z<z.length:=by omega
  have X:=l.bd _ hd;have bO:=s.pr _ hd;rw[at_eq hdz]at X;rw[at_eq hd]at X bO;rcases DRow.get cB (d:=dep z) (by rw[T.len];exact hd)with ⟨R,G⟩|⟨o,cap,y,R,G⟩
  .rw[R]at cL;simp only[Z3,seval,-ae,hd,r1,cL];exact hk _ z ⟨w,a,by rw[J]⟩ l (λ_=>G) U
  .rw[R]at cL;obtain⟨H,y2⟩:=T.row _ _ G;have ew:IntKind.i64.wrap (O[dep z] - z[dep z])=O[dep z] - z[dep z]:=WE;simp only[Z3,seval,-ae,hd,r0,r1,cL,Z,zK,gi hd,gi hdz,ew];refine Qz s F E.pg V (by rw[Yv];exact H.mono (YW _)) ⟨true,_,by rw[H.len]⟩ (by omega) λv1 f1=>?_;simp only[Z3,seval,-ae,hd,r0,r1,cL,Z];have g1:gS O (Grp.pw (gm O P C) (zv O) y (O[dep z] - z[dep z]).toNat):=F.g.pw (H.mono (YW _)) _;refine Zj s F E.pg V (by rw[Yv];exact g1) (by rw[Yv];exact l) f1 ⟨w,a,by rw[J]⟩ λv2 f2=>?_;have I:=zMb s F hC hd (zFe l) H y2;rw[at_eq hd,at_eq hdz]at I;have Y:gS O (mu O P C O.length (Grp.pw (mu O P C O.length) (zv O) y (O[dep z] - z[dep z]).toNat) z):=F.g.cl g1 l;have cR:at_ z (dep z)≠0:=qz (by omega);have AA:Rdu O P C D x (mu O P C O.length (Grp.pw (mu O P C O.length) (zv O) y (O[dep z] - z[dep z]).toNat) z):=U.trans (Rdu.stepL s F hC T G hd (zFe l) cR I);have jy:TT O (dep z+1) (mu O P C O.length (Grp.pw (mu O P C O.length) (zv O) y (O[dep z] - z[dep z]).toNat) z):=I;generalize mu O P C O.length (Grp.pw (mu O P C O.length) (zv O) y (O[dep z] - z[dep z]).toNat) z=z' at *
   have aF:=zAU jy (by omega);have W:=Y.len;have h0:z'[dep z]'(by omega)=0:=by
    have:=jy.zero (dep z) (YP _)
    rwa[at_eq (by omega)]at this
   obtain⟨w2,a2,rfl⟩:=f2;simp only[Z3,seval,-ae,W,hd,zK,gi (show dep z<z'.length by omega),h0];refine zAT W.symm (by omega) ?_;simp only[Z3,seval,-ae];exact⟨_,by omega,z',w2,a2,rfl,rfl,Y,AA⟩
 .have fO:dep z=O.length:=by have:=QG z;omega
  simp only[Z3,seval,-ae,fO,Uk];exact hk _ z ⟨w,a,by rw[J]⟩ l (λh=>by omega) U
end
section
variable{b:V1}{D:List (Option V1)}{sb:Nat}
theorem Keep.self{rb:List PV}{h:PHeap}(l:σ.obj sb=some rb)(k:Keep σ h):Keep (σ.set sb rb) h:=⟨k.next,k.top,λt E=>by
 rw[k.obj t E,zG];split
 .rename_i e;rw[e];exact l
 .rfl⟩
theorem Gh.finB{σ0 σ1:PHeap}{rb:List PV}{v:PV}(G:sb<σ0.next)(E:Keep (σ0.set sb rb) σ1)(H:Bels 0 rb)(I:Bel σ0.next v)(k:K v (σ0.set sb rb)):Gh σ0 K v σ1:=λw=>
 Gh.cut (σ2:=σ0.set sb rb) rfl E.top (λt cs h=>by
  have l:t<σ0.next:=by
   rw[zG]at h;split at h
   .rename_i e;rw[e];exact G
   .exact w.lt h
  refine⟨l,by rw[E.obj t l];exact h,?_⟩;rw[zG]at h;split at h
  .cases h;exact .inr (H.up (YW _))
  .exact .inl h) I k w
theorem qy(s:Shp O P C)(F:Full O P C O.length)(hs:PtrG σ sp vO vP vC)(T:IsPr vO vP vC O P C)(E:gS O x)(U:gS O y)(V:FI vx x)(Z:FI vy y)(hk:∀v,FI v (gcom O P C x y)->K v σ):
  zA Tryz.prog 85 [.ptr sp 0,vx,vy] σ K:=by
 have G:=F.g;have up:∀{z:V1},gS O z->TT O (O.length-O.length) z:=λh=>by rw[Yv];exact h
 have l:∀{z:V1},TT O (O.length-O.length) z->gS O z:=λh=>by rw[Yv]at h;exact h
 refine zD mix Tryz.func85 ?_;simp only[Z3,seval,-ae];refine zDn s F hs T (up E) V λv1 J H W f1=>?_;simp only[Z3,seval,-ae];refine zAV s F hs T (up E) (up U) V Z λv2 R I e2 f2=>?_;simp only[Z3,seval,-ae];refine Zj s F hs T H I f1 f2 λv3 X=>?_;simp only[Z3,seval,-ae];have e:mu O P C O.length J R=gcom O P C x y:=by
  refine G.com_eq E U (G.cl (l H) (l I)) ?_;have i1:J=ginv (gS O) (gm O P C) (zv O) x:=G.inv_eq E (l H) W;show gm O P C (gm O P C y x) (gm O P C J R)=gm O P C x y;have Y:gm O P C x (gm O P C J R)=R:=by rw[<-G.as E (l H) (l I),show gm O P C x J=zv O from W,G.l1 (l I)]
  rw[G.as U E (G.cl (l H) (l I)),Y];exact e2
 rw[e]at X;exact hk v3 X
theorem zOD(s:Shp O P C)(F:Full O P C O.length)(hC:Cent O C)(hp:∀o∈O,isP o)(hq:SeqG σ ss sb sp O.length rb vO vP vC)(hR:IsPr vO vP vC O P C)(hD:OkD O D)(cB:All2 (DRow O.length) rb D)(N7:QI O P C D [])(hL:FII vL L)(hg:∀x∈L,gS O x)(Cu:L.length<=1000000)
  (hk:∀(t:Bool) G D',All2 (DRow O.length) G D'->OkD O D'->QI O P C D' []->(∀N,gB O P C N->(InD N D'↔(InD N D/\∀q∈L,N q)))->free D'<=free D->(t=true->free D'<free D)->K (.bool t) (σ.set sb G)):
  zA Tryz.prog 228 [.ptr ss 0,vL] σ K:=by
 have be:=s.le;have Nm:=zEO D;rw[hD.len]at Nm;have a1:=F.g;have up:∀{z:V1},gS O z->TT O (O.length-O.length) z:=λh=>by rw[Yv];exact h
 obtain⟨wl,al,rl,rfl,bF⟩:=hL;have aK:=hR;obtain⟨⟨w0,a0,rfl⟩,_,_⟩:=hR;refine zA.gh ?_;refine qG mix Tryz.func228 ?_;simp only[Z3,seval,-ae];refine zJU bF.1 (bF.bI 0) (by omega) λI J k1 q1=>?_;simp only[Z3,seval,-ae];refine zF (λm vs h'=>∃g Q I G D' rq,m=10*free D'+Q.length/\vs=[.ptr ss 0,.bool g,I]/\Keep (σ.set sb G) h'/\PQ σ.next h' I Q.length rq/\All2 FI rq Q/\(∀x∈Q,gS O x)/\All2 (DRow O.length) G D'/\OkD O D'/\QI O P C D' Q/\(∀N,gB O P C N->((InD N D'/\∀q∈Q,N q)↔(InD N D/\∀q∈L,N q)))/\free D'<=free D/\(g=true->free D'<free D)/\Q.length+10*free D'<=L.length+10*free D) (10*free D+L.length) ?_ ?_
 .exact⟨false,L,I,rb,D,rl,rfl,rfl,Keep.self hq.bobj k1,q1,bF,hg,cB,hD,N7.mem (λq hq=>by cases hq),λN _=>Iff.rfl,na _,by simp,na _⟩
 clear k1 q1 I J
 as_aux_lemma=>
 rintro m vs h' ⟨g,Q,I,G,D',rq,rfl,rfl,aq,u7,oD,Iv,U,R,Ga,hS,IA,Iz,W⟩
 have aR:=(hq.setB G).keep aq;cases Q with
 |nil=>
  have hlen:pLen I=some (.int .i64 0):=u7.pLen;simp only[Z3,seval,-ae,hlen];exact Gh.finB hq.blt aq (DRow.bels U 0) trivial (hk g G D' U R Ga (λN l=>⟨λh=>(hS N l).1 ⟨h,λq hq=>(by cases hq)⟩,λh=>((hS N l).2 h).1⟩) IA Iz)
 |cons x Q=>
  have hlen:=u7.pLen;obtain⟨c,T,rfl,hc,lX⟩:∃c T,rq=c::T/\FI c x/\All2 FI T Q:=by
   cases rq with
   |nil=>exact absurd oD.1 (by simp)
   |cons c T=>exact⟨c,T,rfl,oD.2 0 c x rfl rfl,⟨by simpa using oD.1,λk a b ha W=>oD.2 (k+1) a b (by simpa using ha) (by simpa using W)⟩⟩
  obtain⟨sq,off,cap,Bw,rfl,cL,aQ,lV,oG⟩:=u7.uncons;have rn:=hc;obtain⟨w4,a4,rfl⟩:=hc;have hx:=Iv x (by simp);have Ag:∀q∈Q,gS O q:=λq hq=>Iv q (Yl _ hq);have FJ:=zEO D';rw[R.len]at FJ;simp only[YS]at hlen lV oG aQ W ⊢;have jZ:(0:Int)<((Q.length+1:Nat):Int):=by omega
  rw[Nat.add_sub_cancel]at oG;simp only[Z3,seval,-ae,hlen,jZ,aQ,cL,lV];refine zPo s F hC aR aK R U hx rn λvz z fz Y dE db=>?_;obtain⟨wz,az,rfl⟩:=fz;have dU:=Y.len;simp only[Z3,seval,-ae,hlen,jZ,aQ,cL,lV];refine zAT rfl (by omega) ?_;by_cases hd:dep z<O.length;rotate_left
  .have fO:dep z=O.length:=by have:=QG z;omega
   have cR:=zRT Y (by omega);simp only[Z3,seval,-ae,dU,fO];refine⟨_,?_,g,Q,Bw,G,D',T,rfl,rfl,aq,oG,lX,Ag,U,R,Ga.drop (by rw[<-cR];exact db),λN l=>?_,IA,Iz,by omega⟩
   .omega
   .rw[<-hS N l];refine⟨λ⟨J,H⟩=>⟨J,λq hq=>?_⟩,λ⟨J,H⟩=>⟨J,λq hq=>H q (Yl _ hq)⟩⟩;rcases YH.1 hq with rfl|hq
    .rw[db.iff F l J,cR];exact l.one
    .exact H q hq
  have hdz:dep z<z.length:=by omega
  have IT:=hp _ (YK hd);have bO:=IT.bd;have bz:=Y.bd _ hd;have nz:=qz hdz;rw[at_eq hdz]at bz nz;rw[at_eq hd]at bz;have fO:((dep z:Int)=(z.length:Int))=False:=by simp;omega
  have rr:∀{h:PHeap},SeqG h ss sb sp O.length G (.fz w0 a0 O.length (pis O)) vP vC->h.rd1 ss 0=some (.ptr sp 0)/\h.rd1 ss 1=some (.sl sb 0 O.length (.known O.length))/\h.rd1 sp 0=some (.fz w0 a0 O.length (pis O)):=λq=>⟨by rw[zI q.obj];rfl,by rw[zI q.obj];rfl,by rw[zI q.pg.obj];rfl⟩
  obtain⟨r0,r1,e0⟩:=rr aR;simp only[Z3,seval,-ae,hd,fO,r0,e0,zK,gi hdz,gi hd,hdz];refine zDG IT ⟨by omega,bz.2⟩ λq qb q1 q2 q3=>?_;simp only[Z3,seval,-ae,hd,fO,r0,e0,zK,gi hdz,gi hd,hdz];refine PQ.push (bytes:=24) (σb:=σ.set sb G) aq oG (by omega) (by omega) λv1 J k1 p1=>?_;have tF:=(hq.setB G).keep k1;obtain⟨s0,s1,f0⟩:=rr tF;simp only[Z3,seval,-ae,s0,s1,f0];refine zOg s F (by omega) tF.pg aK Y ⟨wz,az,rfl⟩ (k:=q) (by omega) λoy nB=>?_;obtain⟨y1,y2⟩:=zEE s F hC hd (zFe Y) q.toNat;have nJ:at_ (Grp.pw (gm O P C) (zv O) z q.toNat) (dep z)=1:=by
   rw[y2,at_eq hdz,at_eq hd,YI q1,UB];exact q3
  have Oc:∀N,gB O P C N->N z->N (Grp.pw (gm O P C) (zv O) z q.toNat):=λN l h=>l.pw h _;generalize Grp.pw (gm O P C) (zv O) z q.toNat=y at *
  have yS:gS O y:=y1.mono (YW _);have eZ:=yS.len;simp only[Z3,seval,-ae,s0,s1,f0,zK,gi hd,hd];refine Qz s F tF.pg aK (up yS) ⟨true,.sl oy 0 O.length nB,by rw[eZ]⟩ (k:=O[dep z]) (by omega) λvo fo=>?_;have OL:=fo;obtain⟨wo,ao,rfl⟩:=fo;simp only[Z3,seval,-ae,s0,s1,f0,zK,gi hd,hd];refine PQ.push (bytes:=24) (σb:=σ.set sb G) k1 p1 (by omega) (by omega) λv2 H k2 p2=>?_;have qS:=(hq.setB G).keep k2;obtain⟨t0,t1,g0⟩:=rr qS;have OG:gS O (Grp.pw (gm O P C) (zv O) y O[dep z].toNat):=a1.pw yS _;have A1:FI (.fz wz az z.length (pis z)) z:=⟨wz,az,rfl⟩;have EF:All2 FI ((T++[.fz wz az z.length (pis z)])++[.fz wo ao _ (pis (Grp.pw (gm O P C) (zv O) y O[dep z].toNat))]) ((Q++[z])++[Grp.pw (gm O P C) (zv O) y O[dep z].toNat]):=(lX.snoc A1).snoc OL;have FE:∀q∈(Q++[z])++[Grp.pw (gm O P C) (zv O) y O[dep z].toNat],gS O q:=λq hq=>by
   rcases YY.1 hq with hq|hq
   .rcases YY.1 hq with hq|hq
    .exact Ag q hq
    .rw[YN.1 hq];exact Y
   .rw[YN.1 hq];exact OG
  simp only[Z3,seval,-ae,t0,t1,g0];generalize uq:(Q++[z])++[Grp.pw (gm O P C) (zv O) y O[dep z].toNat]=Q2 at *
  have Gc:Q2.length=Q.length+1+1:=by rw[<-uq];simp
  have MN:z∈Q2:=by rw[<-uq];simp
  have MO:∀q∈Q,q∈Q2:=λq hq=>by rw[<-uq];simp[hq]
  have yX:Grp.pw (gm O P C) (zv O) y O[dep z].toNat∈Q2:=by rw[<-uq];simp
  have Az:∀N,gB O P C N->N y->((∀q∈Q2,N q)↔(∀q∈Q,N q)/\N z):=λN l hy=>by
   rw[<-uq];refine⟨λh=>⟨λq hq=>h q (by simp[hq]),h z (by simp)⟩,λ⟨V,h4⟩ q hq=>?_⟩;rcases YY.1 hq with hq|hq
   .rcases YY.1 hq with hq|hq
    .exact V q hq
    .rw[YN.1 hq];exact h4
   .rw[YN.1 hq];exact l.pw hy _
  generalize (T++[PV.fz wz az z.length (pis z)])++[.fz wo ao _ (pis (Grp.pw (gm O P C) (zv O) y O[dep z].toNat))]=Rm at *
  rw[<-Gc]at p2;refine zF (λm us V=>∃(i:Nat) (I:PV) (E:V2) (re:List PV),i<=O.length/\m=O.length-i/\us=[.ptr ss 0,.bool true,I,.fz true (.sl oy 0 O.length nB) O.length (pis y),.int .i64 (dep z),.sl sb 0 O.length (.known O.length),.int .i64 O.length,.int .i64 i]/\Keep (σ.set sb G) V/\PQ σ.next V I (Q2++E).length re/\All2 FI re (Q2++E)/\(∀q∈E,gS O q)/\E.length<=i/\(∀(e:Nat) (b:V1),e<i->D'[e]? = some (some b)->gcom O P C b y∈E)/\∀N,gB O P C N->InD N D'->N y->∀q∈E,N q) O.length ?_ ?_
  .exact⟨0,v2,[],_,by omega,by omega,rfl,k2,by rw[Y0];exact p2,by rw[Y0];exact EF,λq hq=>(by cases hq),na _,λe b h=>(by omega),λN _ _ _ q hq=>(by cases hq)⟩
  clear k2 p2 v2 H qS t0 t1 g0
  as_aux_lemma=>
  rintro m us V ⟨i,I,E,re,hi,rfl,rfl,Z,p3,yy,FF,AG,FZ,Gg⟩
  have mb:=(hq.setB G).keep Z;obtain⟨t0,t1,g0⟩:=rr mb;simp only[Z3,seval,-ae];refine iteI (λah=>?_) λaF=>?_;rotate_left
  .have ue:dep z<G.length:=by rw[U.1,R.len];exact hd
   have pT:V.wr sb (dep z) [.fz true (.sl oy 0 O.length nB) O.length (pis y)]=some (V.set sb (G.set (dep z) (.fz true (.sl oy 0 O.length nB) O.length (pis y)))):=by
    rw[zT mb.bobj,if_pos ⟨by rw[Yz];omega,rfl⟩,Yb,UF,Yz,take_set _ ue]
   simp only[Z3,seval,-ae,t1,hd,pT];have mh:D'[dep z]? = some none:=dE hd;have j8:=zIn (y:=y) mh;refine⟨_,?_,true,Q2++E,I,_,D'.set (dep z) (some y),re,rfl,rfl,?_,?_,yy,?_,DRow.put (o:=oy) (cap:=nB) U,R.put hd y1 nJ,Ga.put db mh (by simp[MN]) (λq hq=>by simp[MO q hq]) (by rw[at_eq hd];simp[yX]) (λe b W=>.inl (by
    have:=FZ e b (by
     rcases YG e D'.length with h|h
     .have:=R.len;omega
     .rw[Yq h]at W;cases W) W
    simp[this])),λN l=>?_,by omega,λ_=>by omega,?_⟩
   .simp only[YV];omega
   .exact⟨Z.next,Z.top,λt ht=>by
     rw[zG,zG];split
     .rfl
     .rename_i e
      have:=Z.obj t ht
      rw[zG,if_neg e]at this;exact this⟩
   .exact p3.set hq.blt _
   .intro q hq;rcases YY.1 hq with hq|hq
    .exact FE q hq
    .exact FF q hq
   .rw[<-hS N l,InD.put mh];constructor
    .rintro⟨⟨X,g2⟩,g3⟩
     obtain⟨g4,g5⟩:=(Az N l g2).1 λq hq=>g3 q (by simp[hq]);refine⟨X,λq hq=>?_⟩;rcases YH.1 hq with rfl|hq
     .exact(db.iff F l X).2 g5
     .exact g4 q hq
    .rintro⟨X,g2⟩
     have I9:=(db.iff F l X).1 (g2 x (by simp));have gy:=Oc N l I9;refine⟨⟨X,gy⟩,λq hq=>?_⟩;rcases YY.1 hq with hq|hq
     .exact(Az N l gy).2 ⟨λq hq=>g2 q (Yl _ hq),I9⟩ q hq
     .exact Gg N l X gy q hq
   .simp only[YV];omega
  have aD:i<O.length:=by omega
  have gQ:=zI mb.bobj i;rcases DRow.get U (d:=i) (by rw[R.len];exact aD)with ⟨e1,e2⟩|⟨oo,cap,b,e1,e2⟩
  .rw[e1]at gQ;simp only[Z3,seval,-ae,aD,gQ,WX aD];refine⟨_,by omega,i+1,I,E,re,by omega,rfl,rfl,Z,p3,yy,FF,by omega,λe b J H=>?_,Gg⟩;rcases YG e i with h|h
   .exact FZ e b h H
   .rw[show e=i by omega,e2]at H;cases H
  .rw[e1]at gQ;have bS:gS O b:=(R.row _ _ e2).1.mono (YW _);simp only[Z3,seval,-ae,aD,gQ,t0];refine qy s F mb.pg aK bS yS ⟨true,_,by rw[bS.len]⟩ ⟨true,_,by rw[eZ]⟩ λvc fc=>?_;have GG:=fc;obtain⟨wc,ac,rfl⟩:=fc;simp only[Z3,seval,-ae];refine PQ.push (bytes:=24) (σb:=σ.set sb G) Z p3 (by rw[YV];omega) (by rw[YV];omega) λv4 h4 k4 p4=>?_;simp only[Z3,seval,-ae,WX aD];refine⟨_,by omega,i+1,v4,E++[gcom O P C b y],re++[.fz wc ac (gcom O P C b y).length (pis (gcom O P C b y))],by omega,rfl,rfl,k4,?_,?_,?_,?_,?_,?_⟩;rotate_left
   .rw[<-Yb];exact yy.snoc GG
   .intro q hq;rcases YY.1 hq with hq|hq
    .exact FF q hq
    .rw[YN.1 hq];exact a1.com_in bS yS
   .simp;omega
   .intro e b' J H;rcases YG e i with h|h
    .simp[FZ e b' h H]
    .rw[show e=i by omega,e2]at H;cases H;simp
   .intro N l I2 hy q hq;rcases YY.1 hq with hq|hq
    .exact Gg N l I2 hy q hq
    .rw[YN.1 hq];exact l.com_in (I2 _ _ e2) hy
   .rw[<-Yb,YV,Yz];exact p4
end
section
variable{b:V1}
def Ones(O:V1)(u:V2):Prop:=∀v∈u,gS O v/\dep v<O.length/\at_ v (dep v)=1
theorem zPA{o z:Int}(E:2<=o)(G:0<=z/\z<o)(l:z≠0):((o-(z+1) % o) % o).toNat<((o-z) % o).toNat:=by
 have e:(o-z) % o=o-z:=Yc (by omega) (by omega);rw[e];by_cases h:z+1=o
 .rw[h,Int.emod_self,Int.sub_zero,Int.emod_self];omega
 .rw[Yc (a:=z+1) (by omega) (by omega),Yc (by omega) (by omega)];omega
theorem zEW(s:Shp O P C)(F:Full O P C O.length)(hC:Cent O C)(hn:0<O.length)(hs:PtrG σ sp vO vP vC)(hR:IsPr vO vP vC O P C)(hU:FII vU u)(U:Ones O u)(kO:u.Pairwise λa b=>dep a<dep b)(dO:u.length<=1000)(hx:gS O x)(bj:FI vx x)
  (H:∀o cap z,gS O z->(∀t,(∀v∈u,t<dep v)->∀j,j<=t->at_ z j=at_ x j)->(∀v∈u,at_ z (dep v)=0)->(∀N,gB O P C N->(∀v∈u,N v)->(N x↔N z))->K (.fz true (.sl o 0 O.length cap) O.length (pis z)) σ):
  zA Tryz.prog 253 [.ptr sp 0,vU,vx] σ K:=by
 have be:=s.le;have Z:=hx.len;have gF:=hs.lt;obtain⟨wx,ax,rfl⟩:=bj;have vN:=hU;obtain⟨wl,al,rl,rfl,bF⟩:=hU;refine zA.gh ?_;refine zD mix Tryz.func253 ?_;simp only[Z3,seval,-ae];refine Qc rfl (by omega) ⟨λG=>absurd Z (by rw[G];simp;omega),λcap Y=>?_⟩;rw[Z]at Y ⊢;simp only[Z3,seval,-ae];refine zG3 vN (λv T=>⟨by rw[(U v T).1.len];exact(U v T).2.1,by rw[(U v T).1.len];omega⟩) (by omega) λvp=>?_;simp only[Z3,seval,-ae];refine zF (λm vs h'=>∃(i:Nat) (z:V1),i<=u.length/\m=u.length-i/\vs=[.ptr sp 0,.fz wl al u.length rl,.sl σ.next 0 O.length cap,.fz true vp u.length (pis (deps u)),.int .i64 u.length,.int .i64 i]/\h'=σ.new (pis z)/\gS O z/\(∀t,(∀v∈u,t<dep v)->∀j,j<=t->at_ z j=at_ x j)/\(∀k (H:k<u.length),k<i->at_ z (dep u[k])=0)/\(∀N,gB O P C N->(∀v∈u,N v)->(N x↔N z))) u.length ⟨0,x,by omega,by omega,rfl,rfl,hx,λ_ _ _ _=>rfl,λk _ h=>by omega,λ_ _ _=>Iff.rfl⟩ ?_
 rintro m vs h' ⟨i,z,hi,rfl,rfl,rfl,l,R,G,J⟩
 simp only[Z3,seval,-ae];refine iteI (λE=>?_) λaF=>?_;rotate_left
 .exact Gh.finF (zC σ _) (by simp only[Z3,seval,-ae]) (na _) (zL _ _) Y.ok λo=>H o cap z l R (λv T=>by
   obtain⟨k,I,rfl⟩:=YE.1 T;exact G k I (by omega)) J
 obtain⟨w4,a4,hr⟩:=bF.rowI E;obtain⟨u1,u2,u3⟩:=U _ (YK E);have V:u[i]∈u:=YK E;have E1:(deps u)[i]? = some (dep u[i]:Int):=by simp[deps,E]
 simp only[Z3,seval,-ae,E,zK,E1];refine zF (λm vs h'=>∃(z:V1),m=((at_ O (dep u[i])-at_ z (dep u[i])) % at_ O (dep u[i])).toNat/\vs=[.ptr sp 0,.fz wl al u.length rl,.sl σ.next 0 O.length cap,.int .i64 i,.int .i64 (dep u[i]),.fz true vp u.length (pis (deps u)),.int .i64 u.length,.int .i64 i]/\h'=σ.new (pis z)/\gS O z/\(∀t,(∀v∈u,t<dep v)->∀j,j<=t->at_ z j=at_ x j)/\(∀k (H:k<u.length),k<i->at_ z (dep u[k])=0)/\(∀N,gB O P C N->(∀v∈u,N v)->(N x↔N z))) _ ⟨z,rfl,rfl,rfl,l,R,G,J⟩ ?_;clear l R J G z
 rintro m vs h' ⟨z,rfl,rfl,rfl,l,R,G,J⟩
 have dU:=l.len;have hdz:dep u[i] < z.length:=by omega
 have bz:=l.bd _ u2;have bO:=s.pr _ u2;simp only[Z3,seval,-ae,u2,pisAt hdz];refine iteI (λheq=>?_) λmi=>?_
 .simp only[Z3,seval,-ae,WX E];refine⟨_,by omega,i+1,z,by omega,rfl,rfl,rfl,l,R,λk I H=>?_,J⟩;rcases YG k i with h|h
  .exact G k I h
  .have e:k=i:=by omega
   subst e;exact heq
 .obtain⟨g1,g2,g3⟩:=zOW s F hC u2 l (zFe u1) u3;simp only[Z3,seval,-ae,E,hr];refine Qd s F (hs.new _) hR (x:=z) (by simp only[Z3,seval,-ae]) (by simp only[Z3,seval,-ae]) (by omega) Y (by rw[Yv];exact l) (by rw[Yv];exact u1) ⟨w4,a4,rfl⟩ ?_;simp only[Z3,seval,-ae];refine⟨_,?_,_,rfl,rfl,g1,λt ht j tW=>?_,λk I H=>?_,λN W X=>(J N W X).trans ⟨λh=>W.cl h (X _ V),λh=>W.quotR F.g (X _ V) l h⟩⟩
  .show((at_ O (dep u[i])-at_ (gm O P C z u[i]) (dep u[i])) % at_ O (dep u[i])).toNat<_
   rw[g3];exact zPA bO.1 bz mi
  .show at_ (gm O P C z u[i]) j=_;rw[g2 j (by have:=ht _ V;omega)];exact R t ht j tW
  .show at_ (gm O P C z u[i]) (dep u[k])=0;rw[g2 _ (List.pairwise_iff_getElem.1 kO k i I E H)];exact G k I H
end
section
variable{M:List (List PV)}
def FC(v:PV)(cs:List PV):Prop:=∃w a,v=.fz w a cs.length cs
def RoomC(σ h:PHeap)(v:PV):Prop:=∃s cs,v=.sl s 0 0 (.grown 1)/\h.obj s=some cs/\σ.next<=s/\s<h.next
theorem zPe{c:Nat}(U:c<=1048576)(l:∀v h,Keep σ h->(PAcc σ.next 1 h v 0 []\/(0<c/\RoomC σ h v))->K v h):zA Tryz.prog 231 [.fz true .nils 0 [],.int .i64 c] σ K:=by
 have E:¬(c:Int)<0:=by omega
 have J:IntKind.i64.wrap ((0:Int)-((0:Nat):Int))=0:=rfl;have R:IntKind.i64.wrap ((c:Int)-0)=(c:Int):=WQ
 have T:pslA 1 .nils 0 0=.nils:=rfl;refine zD mix Tryz.func231 ?_;simp only[Z3,seval,-ae,E,J,R];by_cases I:c=0
 .subst I;simp only[Z3,seval,-ae];exact l _ _ (Keep.refl σ) (.inl (PAcc.nil _ _ _))
 .have aQ:(0:Int)<(c:Int):=by omega
  have H:(c:Int)*((24:Nat):Int)<=140737488355328:=by omega
  have G:(c:Int)<=4611686018427387904:=by omega
  simp only[Z3,seval,-ae,aQ,H,G,T,zf,YW];exact l _ _ (zC σ _) (.inr ⟨by omega,_,_,rfl,by rw[zH,if_pos rfl],na _,YP _⟩)
theorem zAQ{i:Nat}(h:i<M.length):(M.take (i+1)).flatten=(M.take i).flatten++M[i]:=by
 rw[YU h,List.flatten_append];simp
theorem zC3(M:List (List PV))(i:Nat):(M.take i).flatten.length<=M.flatten.length:=by
 have:M.flatten.length=(M.take i).flatten.length+(M.drop i).flatten.length:=by
  rw[<-YV,<-List.flatten_append,List.take_append_drop]
 omega
theorem zMW{Y:Bool}{U:AV}{R:List PV}(H8:All2 FC R M)(NF:∀c∈M,Bels 0 c)(fZ:M.length<=1048576)(hb:M.flatten.length<=1048576)(hk:∀a,K (.fz true a M.flatten.length M.flatten) σ):zA Tryz.prog 193 [.fz Y U M.length R] σ K:=by
 have ND:Bels 0 M.flatten:=zAp.2 λc hc=>by
  obtain⟨l,hl,hc⟩:=List.mem_flatten.1 hc;exact zAp.1 (NF l hl) c hc
 refine zA.gh ?_;refine zD mix Tryz.func193 ?_;simp only[Z3,seval,-ae];refine zF (λm T h'=>∃i:Nat,i<=M.length/\m=M.length-i/\T=[.fz Y U M.length R,.int .i64 (M.take i).flatten.length,.fz Y U M.length R,.int .i64 M.length,.int .i64 i]/\σ=h') M.length ?_ ?_
 .exact⟨0,by omega,by omega,rfl,rfl⟩
 rintro m T h' ⟨i,hi,rfl,rfl,rfl⟩
 have Ak:=zC3 M i;simp only[Z3,seval,-ae];refine iteI (λE=>?_) λaF=>?_
 .obtain⟨_,hr,w4,Z,rfl⟩:=H8.get E;have FH:=zC3 M (i+1);have e:=congrArg List.length (zAQ E);rw[YV]at e;have ew:IntKind.i64.wrap (((M.take i).flatten.length:Int)+(M[i].length:Int))=(((M.take i).flatten.length+M[i].length:Nat):Int):=WQ
  have ve:¬(((M.take i).flatten.length+M[i].length:Nat):Int)<0:=by omega
  simp only[Z3,seval,-ae,E,hr,ew,ve,WX E];refine⟨_,by omega,i+1,by omega,rfl,?_⟩;rw[e]
 have aU:i=M.length:=by omega
 subst aU;rw[Yg];simp only[Z3,seval,-ae];refine zPe (by omega) λv0 h0 fg gP=>?_;simp only[Z3,seval,-ae];refine zF (λm T h'=>∃(i:Nat) (X:PV),i<=M.length/\m=M.length-i/\T=[X,.fz Y U M.length R,.int .i64 M.length,.int .i64 i]/\Keep σ h'/\(PAcc σ.next 1 h' X (M.take i).flatten.length (M.take i).flatten\/((M.take i).flatten=[]/\0<M.flatten.length/\RoomC σ h' X))) M.length ?_ ?_
 .exact⟨0,v0,by omega,by omega,rfl,fg,gP.imp (λh=>h) λh=>⟨rfl,h⟩⟩
 clear hi aF Ak fg gP v0 h0
 rintro m T h' ⟨i,X,hi,rfl,rfl,J,H⟩
 have Ak:=zC3 M i;simp only[Z3,seval,-ae];refine iteI (λE=>?_) λaF=>?_;rotate_left
 .have aU:i=M.length:=by omega
  subst aU;rw[Yg]at H;rcases H with H|⟨V,G,_⟩
  .exact H.fin J ND λa=>hk _
  .rw[V]at G;cases G
 obtain⟨_,hr,w4,Z,rfl⟩:=H8.get E;have FH:=zC3 M (i+1);have e:=congrArg List.length (zAQ E);rw[YV]at e;simp only[Z3,seval,-ae,E,hr];have cb:∀I G,Keep σ G->(PAcc σ.next 1 G I ((M.take i).flatten.length+M[i].length) ((M.take i).flatten++M[i])\/((M.take (i+1)).flatten=[]/\0<M.flatten.length/\RoomC σ G I))->(PAcc σ.next 1 G I (M.take (i+1)).flatten.length (M.take (i+1)).flatten\/((M.take (i+1)).flatten=[]/\0<M.flatten.length/\RoomC σ G I)):=λI G k h=>h.imp (λh=>by rwa[e,zAQ E]) λh=>h;rcases H with H|⟨V,G,s,cs,rfl,ho,dx,jz⟩
 .refine PAcc.cat (σb:=σ) (bytes:=24) J H rfl (by omega) (by omega) λI G k2 a2=>?_;simp only[Z3,seval,-ae,WX E];exact⟨_,by omega,i+1,I,by omega,rfl,rfl,k2,cb _ _ k2 (.inl a2)⟩
 .by_cases W:M[i].length=0
  .have eU:M[i]=[]:=YF W;have fC:qB 1 24 h' (.sl s 0 0 (.grown 1)) (.fz w4 Z M[i].length M[i])=some (.sl s 0 0 (.grown 1),h'):=by
    rw[ZM,zCY,YM,if_pos W];rfl
   simp only[Z3,seval,-ae,fC,WX E];refine⟨_,by omega,i+1,_,by omega,rfl,rfl,J,.inr ⟨by rw[zAQ E,V,eU];rfl,G,s,cs,rfl,ho,dx,jz⟩⟩
  .have fC:qB 1 24 h' (.sl s 0 0 (.grown 1)) (.fz w4 Z M[i].length M[i])=some (.sl h'.next 0 M[i].length (.grown 1),(h'.kill s).new M[i]):=by
    rw[ZM,zCY,YM,if_neg W,zBz,if_neg W,if_pos ⟨na _,by omega,by omega⟩,YM,zAq,if_pos ⟨by omega,by omega,rfl⟩,ho,YM,if_pos (by omega)];rw[List.drop_zero,Nat.zero_mul,UP,Ys,Nat.mul_one,YR (na _),Y5]
   simp only[Z3,seval,-ae,fC,WX E];refine⟨_,by omega,i+1,_,by omega,rfl,rfl,(J.kill dx).new _,.inl ?_⟩;rw[zAQ E,V,Ys];exact(PSl.own (.inl rfl) (by rw[zH];exact if_pos rfl) (by omega) J.next (YP _)).acc
end
section
variable{b g:V1}{D:List (Option V1)}{sb:Nat}
theorem zGh(s:Shp O P C)(hs:PtrG σ sp vO vP vC)(E:IsPr vO vP vC O P C)(G:∀ss sb h',Keep σ h'->σ.next<=ss->σ.next<=sb->SeqG h' ss sb sp O.length (List.replicate O.length (.fz true .nils 0 [])) vO vP vC->K (.ptr ss 0) h'):
  zA Tryz.prog 227 [.ptr sp 0] σ K:=by
 have I:=s.le;have J:=hs.lt;obtain⟨⟨H,h,rfl⟩,_,_⟩:=E;have l:σ.rd1 sp 0=some (.fz H h O.length (pis O)):=by rw[zI hs.obj];rfl
 refine zD mix Tryz.func227 ?_;simp only[Z3,seval,-ae,l,mk24 (n:=O.length) (by omega),mkL (n:=O.length) (by omega)];exact G (σ.next+1) σ.next _ ((zC σ _).new _) (by omega) (na _) ⟨by simp only[Z3,seval,-ae],by simp only[Z3,seval,-ae],by simp only[Z3,seval,-ae],by simp only[Z3,seval,-ae];omega,(hs.new _).new _,by omega,by omega⟩
theorem zDz(s:Shp O P C)(F:Full O P C O.length)(hC:Cent O C)(T:SeqG σ ss sb sp O.length rb vO vP vC)(hR:IsPr vO vP vC O P C)(Y:OkD O D)(cB:All2 (DRow O.length) rb D)
  (hk:∀v u,FII v u->CanD O P C D u->K v σ):zA Tryz.prog 229 [.ptr ss 0] σ K:=by
 have be:=s.le;have r0:σ.rd1 ss 0=some (.ptr sp 0):=by rw[zI T.obj];rfl
 have r1:σ.rd1 ss 1=some (.sl sb 0 O.length (.known O.length)):=by rw[zI T.obj];rfl
 have hw:IntKind.i64.wrap ((O.length:Int)-1)=(O.length:Int)-1:=WE;refine zA.gh ?_;refine zD mix Tryz.func229 ?_;simp only[Z3,seval,-ae,r1,hw];refine ZU (λm vs G=>∃(k:Nat) (vO:PV) (u:V2),k<=O.length/\m=k/\vs=[.ptr ss 0,vO,.int .i64 ((k:Int)-1)]/\Keep σ G/\FII vO u/\Ones O u/\u.length+k<=O.length/\(∀v∈u,k<=dep v)/\(u.Pairwise λa b=>dep a<dep b)/\(∀v∈u,∀w∈u,dep v≠dep w->at_ v (dep w)=0)/\(∀(d:Nat) (y:V1),k<=d->D[d]? = some (some y)->∃v∈u,dep v=d)/\(∀N,gB O P C N->((∀x∈u,N x)↔∀d y,k<=d->D[d]? = some (some y)->N y))) O.length (.here ⟨O.length,_,[],na _,rfl,rfl,Keep.refl σ,⟨_,_,_,rfl,All2.nil _⟩,λv hv=>(by cases hv),by simp,λv hv=>(by cases hv),List.Pairwise.nil,λv hv=>(by cases hv),λd y E G=>?_,λN Z=>⟨λ_ d y E G=>?_,λ_ x hx=>(by cases hx)⟩⟩) ?_
 .rw[Yq (by rw[Y.len];exact E)]at G;cases G
 .rw[Yq (by rw[Y.len];exact E)]at G;cases G
 rintro m vs G ⟨k,vU,u,bN,rfl,rfl,H,U,hu,dO,V,kO,tz,mN,Z⟩
 rcases Nat.eq_zero_or_pos m with rfl|yX
 .simp only[Z3,seval,-ae,show ¬((0:Int)<=((0:Nat):Int)-1) by omega];exact Gh.fin0 H (U.bel _) (hk vU u U ⟨hu,kO,tz,λd y l=>mN d y (YW _) l,by omega,λN E=>(Z N E).trans ⟨λh d y l=>h d y (YW _) l,λh d y _ l=>h d y l⟩⟩)
 obtain⟨k,rfl⟩:∃k,m=k+1:=⟨m-1,by omega⟩
 have e:((k+1:Nat):Int)-1=(k:Int):=by omega
 have gj:k<O.length:=bN;have W:=zI (T.keep H).bobj k;have KO:G.rd1 ss 0=some (.ptr sp 0):=by rw[zI (T.keep H).obj];rfl
 have BD:G.rd1 ss 1=some (.sl sb 0 O.length (.known O.length)):=by rw[zI (T.keep H).obj];rfl
 rw[e];have kx:IntKind.i64.wrap ((k:Int)-1)=(k:Int)-1:=WE;rcases DRow.get cB (d:=k) (by rw[Y.len];exact gj)with ⟨e1,J⟩|⟨oo,cap,y,e1,J⟩
 .rw[e1]at W;simp only[Z3,seval,-ae,gj,BD,W,kx];refine⟨_,YP k,.here ⟨k,vU,u,by omega,rfl,rfl,H,U,hu,by omega,λv hv=>by have:=V v hv;omega,kO,tz,λd y hd l=>?_,λN E=>(Z N E).trans ⟨λh d y hd l=>?_,λh d y hd l=>h d y (by omega) l⟩⟩⟩
  .rcases YG k d with x|x
   .exact mN d y x l
   .rw[show d=k by omega,J]at l;cases l
  rcases YG k d with x|x
  .exact h d y x l
  .rw[show d=k by omega,J]at l;cases l
 .rw[e1]at W;obtain⟨y1,y2⟩:=Y.row _ _ J;have yS:gS O y:=y1.mono (YW _);simp only[Z3,seval,-ae,gj,KO,BD,W,kx];refine zEW s F hC (by omega) (T.keep H).pg hR U hu kO (by omega) yS ⟨true,_,by rw[y1.len]⟩ λoz X z zS z1 z0 z2=>?_;have za:∀j,j<=k->at_ z j=at_ y j:=z1 k λv hv=>V v hv;have zt:TT O k z:=⟨zS.len,zS.bd,λj hj=>by rw[za j (by omega)];exact y1.zero j hj⟩
  have zk:at_ z k=1:=by rw[za k (na _)];exact y2
  have dU:=zS.len;have zd:dep z=k:=by
   have E:=zAU zt (by omega);rcases YG k (dep z)with h|h
   .rw[zg h]at zk;omega
   .omega
  obtain⟨wO,aO,rO,rfl,yB⟩:=U;simp only[Z3,seval,-ae];refine PSl.cat (bytes:=24) (σb:=G) (n:=1) (cs:=[.fz true (.sl oz 0 O.length X) O.length (pis z)]) (zC G _) (PSl.new _ 1 rfl (na _)) yB.1 (by omega) (by omega) λv3 R k3 a3=>?_;obtain⟨s3,iB,rfl,mM,oJ,B5,ud,bK⟩:=a3;have ai:All2 FI ([.fz true (.sl oz 0 O.length X) O.length (pis z)]++rO) (z::u):=(All2.nil FI |>.snoc (⟨true,_,by rw[dU]⟩:FI (.fz true (.sl oz 0 O.length X) O.length (pis z)) z)).append yB;have MV:=H.next;simp only[Z3,seval,-ae,kx];refine⟨k,YP k,.fz s3 _ oJ (ai.bI 0) λo1=>.here ⟨k,.fz true (.sl o1 0 (1+u.length) iB) (1+u.length) ([.fz true (.sl oz 0 O.length X) O.length (pis z)]++rO),z::u,by omega,rfl,?_,(H.trans k3).kill (by omega),⟨true,_,_,by rw[YS,Ud],ai⟩,?_,by simp;omega,?_,?_,?_,?_,λN E=>?_⟩⟩
  .simp[sbs,Go.Ab.sb,mM.ok]
  .intro v hv;rcases YH.1 hv with rfl|hv
   .exact⟨zS,by omega,by rw[zd];exact zk⟩
   .exact hu v hv
  .intro v hv;rcases YH.1 hv with rfl|hv
   .omega
   .have:=V v hv;omega
  .rw[List.pairwise_cons];exact⟨λv hv=>by have:=V v hv;omega,kO⟩
  .intro v hv w hw an;rcases YH.1 hv with ev|cH
   .rcases YH.1 hw with ew|kx
    .rw[ev,ew]at an;exact absurd rfl an
    .rw[ev];exact z0 w kx
   .rcases YH.1 hw with ew|kx
    .rw[ew];exact zg (by have:=V v cH;omega)
    .exact tz v cH w kx an
  .intro d y' hd l;rcases YG k d with x|x
   .obtain⟨v,hv,e⟩:=mN d y' x l;exact⟨v,Yl _ hv,e⟩
   .exact⟨z,by simp,by omega⟩
  .have td:(∀d y,k<=d->D[d]? = some (some y)->N y)↔(N y/\∀d y,k+1<=d->D[d]? = some (some y)->N y):=by
    refine⟨λh=>⟨h k y (na _) J,λd y hd l=>h d y (by omega) l⟩,λ⟨R,I⟩ d y' hd l=>?_⟩;rcases YG k d with x|x
    .exact I d y' x l
    .rw[show d=k by omega,J]at l;cases l;exact R
   rw[td,<-Z N E,List.forall_mem_cons];refine⟨λ⟨R,I⟩=>⟨(z2 N E I).2 R,I⟩,λ⟨R,I⟩=>⟨(z2 N E I).1 R,I⟩⟩
noncomputable abbrev gcnj (O:V1) (P:V2) (C:V3) (x g:V1):V1:=cnj (gS O) (gm O P C) (zv O) x g
theorem zHg(s:Shp O P C)(F:Full O P C O.length)(hs:PtrG σ sp vO vP vC)(hR:IsPr vO vP vC O P C)(hU:FII vU u)(hu:∀x∈u,gS O x)(dO:u.length<=1000)(U:gS O g)(H:FI vg g)(hk:∀v,FII v (u.map λy=>gcnj O P C y g)->K v σ):
  zA Tryz.prog 230 [.ptr sp 0,vU,vg] σ K:=by
 have up:∀{z:V1},gS O z->TT O (O.length-O.length) z:=λh=>by rw[Yv];exact h
 have dn:∀{z:V1},TT O (O.length-O.length) z->gS O z:=λh=>by rw[Yv]at h;exact h
 obtain⟨wl,al,rl,rfl,bF⟩:=hU;have V:=H;obtain⟨wg,ag,rfl⟩:=H;refine zA.gh ?_;refine zD mix Tryz.func230 ?_;simp only[Z3,seval,-ae];refine zF (λm vs h'=>∃(i:Nat) (v:PV) (rows:List PV),i<=u.length/\m=u.length-i/\vs=[.ptr sp 0,.fz wg ag g.length (pis g),v,.fz wl al u.length rl,.int .i64 u.length,.int .i64 i]/\Keep σ h'/\PAcc σ.next 1 h' v i rows/\All2 FI rows ((u.take i).map λy=>gcnj O P C y g)) u.length ?_ ?_
 .exact⟨0,_,[],by omega,by omega,rfl,Keep.refl σ,PAcc.nil _ _ _,by simpa using All2.nil _⟩
 rintro m vs h' ⟨i,v,rows,hi,rfl,rfl,G,T,E⟩
 simp only[Z3,seval,-ae];refine iteI (λl=>?_) λaF=>?_;rotate_left
 .have aU:i=u.length:=by omega
  subst aU;rw[Yg]at E;exact T.fin G (E.bI 0) λa=>hk _ ⟨true,a,rows,by rw[YL],E⟩
 obtain⟨w4,Z,hr⟩:=bF.rowI l;have I:=hu _ (YK l);simp only[Z3,seval,-ae,l,hr];refine zAV s F (hs.keep G) hR (up I) (up U) ⟨w4,Z,rfl⟩ V λv1 z h1 R J=>?_;obtain rfl:z=gcnj O P C u[i] g:=F.g.cnj_eq I U (dn h1) R;have W:=J;obtain⟨w1,X,rfl⟩:=J;simp only[Z3,seval,-ae];refine PAcc.push (bytes:=24) G T (by omega) (by omega) λv' R k2 Y=>?_;simp only[Z3,seval,-ae,WX l];refine⟨_,by omega,i+1,v',rows++[.fz w1 X (gcnj O P C u[i] g).length (pis (gcnj O P C u[i] g))],by omega,rfl,rfl,k2,Y.acc,?_⟩;rw[YU l,Yh];exact E.snoc W
theorem zGM(s:Shp O P C)(F:Full O P C O.length)(hC:Cent O C)(hp:∀o∈O,isP o)(hs:PtrG σ sp vO vP vC)(J:IsPr vO vP vC O P C)(hL:FII vL L)(Ng:∀x∈L,gS O x)(Cu:L.length<=1000000)(hB:FII vB ln)(hb:∀x∈ln,gS O x)(jm:ln.length<=1000000)
  (hk:∀v u,FII v u->Ones O u->u.length<=O.length->(∀N,gN O P C N->((∀x∈u,N x)↔∀x∈L,N x))->K v σ):zA Tryz.prog 192 [.ptr sp 0,vL,vB] σ K:=by
 have be:=s.le;have AD:=hL;obtain⟨wl,al,rl,rfl,bF⟩:=hL;obtain⟨wb,ab,rb,rfl,cB⟩:=hB;refine zA.gh ?_;refine zD mix Tryz.func192 ?_;simp only[Z3,seval,-ae];refine zGh s hs J λss sb h1 k1 n1 n2 q1=>?_;simp only[Z3,seval,-ae];refine zOD s F hC hp q1 J (OkD.start O.length rfl) ⟨by simp,λk c r hc U=>?_⟩ (QI.start _) AD Ng Cu λt eM D' gW mU N8 Oh hf dR=>?_
 .rw[List.getElem?_replicate]at hc U;split at hc
  .rename_i h;rw[if_pos h]at U;cases hc;cases U;exact .inl ⟨rfl,rfl⟩
  .cases hc
 have Og:∀N,gN O P C N->(InD N D'↔∀q∈L,N q):=λN l=>(Oh N l.toB).trans ⟨λh=>h.2,λh=>⟨InD.start _,h⟩⟩;simp only[Z3,seval,-ae];refine zF (λm V h'=>∃(g:Bool) (W:List PV) (E:List (Option V1)),m=2*free E+(if g=true then 1 else 0)/\V=[.ptr sp 0,.fz wb ab ln.length rb,.ptr ss 0,.bool g]/\h'=h1.set sb W/\All2 (DRow O.length) W E/\OkD O E/\QI O P C E []/\∀N,gN O P C N->(InD N E↔∀q∈L,N q)) (2*free D'+1) ⟨true,eM,D',by rw[if_pos rfl],rfl,rfl,gW,mU,N8,Og⟩ ?_
 rintro m V h' ⟨g,W,E,rfl,rfl,rfl,gT,Gq,uq,AA⟩
 have qS:=q1.setB W;cases g with
 |false=>
  simp only[Z3,seval,-ae];refine zDz s F hC qS J Gq gT λv u T H=>?_;have Z:Ones O u:=H.one;have f3:=H.len;have f4:∀N,gN O P C N->((∀x∈u,N x)↔InD N E):=λN l=>H.iff N l.toB;simp only[Z3,seval,-ae];exact Gh.fin0 (k1.set n2 _) (T.bel _) (hk v u T Z f3 λN l=>(f4 N l).trans (AA N l))
 |true=>
 simp only[Z3,seval,-ae];refine zDz s F hC qS J Gq gT λv u T H=>?_;have Z:Ones O u:=H.one;have f3:=H.len;have f4:∀N,gN O P C N->((∀x∈u,N x)↔InD N E):=λN l=>H.iff N l.toB;have GX:=T;obtain⟨wu,au,ru,rfl,iE⟩:=T;simp only[Z3,seval,-ae];refine zF (λm V h'=>∃(i:Nat) (g:Bool) (I:List PV) (G:List (Option V1)),i<=ln.length/\m=ln.length-i/\V=[.ptr sp 0,.fz wb ab ln.length rb,.ptr ss 0,.bool g,.fz wu au u.length ru,.fz wb ab ln.length rb,.int .i64 ln.length,.int .i64 i]/\h'=h1.set sb I/\All2 (DRow O.length) I G/\OkD O G/\QI O P C G []/\(∀N,gN O P C N->(InD N G↔∀q∈L,N q))/\free G<=free E/\(g=true->free G<free E)) ln.length ⟨0,false,W,E,by omega,by omega,rfl,rfl,gT,Gq,uq,AA,na _,by simp⟩ ?_
 rintro m V h' ⟨i,g,I,G,hi,rfl,rfl,rfl,tC,Gn,Gb,Y,Sa,Ix⟩
 have mb:=q1.setB I;simp only[Z3,seval,-ae];refine iteI (λR=>?_) λaF=>?_;rotate_left
 .cases g with
  |true=>
   have:=Ix rfl
   exact⟨2*free G+1,by omega,true,I,G,by simp,rfl,rfl,tC,Gn,Gb,Y⟩
  |false=>exact⟨2*free G,by omega,false,I,G,by simp,rfl,rfl,tC,Gn,Gb,Y⟩
 obtain⟨w4,a4,U⟩:=cB.rowI R;have mB:=hb _ (YK R);simp only[Z3,seval,-ae,R,U];refine zHg s F mb.pg J GX (λx hx=>(Z x hx).1) (by omega) mB ⟨w4,a4,rfl⟩ λvc fc=>?_;simp only[Z3,seval,-ae];refine zOD s F hC hp mb J Gn tC Gb fc (λx hx=>?_) (by rw[YL];omega) λt4 X D4 yz I1 IQ Of R9 Iw=>?_
 .obtain⟨y,hy,rfl⟩:=Yj.1 hx;exact F.g.cnj_in (Z y hy).1 mB
 have IU:∀N,gN O P C N->(InD N D4↔∀q∈L,N q):=λN l=>(Of N l.toB).trans ⟨λh=>(Y N l).1 h.1,λh=>⟨(Y N l).2 h,λq hq=>by
  obtain⟨y,hy,rfl⟩:=Yj.1 hq;exact l.nor ((f4 N l).2 ((AA N l).2 h) y hy) mB⟩⟩
 have Mq:(h1.set sb I).set sb X=h1.set sb X:=by
  simp only[PHeap.set,PHeap.mk.injEq,true_and];funext t;split<;>rfl
 rw[Mq];cases t4 with
 |true=>
  have:=Iw rfl
  simp only[Z3,seval,-ae,WX R];exact⟨_,by omega,i+1,true,X,D4,by omega,rfl,rfl,rfl,yz,I1,IQ,IU,by omega,λ_=>by omega⟩
 |false=>
  simp only[Z3,seval,-ae,WX R];exact⟨_,by omega,i+1,g,X,D4,by omega,rfl,rfl,rfl,yz,I1,IQ,IU,by omega,λh=>by have:=Ix h;omega⟩
end
section
variable{g:V1}{sb:Nat}
theorem isCen.cent(s:Shp O P C)(h:isCen O C):Cent O C:=λi j J H=>by
 obtain⟨_,G⟩:=h i (by omega);have E:=s.cj i j J H;have l:=G (j-i-1) (by omega);unfold cenE at l;rw[show i+(1+(j-i-1))=j by omega]at l;refine⟨⟨E.len,E.bd,λt R=>?_⟩,l.1⟩;have I:t<(cvec C i j).length:=by rw[E.len];omega
 rw[at_eq I];exact l.2 _ (by rw[UJ];exact⟨t,by omega,rfl⟩)
theorem zEg(i:Nat):((List.range (i+1)).map (Grp.unit O))=((List.range i).map (Grp.unit O))++[Grp.unit O i]:=by
 rw[List.range_succ,Yh];rfl
theorem zHd(s:Shp O P C)(hs:PtrG σ sp vO vP vC)(U:IsPr vO vP vC O P C)(V:∀v,FII v (ZF O)->K v σ):zA Tryz.prog 191 [.ptr sp 0] σ K:=by
 have be:=s.le;obtain⟨⟨Y,J,rfl⟩,_,_⟩:=U;have H:∀{h:PHeap},Keep σ h->h.rd1 sp 0=some (.fz Y J O.length (pis O)):=λk=>by rw[zI (hs.keep k).obj];rfl
 refine zA.gh ?_;refine zD mix Tryz.func191 ?_;simp only[Z3,seval,-ae,H (Keep.refl σ)];refine zF (λm vs h'=>∃(i:Nat) (v:PV) (rows:List PV),i<=O.length/\m=O.length-i/\vs=[.ptr sp 0,v,.int .i64 O.length,.int .i64 i]/\Keep σ h'/\PAcc σ.next 1 h' v i rows/\All2 FI rows ((List.range i).map (Grp.unit O))) O.length ?_ ?_
 .exact⟨0,_,[],by omega,by omega,rfl,Keep.refl σ,PAcc.nil _ _ _,All2.nil _⟩
 rintro m vs h' ⟨i,v,rows,hi,rfl,rfl,E,I,l⟩
 simp only[Z3,seval,-ae];refine iteI (λah=>?_) λZ=>?_;rotate_left
 .have aU:i=O.length:=by omega
  subst aU;exact I.fin E (l.bI 0) λa=>V _ ⟨true,a,rows,by unfold ZF;rw[YL,Ue],l⟩
 have G:i<O.length:=by omega
 simp only[Z3,seval,-ae,H E];refine qC (by omega) G λR=>?_;simp only[Z3,seval,-ae];refine PAcc.push (bytes:=24) E I (by omega) (by omega) λX h2 W T=>?_;simp only[Z3,seval,-ae,WX G];refine⟨_,by omega,i+1,X,_,by omega,rfl,rfl,W,T.acc,?_⟩;rw[zEg];exact l.snoc ⟨true,R,by simp;rfl⟩
theorem zHl(s:Shp O P C)(hs:PtrG σ sp vO vP vC)(h:IsPr vO vP vC O P C)(l:∀v,FII v (ZF O)->K v σ):zA Tryz.prog 127 [.ptr sp 0] σ K:=by
 refine zD mix Tryz.func127 ?_;simp only[Z3,seval,-ae];refine zHd s hs h λv E=>?_;simp only[Z3,seval,-ae];exact l v E
theorem zCn(s:Shp O P C)(F:Full O P C O.length)(hC:Cent O C)(hp:∀o∈O,isP o)(hs:PtrG σ sp vO vP vC)(hR:IsPr vO vP vC O P C)(hU:FII vU u)(hu:∀x∈u,gS O x)(dO:u.length<=100)(hV:FII vV v)(hv:∀x∈v,gS O x)(gE:v.length<=100)
  (hk:∀w z,FII w z->Ones O z->z.length<=O.length->(∀N,gN O P C N->((∀x∈z,N x)↔∀x∈u,∀y∈v,N (gcom O P C x y)))->K w σ):zA Tryz.prog 129 [.ptr sp 0,vU,vV] σ K:=by
 have be:=s.le;have a0:=F.g;have vN:=hU;have pd:=hV;obtain⟨Y,W,G,rfl,iE⟩:=hU;obtain⟨wv,av,H,rfl,fX⟩:=hV;refine zA.gh ?_;refine zD mix Tryz.func129 ?_;simp only[Z3,seval,-ae];refine zF (λm vs h'=>∃(i:Nat) (R:PV) (rows:List PV) (E:V2),i<=u.length/\m=u.length-i/\vs=[.ptr sp 0,.fz Y W u.length G,.fz wv av v.length H,R,.fz Y W u.length G,.int .i64 u.length,.int .i64 i]/\Keep σ h'/\PAcc σ.next 1 h' R E.length rows/\All2 FI rows E/\(∀x∈E,gS O x)/\E.length<=i*v.length/\∀N,gN O P C N->((∀e∈E,N e)↔∀x∈u.take i,∀y∈v,N (gcom O P C x y))) u.length ?_ ?_
 .exact⟨0,_,[],[],by omega,by omega,rfl,Keep.refl σ,PAcc.nil _ _ _,All2.nil _,by simp,by simp,λN l=>by simp⟩
 rintro m vs h' ⟨i,R,rows,E,hi,rfl,rfl,V,Z,U,X,AG,T⟩
 have aN:i*v.length<=100*100:=Nat.mul_le_mul (by omega) gE;simp only[Z3,seval,-ae];refine iteI (λah=>?_) λaF=>?_;rotate_left
 .have aU:i=u.length:=by omega
  subst aU;rw[Yg]at T;have bN:=V.next;simp only[Z3,seval,-ae];refine zA.frz (s:=h'.next) (cs:=[.fz Y W u.length G,.fz wv av v.length H]) (by simp only[Z3,seval,-ae]) ⟨trivial,trivial,trivial⟩ λo1=>?_;simp only[Z3,seval,-ae];simp only[sbs,Go.Ab.sb,capOK,decide_true,na,and_self,if_true];refine zMW (M:=[G,H]) ⟨rfl,λk c r hc hr=>?_⟩ ?_ (by simp) (by simp[iE.1,fX.1];omega) λac=>?_
  .match k with
   |0=>cases hc;cases hr;exact⟨Y,W,by rw[iE.1]⟩
   |1=>cases hc;cases hr;exact⟨wv,av,by rw[fX.1]⟩
   |k+2=>simp at hc
  .intro c hc;simp only[YH,Yp,or_false]at hc;rcases hc with rfl|rfl
   .exact iE.bI 0
   .exact fX.bI 0
  have Ak:[G,H].flatten=G++H:=by simp
  have H7:All2 FI (G++H) (u++v):=iE.append fX;have fA:Keep σ ((h'.new [.fz Y W u.length G,.fz wv av v.length H]).kill h'.next):=(V.new _).kill bN;have hB:FII (.fz true ac (G++H).length (G++H)) (u++v):=⟨true,ac,_,by rw[H7.1],H7⟩
  have rD:∀x∈u++v,gS O x:=λx hx=>(YY.1 hx).elim (hu x) (hv x);rw[Ak];simp only[Z3,seval,-ae];rcases Z with ⟨rfl,h0,rfl⟩|⟨t,cap,rfl,iK,q2,q3,q4,q5⟩
  .obtain rfl:E=[]:=YF h0;refine zGM s F hC hp (hs.keep fA) hR ⟨true,.nils,[],rfl,U⟩ X (by simp) hB rD (by rw[YV];omega) λw z f1 f2 f3 f4=>?_;simp only[Z3,seval,-ae];exact Gh.fin0 fA (f1.bel _) (hk w z f1 f2 f3 λN l=>(f4 N l).trans (T N l))
  .have an:¬t=h'.next:=by omega
   refine zA.frz (s:=t) (cs:=rows) (by simp only[Z3,seval,-ae,an];exact q2) (U.bI 0) λo2=>?_;simp only[sbs,Go.Ab.sb,iK.ok,and_self,if_true];refine zGM s F hC hp (hs.keep (fA.kill q4)) hR (L:=E) ⟨true,_,rows,rfl,U⟩ X (by omega) hB rD (by rw[YV];omega) λw z f1 f2 f3 f4=>?_;simp only[Z3,seval,-ae];exact Gh.fin0 (fA.kill q4) (f1.bel _) (hk w z f1 f2 f3 λN l=>(f4 N l).trans (T N l))
 obtain⟨w4,a4,hr⟩:=iE.rowI ah;have dP:=hu _ (YK ah);simp only[Z3,seval,-ae,ah,hr];refine zF (λm vs I=>∃(q:Nat) (R:PV) (rows:List PV) (E:V2),q<=v.length/\m=v.length-q/\vs=[.ptr sp 0,.fz Y W u.length G,.fz wv av v.length H,R,.fz w4 a4 u[i].length (pis u[i]),.fz Y W u.length G,.int .i64 u.length,.int .i64 i,.fz wv av v.length H,.int .i64 v.length,.int .i64 q]/\Keep σ I/\PAcc σ.next 1 I R E.length rows/\All2 FI rows E/\(∀x∈E,gS O x)/\E.length<=i*v.length+q/\∀N,gN O P C N->((∀e∈E,N e)↔((∀x∈u.take i,∀y∈v,N (gcom O P C x y))/\∀y∈v.take q,N (gcom O P C u[i] y)))) v.length ?_ ?_
 .exact⟨0,R,rows,E,by omega,by omega,rfl,V,Z,U,X,AG,λN l=>(T N l).trans (by simp)⟩
 clear V Z U X AG T rows E R
 rintro m vs I ⟨q,R,rows,E,hq,rfl,rfl,V,Z,U,X,AG,T⟩
 simp only[Z3,seval,-ae];refine iteI (λiV=>?_) λuc=>?_;rotate_left
 .have jk:q=v.length:=by omega
  subst jk;rw[Yg]at T;simp only[Z3,seval,-ae,WX ah];refine⟨_,by omega,i+1,R,rows,E,by omega,rfl,rfl,V,Z,U,X,by rw[Nat.succ_mul];exact AG,λN l=>(T N l).trans ?_⟩;rw[YU ah];simp only[YY,YN];exact⟨λ⟨h1,I⟩ x hx y J=>hx.elim (λh=>h1 x h y J) (λh=>by rw[h];exact I y J),λh=>⟨λx hx y J=>h x (.inl hx) y J,λy J=>h _ (.inr rfl) y J⟩⟩
 obtain⟨w5,a5,oE⟩:=fX.rowI iV;have lb:=hv _ (YK iV);simp only[Z3,seval,-ae,iV,oE];refine qy s F (hs.keep V) hR dP lb ⟨w4,a4,rfl⟩ ⟨w5,a5,rfl⟩ λvc fc=>?_;have GG:=fc;obtain⟨wc,ac,rfl⟩:=fc;simp only[Z3,seval,-ae];refine PAcc.push (bytes:=24) V Z (by omega) (by omega) λv' h3 k3 a3=>?_;simp only[Z3,seval,-ae,WX iV];refine⟨_,by omega,q+1,v',rows++[.fz wc ac (gcom O P C u[i] v[q]).length (pis (gcom O P C u[i] v[q]))],E++[gcom O P C u[i] v[q]],by omega,rfl,rfl,k3,by rw[YV];exact a3.acc,U.snoc GG,λx hx=>?_,by rw[YV,Yz];omega,λN l=>?_⟩
 .rcases YY.1 hx with hx|hx
  .exact X x hx
  .rw[YN.1 hx];exact a0.com_in dP lb
 .rw[YU iV];simp only[YY,YN]
  have:=T N l
  constructor
  .intro h;obtain⟨h1,I⟩:=this.1 λe he=>h e (.inl he);exact⟨h1,λy J=>J.elim (I y) (λe=>by rw[e];exact h _ (.inr rfl))⟩
  .rintro⟨h1,I⟩ e he
   rcases he with he|he
   .exact this.2 ⟨h1,λy J=>I y (.inl J)⟩ e he
   .rw[he];exact I _ (.inr rfl)
theorem zNV(J:Ones O z')(s:Shp O P C)(R:∀N,gN O P C N->((∀x∈z',N x)↔∀x∈u,∀y∈ZF O,N (gcom O P C x y))):SStep O P C u z':=by
 refine⟨λx G=>⟨(J x G).1,zN2 s (J x G).2.1⟩,λx=>?_⟩;have e:∀N,gN O P C N->((∀l,memL z' l->N l)↔∀l,cs O P C (memL u) l->N l):=λN h=>(R N h).trans ⟨λE l T=>by
  obtain⟨x,i,G,I,rfl⟩:=T;exact E x G _ (Yj.2 ⟨i,UC.2 I,rfl⟩),λE x G y U=>by
  obtain⟨i,I,rfl⟩:=Yj.1 U;exact E _ ⟨x,i,G,UC.1 I,rfl⟩⟩
 exact⟨λh N E H=>h N E ((e N E).2 H),λh N E H=>h N E ((e N E).1 H)⟩
end
end Go.Proofs
