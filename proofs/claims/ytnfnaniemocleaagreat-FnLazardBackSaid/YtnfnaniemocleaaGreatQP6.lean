/- . -/
import Derived.Test.YtnfnaniemocleaaGreatQP5
import Derived.Test.YtnfnaniemocleaaGreatQP4
set_option linter.all false
set_option linter.defProp false
open Go.IntKind renaming wrap->Lp
open List renaming length->Lu
open Go.Proofs.Tryz renaming prog->Li
open Bool renaming true->DF
open Int renaming dvd_of_emod_eq_zero->Iq,emod_add_emod->IP,emod_eq_zero_of_dvd->It,pow_pos->Ht
open List renaming drop_eq_nil_of_le->EG,drop_zero->EC,flatten_append->KS,getElem?_cons_zero->Hk,getElem?_replicate->JX,length->F6,mem_filter->F8,range->DO,range_succ->Ia,replicate->Ep,set_cons_succ->Ib
open Nat renaming eq_zero_or_pos->F4,min_eq_left->Hl,mul_one->Fe,ne_of_lt->Ev,sub_zero->Ed,zero_mul->E1
open Option renaming some->Dc
open True renaming intro->DJ
open Int renaming reduceNatCast'->ae
set_option maxRecDepth 100000
namespace Go.Proofs
open Go.Ab Go.Lie Go.Grp
variable{rC rP:List PV}{d j sp:Nat}{σ:cg}{vC vO vP:PV}{K:PV->cg->Prop}{O a x:V1}{P:V2}{C:V3}
section
variable{s:Nat}
def zLW(s:jl O P C)(hR:dU vO vP vC O P C)
  (hk:∀l E G H:Int,(l=0↔Cons O P C)->K (.agg [.int .i64 l,.int .i64 E,.int .i64 G,.int .i64 H]) σ):zA Li 214 [.agg [vO,vP,vC]] σ K:=by
 have aX:=s.le;have aJ:=hR;obtain⟨⟨X,T,rfl⟩,⟨w1,U,rP,rfl,hP⟩,⟨Y,V,rC,rfl,hC⟩⟩:=hR;refine zA.gh ?_;have fin:∀{l E G H:Int} {σ':cg},(l=0↔Cons O P C)->cT σ σ'->Gh σ K (.agg [.int .i64 l,.int .i64 E,.int .i64 G,.int .i64 H]) σ':=λh k=>Gh.fin0 k ⟨DJ,DJ,DJ,DJ,DJ⟩ (hk _ _ _ _ h);have yz:Lp .i64 ((Lu O:Int)-1)=(Lu O:Int)-1:=WE;refine Lg Tryz.func214 ?_;simp only[Z3,seval,-ae,yz];refine zF (λm vs h'=>∃k:Nat,k<=Lu O/\m=k/\vs=[.ptr σ.aM 0,.ptr (σ.aM+1) 0,.int .i64 ((k:Int)-1)]/\cT ((σ.bf [.fz X T (Lu O) (cS O),.fz w1 U (Lu P) rP,.fz Y V (Lu C) rC]).bf [.int .i64 0,.int .i64 0,.int .i64 0,.int .i64 0]) h'/\∀j,k<=j->j<Lu O->Lv O P C j) (Lu O) ?_ ?_
 .exact⟨(Lu O),na _,rfl,rfl,cT.refl _,λj h1 R=>af⟩
 rintro m vs h' ⟨k,lX,rfl,rfl,I,W⟩
 have Z:cT σ h':=((zC σ _).bf _).trans I;have dg:σ.aM+2<=h'.aM:=I.aM;have Ac:h'.bt σ.aM=Dc [.fz X T (Lu O) (cS O),.fz w1 U (Lu P) rP,.fz Y V (Lu C) rC]:=by rw[I.bt _ (by simp[cg.bf];omega)];simp[cg.bf]
 have mO:h'.bt (σ.aM+1)=Dc [.int .i64 0,.int .i64 0,.int .i64 0,.int .i64 0]:=by rw[I.bt _ (by simp[cg.bf])];simp[cg.bf]
 have iI:h'.rd σ.aM 0 3=Dc [.fz X T (Lu O) (cS O),.fz w1 U (Lu P) rP,.fz Y V (Lu C) rC]:=by simp[cg.rd,Ac]
 have oH:∀l E G H:Int,h'.wr (σ.aM+1) 0 [.int .i64 l,.int .i64 E,.int .i64 G,.int .i64 H]=Dc (h'.set (σ.aM+1) [.int .i64 l,.int .i64 E,.int .i64 G,.int .i64 H]):=λl E G H=>by
  have:∀cs:List PV,(Lu cs)=4->cs.all PV.one=DF->h'.wr (σ.aM+1) 0 cs=Dc (h'.set (σ.aM+1) cs):=λcs hl ho=>by
   simp only[cg.wr,mO,YP,ho,hl];simp[cg.set,EG,hl]
  exact this _ rfl rfl
 have jX:¬σ.aM=h'.aM:=af
 have iM:¬σ.aM+1=h'.aM:=af
 rcases F4 m with rfl|Ai
 .simp only[Z3,seval,-ae,show ¬((0:Int)<=((0:Nat):Int)-1) by omega,oH];exact fin ⟨λ_ j hj=>W j (YV _) hj,λ_=>rfl⟩ (Z.set af _)
 obtain⟨i,rfl⟩:∃i,m=i+1:=⟨m-1,af⟩
 have e:((i+1:Nat):Int)-1=(i:Int):=af
 rw[e];have aR:i<Lu O:=lX;have kQ:Lp .i64 ((i:Int)-1)=(i:Int)-1:=WE;have B:Beh O P C (Lu O-(i+1)):=zPp s af λj h1 R=>W j af R;simp only[Z3,seval,-ae,iI];refine zLV s (d:=(Lu O)-(i+1)) af B aJ λl E G H hf=>?_;refine Lk ?_;refine de (λJ=>?_) λJ=>?_
 .simp only[Z3,seval,-ae,kQ];refine⟨i,af,i,af,rfl,rfl,I.bf _,λj h1 R=>?_⟩;by_cases e:j=i
  .subst e;exact hf.1 J
  .exact W j af R
 .simp only[Z3,seval,-ae,jX,iM,oH];exact fin ⟨λh=>absurd h J,λh=>absurd (hf.2 (h i aR)) J⟩ ((Z.set af _).bf _)
def zF1(s:jl O P C)(h:dU vO vP vC O P C)(I:∀t:Bool,(t=DF↔Cons O P C)->K (.bool t) σ):zA Li 166 [.agg [vO,vP,vC]] σ K:=by
 have l:=h.O.one;have E:=h.P.one;have G:=h.C.one;refine Lh Tryz.func166 ?_;simp only[Z3,seval,-ae,l,E,G];refine zLW s h λJ R T U H=>?_;refine Lk ?_;exact Gh.fin0 (zC σ _) trivial (I _ (by rw[decide_eq_true_iff];exact H))
def zFd(l:dU vO vP vC O P C)(sz:SzP O P C)(J:∀t:Bool,(t=DF↔qG O P C/\Cons O P C)->K (.bool t) σ):zA Li 88 [.agg [vO,vP,vC]] σ K:=by
 have G:=l.O.one;have H:=l.P.one;have I:=l.C.one;have T:∀{A:Prop},¬A->((false=DF)↔A):=λh=>⟨λx=>(by cases x),λx=>absurd x h⟩
 refine Lh Tryz.func88 ?_;simp only[Z3,seval,-ae,G,H,I];refine QR l sz λt E=>?_;cases t with
 |false=>
  refine Lk ?_;exact Gh.fin0 (zC σ _) trivial (J _ (T λh=>by cases E.2 h.1))
 |true=>
  have R:=E.1 rfl;simp only[Z3,seval,-ae,G,H,I];refine zF1 R.shp l λt E=>?_;refine Lk ?_;exact Gh.fin0 (zC σ _) trivial (J _ ⟨λh=>⟨R,E.1 h⟩,λh=>E.2 h.2⟩)
end
section
variable{b:V1}
def zIh(s:jl O P C)(F:Full O P C d){i:Nat}(hi:(Lu O)=d+(i+1))(hs:jh σ sp vO vP vC)(hR:dU vO vP vC O P C)
  (hk:∀I f1 f2 J:Int,((I=0/\f1=0/\f2=0/\J=0/\Lv O P C i)\/(I≠0/\¬Lv O P C i))->K (.agg [.int .i64 I,.int .i64 f1,.int .i64 f2,.int .i64 J]) σ):zA Li 190 [.ptr sp 0,.int .i64 i] σ K:=by
 have aX:=s.le;have W:=hR;have R:i<Lu O:=af
 have M:=F.gp.toMon;have a2:=F.gp;have T:(Lu O)-d=i+1:=af
 have V:(Lu O)-1-i=d:=af
 have X:¬sp=σ.aM:=Ev hs.lt;have Z:∀cs,jh (σ.bf cs) sp vO vP vC:=λcs=>hs.bf cs;have yes:((∀q,q<d->pw (mu O P C d) (zv O) (du C i (i+(1+q))) (nx O (i+(1+q)))=Grp.lD O C (mu O P C d) i (eM P (i+(1+q))))->
   (∀q r,q+(1+r)<d->mu O P C d (du C i (i+(1+(q+(1+r))))) (du C i (i+(1+q)))=mu O P C d (du C i (i+(1+q))) (Grp.lD O C (mu O P C d) i (du C (i+(1+q)) (i+(1+(q+(1+r)))))))->
   Grp.lD O C (mu O P C d) i (eM P i)=eM P i->
   (∀q,q<d->mu O P C d (eM P i) (iter (Grp.lD O C (mu O P C d) i) (nx O i) (cD (Lu O) (i+(1+q))))=mu O P C d (cD (Lu O) (i+(1+q))) (eM P i))->Lv O P C i):=λh1 h2 h3 h4=>by
  refine⟨λj g1 g2=>?_,λj k g1 g2 g3=>?_,?_,λj g1 g2=>?_⟩
  .have:=h1 (j-i-1) af;rw[show i+(1+(j-i-1))=j by omega]at this;rw[V];exact this
  .have:=h2 (j-i-1) (k-j-1) af;rw[show i+(1+(j-i-1))=j by omega,show i+(1+(j-i-1+(1+(k-j-1))))=k by omega]at this;rw[V];exact this
  .rw[V];exact h3
  .have:=h4 (j-i-1) af;rw[show i+(1+(j-i-1))=j by omega]at this;rw[V];exact this
 have tO:∀x,TT O (Lu O-d) (Grp.lD O C (mu O P C d) i x):=λx=>by
  rw[T];exact zAF s (λa b ha hb=>by have:=M.cl (a:=a) (b:=b) (by rw[T];exact ha) (by rw[T];exact hb);rwa[T]at this) x
 obtain⟨⟨w0,a0,rfl⟩,⟨w1,a1,rP,rfl,hP⟩,⟨w3,a3,rC,rfl,hC⟩⟩:=hR;obtain⟨w5,a5,rs,cB,dz⟩:=AI s hC R;have bX:i<Lu C:=by rw[s.cl];exact R
 have dA:i<Lu P:=by rw[s.pl];exact R
 have e0:σ.dR sp 0=Dc (.fz w0 a0 (Lu O) (cS O)):=by rw[zH hs.bt];rfl
 have e1:σ.dR sp 1=Dc (.fz w1 a1 (Lu P) rP):=by rw[zH hs.bt];rfl
 have e2:σ.dR sp 2=Dc (.fz w3 a3 (Lu C) rC):=by rw[zH hs.bt];rfl
 refine zA.gh ?_;have fin:∀{I f1 f2 J:Int} {σ':cg},((I=0/\f1=0/\f2=0/\J=0/\Lv O P C i)\/(I≠0/\¬Lv O P C i))->cT σ σ'->Gh σ K (.agg [.int .i64 I,.int .i64 f1,.int .i64 f2,.int .i64 J]) σ':=λh k=>Gh.fin0 k ⟨DJ,DJ,DJ,DJ,DJ⟩ (hk _ _ _ _ h);have no:∀{I f1 f2 J:Int},I≠0->¬Lv O P C i->((I=0/\f1=0/\f2=0/\J=0/\Lv O P C i)\/(I≠0/\¬Lv O P C i)):=λh g=>.inr ⟨h,g⟩;have ar:∀cs:List PV,cT σ (σ.bf cs):=λcs=>zC σ _;have Y:Lp .i64 ((i:Int)+1)=((i+1:Nat):Int):=gX R af;refine qH mix Tryz.func190 ?_;simp only[Z3,seval,-ae,e0,X]
 -- first condition
 simp only[Z3,seval,-ae,Y];refine zF (λm vs h'=>∃q:Nat,q<=d/\m=d-q/\vs=[.ptr sp 0,.int .i64 i,.ptr σ.aM 0,.int .i64 (Lu O),.int .i64 i,.int .i64 ((i+(1+q):Nat):Int)]/\
  h'=σ.bf [.int .i64 0,.int .i64 0,.int .i64 0,.int .i64 0]/\∀E,E<q->pw (mu O P C d) (zv O) (du C i (i+(1+E))) (nx O (i+(1+E)))=Grp.lD O C (mu O P C d) i (eM P (i+(1+E)))) d ?_ ?_
 .exact⟨0,af,af,rfl,rfl,λq h=>af⟩
 rintro m vs h' ⟨q,hq,rfl,rfl,rfl,ai⟩
 refine Lk ?_;refine de (λah=>?_) λaG=>?_
 .have l:i+(1+q)<Lu O:=af
  have uM:i+(1+q)<Lu P:=by rw[s.pl];exact l
  obtain⟨w6,a6,cE⟩:=dz q af;obtain⟨w7,a7,cN⟩:=CU s hP l;have jv:q<Lu O-1-i:=af
  have bB:=s.cj i (i+(1+q)) af af;have nJ:TT O (Lu O-d) (du C i (i+(1+q))):=by rw[T];exact bB
  have U:=s.pw (i+(1+q)) l;have hO:=s.pr _ l;have e3:Lp .i64 (((i+(1+q):Nat):Int)-(i:Int))=((1+q:Nat):Int):=WQ
  have e4:Lp .i64 (((1+q:Nat):Int)-1)=(q:Int):=WQ
  have e5:Lp .i64 (((i+(1+q):Nat):Int)+1)=((i+(1+(q+1)):Nat):Int):=WQ
  simp only[Z3,seval,-ae,e0,e1,e2,X,Y,bX,cB,e3,e4,jv,cE,l,gd l,uM,cN];refine zAN s F (Z _) W nJ (FI.mk bB.len) af λv hv=>?_;simp only[Z3,seval,-ae,e0,e1,e2,X,Y,bX,cB,e3,e4,jv,cE,l,gd l,uM,cN];refine zBk s F hi (Z _) W (U.mono (YV _)) (FI.mk U.len) λv2 cA=>?_;obtain⟨w8,a8,rfl⟩:=hv;obtain⟨w9,a9,rfl⟩:=cA;refine Lk ?_;refine zBC rfl rfl (by have:=(M.pw nJ (at_ O (i+(1+q))).toNat).len;omega) ?_;by_cases G:pw (mu O P C d) (zv O) (du C i (i+(1+q))) (nx O (i+(1+q)))=Grp.lD O C (mu O P C d) i (eM P (i+(1+q)))
  .simp only[Z3,seval,-ae,eq_true G,e5];refine⟨_,af,q+1,af,rfl,rfl,λE h=>?_⟩;by_cases e:E=q
   .subst e;exact G
   .exact ai E af
  .simp only[Z3,seval,-ae,G];exact fin (no LB λL=>G (by have:=L.pow (i+(1+q)) af l;rwa[V]at this)) (ar _)
 have sw:q=d:=af
 subst sw
 -- second condition
 simp only[Z3,seval,-ae,Y];refine zF (λm vs h'=>∃E:Nat,E<=q/\m=q-E/\vs=[.ptr sp 0,.int .i64 i,.ptr σ.aM 0,.int .i64 (Lu O),.int .i64 i,.int .i64 ((i+(1+E):Nat):Int)]/\
  h'=σ.bf [.int .i64 0,.int .i64 0,.int .i64 0,.int .i64 0]/\
  ∀t r,t<E->t+(1+r)<q->mu O P C q (du C i (i+(1+(t+(1+r))))) (du C i (i+(1+t)))=mu O P C q (du C i (i+(1+t))) (Grp.lD O C (mu O P C q) i (du C (i+(1+t)) (i+(1+(t+(1+r))))))) q ?_ ?_
 .exact⟨0,af,af,rfl,rfl,λt r h=>af⟩
 rintro m vs h' ⟨t,ht,rfl,rfl,rfl,bc⟩
 refine Lk ?_;refine de (λah=>?_) λaG=>?_
 .have l:i+(1+t)<Lu O:=af
  have sE:i+(1+t)<Lu C:=by rw[s.cl];exact l
  obtain⟨w6,a6,cE⟩:=dz t af;obtain⟨w7,a7,xU,iJ,ub⟩:=AI s hC l;have jv:t<Lu O-1-i:=af
  have bB:=s.cj i (i+(1+t)) af af;have nJ:TT O (Lu O-q) (du C i (i+(1+t))):=by rw[T];exact bB
  have e3:Lp .i64 (((i+(1+t):Nat):Int)-(i:Int))=((1+t:Nat):Int):=WQ
  have e4:Lp .i64 (((1+t:Nat):Int)-1)=(t:Int):=WQ
  have e5:Lp .i64 (((i+(1+t):Nat):Int)+1)=((i+(1+(t+1)):Nat):Int):=WQ
  simp only[Z3,seval,-ae,e5];refine zF (λm vs h'=>∃r:Nat,t+(1+r)<=q/\m=q-(t+(1+r))/\vs=[.ptr sp 0,.int .i64 i,.ptr σ.aM 0,.int .i64 (Lu O),.int .i64 i,.int .i64 ((i+(1+t):Nat):Int),.int .i64 ((i+(1+(t+(1+r))):Nat):Int)]/\
   h'=σ.bf [.int .i64 0,.int .i64 0,.int .i64 0,.int .i64 0]/\
   ∀H,H<r->t+(1+H)<q->mu O P C q (du C i (i+(1+(t+(1+H))))) (du C i (i+(1+t)))=mu O P C q (du C i (i+(1+t))) (Grp.lD O C (mu O P C q) i (du C (i+(1+t)) (i+(1+(t+(1+H))))))) (q-(t+1)) ?_ ?_
  .exact⟨0,af,af,rfl,rfl,λH h=>af⟩
  rintro m vs h' ⟨r,hr,rfl,rfl,rfl,jA⟩
  refine Lk ?_;refine de (λaD=>?_) λeQ=>?_
  .have lX:i+(1+(t+(1+r)))<Lu O:=af
   obtain⟨w8,a8,mI⟩:=dz (t+(1+r)) af;obtain⟨w9,a9,jS⟩:=ub r af;rw[show i+(1+t)+(1+r)=i+(1+(t+(1+r))) by omega]at jS;have hJ:=s.cj i (i+(1+(t+(1+r)))) af lX;have AJ:TT O (Lu O-q) (du C i (i+(1+(t+(1+r))))):=by rw[T];exact hJ
   have nH:=s.cj (i+(1+t)) (i+(1+(t+(1+r)))) af lX;have ll:t+(1+r)<Lu O-1-i:=af
   have nk:r<Lu O-1-(i+(1+t)):=af
   have J:Lp .i64 (((i+(1+(t+(1+r))):Nat):Int)-(i:Int))=((1+(t+(1+r)):Nat):Int):=WQ
   have f4:Lp .i64 (((1+(t+(1+r)):Nat):Int)-1)=((t+(1+r):Nat):Int):=WQ
   have f5:Lp .i64 (((i+(1+(t+(1+r))):Nat):Int)+1)=((i+(1+(t+(1+(r+1)))):Nat):Int):=WQ
   have f6:Lp .i64 (((i+(1+(t+(1+r))):Nat):Int)-((i+(1+t):Nat):Int))=((1+r:Nat):Int):=WQ
   have f7:Lp .i64 (((1+r:Nat):Int)-1)=(r:Int):=WQ
   simp only[Z3,seval,-ae,e0,e1,e2,X,Y,bX,cB,e3,e4,J,f4,f6,f7,jv,cE,ll,mI,sE,iJ,nk,jS];refine zAq s F (Z _) W AJ nJ (FI.mk hJ.len) (FI.mk bB.len) λv z dH dh hv=>?_;simp only[Z3,seval,-ae,e0,e1,e2,X,Y,bX,cB,e3,e4,J,f4,f6,f7,jv,cE,ll,mI,sE,iJ,nk,jS];refine zBk s F hi (Z _) W (nH.mono (YV _)) (FI.mk nH.len) λv2 cA=>?_;have hz:=tO (du C (i+(1+t)) (i+(1+(t+(1+r)))));obtain⟨Dv,lL,rfl⟩:=hv;obtain⟨J3,Da,rfl⟩:=cA;refine Lk ?_;refine zBC rfl rfl (by have:=dH.len;omega) ?_;by_cases G:z=Grp.lD O C (mu O P C q) i (du C (i+(1+t)) (i+(1+(t+(1+r)))))
   .simp only[Z3,seval,-ae,eq_true G,f5];refine⟨_,af,r+1,af,rfl,rfl,λH h1 h2=>?_⟩;by_cases e:H=r
    .subst e;rw[<-G];exact dh.symm
    .exact jA H af h2
   .simp only[Z3,seval,-ae,G];exact fin (no LB λL=>G (by
     have:=L.cj (i+(1+t)) (i+(1+(t+(1+r)))) af af lX
     rw[V]at this;exact a2.cancel nJ dH hz (dh.trans this))) (ar _)
  .simp only[Z3,seval,-ae,e5];refine⟨_,af,t+1,af,rfl,rfl,λt' H h1 h2=>?_⟩;by_cases e:t'=t
   .subst e;exact jA H af h2
   .exact bc t' H af h2
 -- third condition
 obtain⟨w6,a6,cN⟩:=CU s hP R;have U:=s.pw i R;have zj:TT O (Lu O-q) (eM P i):=by rw[T];exact U
 simp only[Z3,seval,-ae,e1,X,dA,cN];refine zBk s F hi (Z _) W (U.mono (YV _)) (FI.mk U.len) λv hv=>?_;obtain⟨w7,a7,rfl⟩:=hv;refine Lk ?_;refine zBC rfl U.len.symm (by have:=(tO (eM P i)).len;omega) ?_;by_cases pN:Grp.lD O C (mu O P C q) i (eM P i)=eM P i;rotate_left
 .simp only[Z3,seval,-ae,pN];exact fin (no LB λL=>pN (by have:=L.fix;rwa[V]at this)) (ar _)
 simp only[Z3,seval,-ae,eq_true pN,Y]
 -- vE condition
 refine zF (λm vs h'=>∃E:Nat,E<=q/\m=q-E/\vs=[.ptr sp 0,.int .i64 i,.ptr σ.aM 0,.int .i64 (Lu O),.int .i64 i,.fz w6 a6 (Lu O) (cS (eM P i)),.int .i64 ((i+(1+E):Nat):Int)]/\
  h'=σ.bf [.int .i64 0,.int .i64 0,.int .i64 0,.int .i64 0]/\
  ∀t,t<E->mu O P C q (eM P i) (iter (Grp.lD O C (mu O P C q) i) (nx O i) (cD (Lu O) (i+(1+t))))=mu O P C q (cD (Lu O) (i+(1+t))) (eM P i)) q ?_ ?_
 .exact⟨0,af,af,rfl,rfl,λt h=>af⟩
 rintro m vs h' ⟨t,ht,rfl,rfl,rfl,jz⟩
 refine Lk ?_;refine Ll (λaG=>?_) λah=>?_
 .exact fin (.inl ⟨rfl,rfl,rfl,rfl,yes ai (λt' H h=>bc t' H af h) pN (λt' h=>jz t' af)⟩) (ar _)
 have l:i+(1+t)<Lu O:=af
 have hO:=s.pr i R;have e5:Lp .i64 (((i+(1+t):Nat):Int)+1)=((i+(1+(t+1)):Nat):Int):=WQ
 have Cu:TT O (i+1) (cD (Lu O) (i+(1+t))):=s.unit l af;have yH:TT O (Lu O-q) (cD (Lu O) (i+(1+t))):=by rw[T];exact Cu
 refine Lk ?_;refine zm af l λav=>?_;simp only[Z3,seval,-ae,e0,X,R,gd R];refine zF (λm vs h'=>∃(k:Nat) (v2:PV) (A:V1),k<=nx O i/\m=nx O i-k/\vs=[.ptr sp 0,.int .i64 i,.ptr σ.aM 0,.int .i64 (Lu O),.int .i64 i,.fz w6 a6 (Lu O) (cS (eM P i)),.int .i64 ((i+(1+t):Nat):Int),v2,.int .i64 (at_ O i),.int .i64 k]/\
  h'=σ.bf [.int .i64 0,.int .i64 0,.int .i64 0,.int .i64 0]/\FI v2 A/\TT O (Lu O-q) A/\iter (Grp.lD O C (mu O P C q) i) (nx O i-k) A=iter (Grp.lD O C (mu O P C q) i) (nx O i) (cD (Lu O) (i+(1+t)))) (nx O i) ?_ ?_
 .exact⟨0,.fz DF av (Lu O) (cS (cD (Lu O) (i+(1+t)))),_,af,af,rfl,rfl,FI.mk (zU _ _),yH,rfl⟩
 rintro m vs h' ⟨k,v2,A,bM,rfl,rfl,rfl,cA,hA,bw⟩
 have cb:((nx O i:Nat):Int)=at_ O i:=YD af;refine Lk ?_;refine de (λaD=>?_) λeQ=>?_
 .have bN:k<nx O i:=af
  refine zBk s F hi (Z _) W (hA.mono (YV _)) cA λv3 pn=>?_;simp only[Z3,seval,-ae,WX bN];refine⟨_,af,k+1,v3,_,af,rfl,rfl,pn,tO _,?_⟩;rw[show nx O i-k=(nx O i-(k+1))+1 by omega]at bw;exact bw
 have eg:k=nx O i:=af
 subst eg;rw[Yk]at bw;have Ba:A=iter (Grp.lD O C (mu O P C q) i) (nx O i) (cD (Lu O) (i+(1+t))):=bw;subst Ba;refine Lk ?_;refine zm af l λSk=>?_;refine Lk ?_;refine zAq s F (Z _) W yH zj (FI.mk (zU _ _)) (FI.mk U.len) λv z dH dh hv=>?_;obtain⟨w8,a8,rfl⟩:=cA;obtain⟨w9,a9,rfl⟩:=hv;refine Lk ?_;refine zBC rfl rfl (by have:=hA.len;omega) ?_;by_cases G:iter (Grp.lD O C (mu O P C q) i) (nx O i) (cD (Lu O) (i+(1+t)))=z
 .simp only[Z3,seval,-ae,eq_true G,e5];refine⟨_,af,t+1,af,rfl,rfl,λt' h=>?_⟩;by_cases e:t'=t
  .subst e;rw[G];exact dh
  .exact jz t' af
 .simp only[Z3,seval,-ae,G];exact fin (no LB λL=>G (by
   have:=L.inn (i+(1+t)) af l
   rw[V]at this;exact a2.cancel zj hA dH (this.trans dh.symm))) (ar _)
end
def zFM(s:jl O P C)(hs:jh σ sp vO vP vC)(I:dU vO vP vC O P C)(J:∀r:Int,(r=0↔Cons O P C)->K (.int .i64 r) σ):zA Li 126 [.ptr sp 0] σ K:=by
 have aX:=s.le;have T:=I;have U:=hs;obtain⟨⟨w0,R,rfl⟩,⟨w1,a1,rP,rfl,hP⟩,⟨w3,a3,rC,rfl,hC⟩⟩:=I;have V:σ.dR sp 0=Dc (.fz w0 R (Lu O) (cS O)):=by rw[zH hs.bt];rfl
 refine Lg Tryz.func126 ?_;simp only[Z3,seval,-ae,V];refine zF (λm vs h'=>∃k:Nat,k<=Lu O/\m=k/\vs=[.ptr sp 0,.int .i64 k]/\σ=h'/\∀j,k<=j->j<Lu O->Lv O P C j) (Lu O) ?_ ?_
 .exact⟨(Lu O),na _,rfl,rfl,rfl,λj H l=>af⟩
 rintro m vs h' ⟨k,lX,rfl,rfl,rfl,G⟩
 rcases F4 m with rfl|Ai
 .have N0:¬((0:Int)<((0:Nat):Int)):=af
  simp only[Z3,seval,-ae,N0];exact J _ ⟨λ_ j Y=>G j (YV _) Y,λ_=>rfl⟩
 obtain⟨i,rfl⟩:∃i,m=i+1:=⟨m-1,af⟩
 have E:(0:Int)<((i+1:Nat):Int):=af
 have hw:Lp .i64 (((i+1:Nat):Int)-1)=(i:Int):=WQ
 have F:Full O P C (Lu O-(i+1)):=sY s af λj H l=>G j af l;simp only[Z3,seval,-ae,E,hw];refine zIh s F (i:=i) af U T λf0 f1 f2 f3 X=>?_;rcases X with ⟨rfl,rfl,rfl,rfl,L⟩|⟨W,Z⟩
 .simp only[Z3,seval,-ae,E,hw];refine⟨i,af,i,af,rfl,rfl,λj H l=>?_⟩;by_cases e:j=i
  .subst e;exact L
  .exact G j af l
 .simp only[Z3,seval,-ae,E,hw,W,Bool.false_and];exact J _ ⟨λh=>absurd h af,λh=>absurd (h i af) Z⟩
def zCn(l:dU vO vP vC O P C)(sz:SzP O P C)(E:∀t:Bool,(t=DF↔qG O P C/\Cons O P C)->K (.bool t) σ):zA Li 65 [.agg [vO,vP,vC]] σ K:=by
 have T:=l.O.one;have U:=l.P.one;have V:=l.C.one;have R:∀{A:Prop},¬A->((false=DF)↔A):=λh=>⟨λx=>(by cases x),λx=>absurd x h⟩
 have J:jh (σ.bf [vO,vP,vC]) σ.aM vO vP vC:=⟨by simp only[Z3,seval,-ae],by simp only[Z3,seval,-ae]⟩
 refine Lh Tryz.func65 ?_;simp only[Z3,seval,-ae,T,U,V];refine zFN l sz λt I=>?_;cases t with
 |false=>
  refine Lk ?_;exact Gh.fin0 (zC σ _) trivial (E _ (R λh=>by cases I.2 h.1))
 |true=>
  have G:=I.1 rfl;refine Lk ?_;refine zFM G.shp J l λr H=>?_;refine Lk ?_;exact Gh.fin0 (zC σ _) trivial (E _ (by rw[decide_eq_true_iff];exact⟨λh=>⟨G,H.1 h⟩,λh=>H.2 h.2⟩))
def cenE(C:V3)(i q:Nat):Prop:=at_ (du C i (i+(1+q))) (i+(1+q))=1/\mw ((du C i (i+(1+q))).take (i+(1+q)))
def vF(O:V1)(C:V3):Prop:=∀i,i<Lu O->at_ O i=at_ O 0/\∀q,i+(1+q)<Lu O->cenE C i q
def zJ0(s:jl O P C)(hs:jh σ sp vO vP vC)(hR:dU vO vP vC O P C)(I:∀t:Bool,(t=DF↔vF O C)->K (.bool t) σ):zA Li 161 [.ptr sp 0] σ K:=by
 have T:=@Lm
 have aX:=s.le;obtain⟨⟨U,R,rfl⟩,⟨w1,a1,rP,rfl,hP⟩,⟨w3,a3,rC,rfl,hC⟩⟩:=hR;have e0:σ.dR sp 0=Dc (.fz U R (Lu O) (cS O)):=by rw[zH hs.bt];rfl
 have e2:σ.dR sp 2=Dc (.fz w3 a3 (Lu C) rC):=by rw[zH hs.bt];rfl
 refine Lg Tryz.func161 ?_;simp only[Z3,seval,-ae,e0];refine zF (λm vs h'=>∃i:Nat,i<=Lu O/\m=Lu O-i/\vs=[.ptr sp 0,.fz U R (Lu O) (cS O),.int .i64 (Lu O),.int .i64 i]/\σ=h'/\∀t,t<i->at_ O t=at_ O 0/\∀q,t+(1+q)<Lu O->cenE C t q) (Lu O) ?_ ?_
 .exact⟨0,af,af,rfl,rfl,λt h=>af⟩
 rintro m vs h' ⟨i,hi,rfl,rfl,rfl,X⟩
 refine Lk ?_;refine Ll (λaG=>?_) λl=>?_
 .exact I _ ⟨λ_ t ht=>X t af,λ_=>rfl⟩
 have W:0<Lu O:=af
 have lF:(0:Int)<(Lu O:Int):=af
 have bX:i<Lu C:=by rw[s.cl];exact l
 obtain⟨w5,a5,rs,cB,dz⟩:=AI s hC l;simp only[Z3,seval,-ae,e0,l,W,lF,gd l,gd W];by_cases heq:at_ O i=at_ O 0;rotate_left
 .simp only[Z3,seval,-ae,heq];exact I _ (T λh=>heq (h i l).1)
 simp only[Z3,seval,-ae,eq_true heq,e2,bX,cB];refine zF (λm vs h'=>∃k:Nat,k<=Lu O-1-i/\m=Lu O-1-i-k/\vs=[.ptr sp 0,.int .i64 i,.fz U R (Lu O) (cS O),.int .i64 (Lu O),.int .i64 i,.fz w5 a5 (Lu O-1-i) rs,.int .i64 ((Lu O-1-i:Nat):Int),.int .i64 k]/\σ=h'/\∀q,q<k->cenE C i q) (Lu O-1-i) ?_ ?_
 .exact⟨0,af,af,rfl,rfl,λt h=>af⟩
 rintro m vs h' ⟨k,bU,rfl,rfl,rfl,Z⟩
 refine Lk ?_;refine Ll (λeQ=>?_) λG=>?_
 .simp only[Z3,seval,-ae,WX l];refine⟨_,af,i+1,af,rfl,rfl,λt h=>?_⟩;by_cases e:t=i
  .subst e;exact⟨heq,λq hq=>Z q af⟩
  .exact X t af
 obtain⟨w6,a6,cE⟩:=dz k G;have E:i+(1+k)<Lu O:=af
 have bB:=s.cj i (i+(1+k)) af E;have V:i+(1+k)<(du C i (i+(1+k))).length:=by rw[bB.len];exact E
 have Y:Lp .i64 ((i:Int)+1)=((i+1:Nat):Int):=gX l af;have e3:Lp .i64 (((i+1:Nat):Int)+(k:Int))=((i+(1+k):Nat):Int):=WQ
 have iP:((i+(1+k):Nat):Int)<=(Lu O:Int):=af
 have NY:(0:Int)<=((i+(1+k):Nat):Int):=af
 by_cases H:at_ (du C i (i+(1+k))) (i+(1+k))=1;rotate_left
 .simp only[Z3,seval,-ae,G,cE,Y,e3,E,gd V,H];exact I _ (T λh=>H ((h i l).2 k E).1)
 simp only[Z3,seval,-ae,G,cE,Y,e3,E,gd V,H,iP,zB8,Ed];refine QJ (by rw[Yh,Hl af]) (by rw[Yh];omega) ?_;by_cases J:mw ((du C i (i+(1+k))).take (i+(1+k)))
 .simp only[Z3,seval,-ae,J,WX G];refine⟨_,af,k+1,af,rfl,rfl,λq h=>?_⟩;by_cases e:q=k
  .subst e;exact⟨H,J⟩
  .exact Z q af
 .simp only[Z3,seval,-ae,J];exact I _ (T λh=>J ((h i l).2 k E).2)
def zIk(hR:dU vO vP vC O P C)(sz:SzP O P C)(hk:∀t:Bool,(t=DF↔(qG O P C/\Cons O P C)/\vF O C)->K (.bool t) σ):zA Li 168 [.agg [vO,vP,vC]] σ K:=by
 have I:=@Lm
 have aJ:=hR;obtain⟨⟨X,R,rfl⟩,⟨w1,T,rP,rfl,hP⟩,⟨Y,U,rC,rfl,hC⟩⟩:=hR;refine zA.gh ?_;have fin:∀{t:Bool} {σ':cg},(t=DF↔(qG O P C/\Cons O P C)/\vF O C)->cT σ σ'->Gh σ K (.bool t) σ':=λh k=>Gh.fin0 k trivial (hk _ h);have G:=zC σ [.fz X R (Lu O) (cS O),.fz w1 T (Lu P) rP,.fz Y U (Lu C) rC];refine Lg Tryz.func168 ?_;refine Lk ?_;refine zFd aJ sz λt V=>?_;cases t with
 |false=>
  refine Lk ?_;exact fin (I λh=>by cases V.2 h.1) G
 |true=>
 have hp:=V.1 rfl;have s:=hp.1.shp;have aX:=s.le;refine Lk ?_;refine zF (λm vs h'=>∃i:Nat,i<=Lu O/\m=Lu O-i/\vs=[.ptr σ.aM 0,.int .i64 i]/\h'=σ.bf [.fz X R (Lu O) (cS O),.fz w1 T (Lu P) rP,.fz Y U (Lu C) rC]/\∀t,t<i->at_ O t=at_ O 0/\∀q,t+(1+q)<Lu O->cenE C t q) (Lu O) ?_ ?_
 .exact⟨0,af,af,rfl,rfl,λt h=>af⟩
 rintro m vs h' ⟨i,hi,rfl,rfl,rfl,ai⟩
 refine Lk ?_;refine Ll (λaG=>?_) λl=>?_
 .exact fin ⟨λ_=>⟨hp,λt V=>ai t af⟩,λ_=>rfl⟩ G
 have Bg:0<Lu O:=af
 have lF:(0:Int)<(Lu O:Int):=af
 have bX:i<Lu C:=by rw[s.cl];exact l
 obtain⟨w5,a5,rs,cB,dz⟩:=AI s hC l;simp only[Z3,seval,-ae,l,Bg,lF,gd l,gd Bg];by_cases heq:at_ O i=at_ O 0;rotate_left
 .simp only[Z3,seval,-ae,heq];exact fin (I λh=>heq (h.2 i l).1) G
 have bG:Lp .i64 ((i:Int)+1)=((i+1:Nat):Int):=gX l af;simp only[Z3,seval,-ae,eq_true heq,bG];refine zF (λm vs h'=>∃k:Nat,i+(1+k)<=Lu O/\m=Lu O-(i+(1+k))/\vs=[.ptr σ.aM 0,.int .i64 i,.int .i64 ((i+(1+k):Nat):Int)]/\h'=σ.bf [.fz X R (Lu O) (cS O),.fz w1 T (Lu P) rP,.fz Y U (Lu C) rC]/\∀q,q<k->cenE C i q) (Lu O-(i+1)) ?_ ?_
 .exact⟨0,af,af,rfl,rfl,λt h=>af⟩
 rintro m vs h' ⟨k,bU,rfl,rfl,rfl,bc⟩
 refine Lk ?_;refine Ll (λeQ=>?_) λaD=>?_
 .simp only[Z3,seval,-ae,bG];refine⟨_,af,i+1,af,rfl,rfl,λt h=>?_⟩;by_cases e:t=i
  .subst e;exact⟨heq,λq hq=>bc q af⟩
  .exact ai t af
 have E:i+(1+k)<Lu O:=aD;have W:k<Lu O-1-i:=af
 obtain⟨w6,a6,cE⟩:=dz k W;have bB:=s.cj i (i+(1+k)) af E;have Z:i+(1+k)<(du C i (i+(1+k))).length:=by rw[bB.len];exact E
 have e3:Lp .i64 (((i+(1+k):Nat):Int)-(i:Int))=((1+k:Nat):Int):=WQ
 have e4:Lp .i64 (((1+k:Nat):Int)-1)=(k:Int):=WQ
 have e5:Lp .i64 (((i+(1+k):Nat):Int)+1)=((i+(1+(k+1)):Nat):Int):=WQ
 have iP:((i+(1+k):Nat):Int)<=(Lu O:Int):=af
 by_cases H:at_ (du C i (i+(1+k))) (i+(1+k))=1;rotate_left
 .simp only[Z3,seval,-ae,bX,cB,W,cE,e3,e4,E,gd Z,H];exact fin (I λh=>H ((h.2 i l).2 k E).1) G
 simp only[Z3,seval,-ae,bX,cB,W,cE,e3,e4,E,gd Z,H,iP,zB8,Ed];refine Zb (by rw[Yh,Hl af]) (by rw[Yh];omega) ?_;by_cases J:mw ((du C i (i+(1+k))).take (i+(1+k)))
 .simp only[Z3,seval,-ae,J,e5];refine⟨_,af,k+1,af,rfl,rfl,λq h=>?_⟩;by_cases e:q=k
  .subst e;exact⟨H,J⟩
  .exact bc q af
 .simp only[Z3,seval,-ae,J];exact fin (I λh=>J ((h.2 i l).2 k E).2) G
end Go.Proofs
namespace Go.Grp
open Go.Ab Go.Lie
variable{d i k t:Nat}{O a c x y z:V1}{L P u v:V2}{C:V3}
section
variable{α:Type}{S:α->Prop}{m:α->α->α}{e:α}{a b c x y z g:α}
noncomputable def la[Inhabited α](S:α->Prop)(m:α->α->α)(e a:α):α:=Classical.epsilon λb=>S b/\m a b=e
section
variable[Inhabited α]
def Gp.inv_in(G:Gp S m e)(E:S a):S (la S m e a)/\m a (la S m e a)=e:=by
 obtain⟨b,h,l,H⟩:=G.inv E;exact Uu (p:=λb=>S b/\m a b=e) ⟨b,h,l⟩
def Gp.inv_eq(G:Gp S m e)(l:S a)(E:S b)(h:m a b=e):b=la S m e a:=G.cancel l E (G.inv_in l).1 (h.trans (G.inv_in l).2.symm)
def Gp.inv_l(G:Gp S m e)(h:S a):m (la S m e a) a=e:=by
 obtain⟨b,l,E,H⟩:=G.inv h;rw[<-G.inv_eq h l E];exact H
def Gp.inv_r(G:Gp S m e)(h:S a):m a (la S m e a)=e:=(G.inv_in h).2
noncomputable def iN(S:α->Prop)(m:α->α->α)(e x y:α):α:=m (la S m e x) (m (la S m e y) (m x y))
noncomputable def cnj(S:α->Prop)(m:α->α->α)(e x g:α):α:=m (la S m e g) (m x g)
def Gp.com_in(G:Gp S m e)(h:S x)(l:S y):S (iN S m e x y):=G.cl (G.inv_in h).1 (G.cl (G.inv_in l).1 (G.cl h l))
def Gp.cnj_in(G:Gp S m e)(l:S x)(h:S g):S (cnj S m e x g):=G.cl (G.inv_in h).1 (G.cl l h)
def Gp.com_spec(G:Gp S m e)(h:S x)(l:S y):m (m y x) (iN S m e x y)=m x y:=by
 have I:=(G.inv_in h).1;have H:=(G.inv_in l).1;have E:=G.cl h l;unfold iN;rw[G.as l h (G.cl I (G.cl H E)),<-G.as h I (G.cl H E),G.inv_r h,G.l1 (G.cl H E),<-G.as l H E,G.inv_r l,G.l1 E]
def Gp.com_eq(G:Gp S m e)(l:S x)(E:S y)(H:S z)(h:m (m y x) z=m x y):z=iN S m e x y:=
 G.cancel (G.cl E l) H (G.com_in l E) (h.trans (G.com_spec l E).symm)
def Gp.cnj_spec(G:Gp S m e)(l:S x)(h:S g):m g (cnj S m e x g)=m x g:=by
 unfold cnj;rw[<-G.as h (G.inv_in h).1 (G.cl l h),G.inv_r h,G.l1 (G.cl l h)]
def Gp.cnj_eq(G:Gp S m e)(E:S x)(l:S g)(H:S z)(h:m g z=m x g):z=cnj S m e x g:=
 G.cancel l H (G.cnj_in E l) (h.trans (G.cnj_spec E l).symm)
structure uc(S:α->Prop)(m:α->α->α)(e:α)(N:α->Prop):Prop where
 inS:∀{x},N x->S x
 one:N e
 cl:∀{x y},N x->N y->N (m x y)
 inv:∀{x},N x->N (la S m e x)
 nor:∀{x g},N x->S g->N (cnj S m e x g)
def NC(S:α->Prop)(m:α->α->α)(e:α)(L:α->Prop)(x:α):Prop:=∀N,uc S m e N->(∀l,L l->N l)->N x
def Gp.whole(G:Gp S m e):uc S m e S:=⟨id,G.one,λa b=>G.cl a b,λa=>(G.inv_in a).1,λa b=>G.cnj_in a b⟩
def NC.sub(G:Gp S m e){L:α->Prop}(R:∀l,L l->S l):uc S m e (NC S m e L):=
 ⟨λh=>h S G.whole R,λN E _=>E.one,λI J N E H=>E.cl (I N E H) (J N E H),λh N E H=>E.inv (h N E H),λh T N E H=>E.nor (h N E H) T⟩
def NC.mem{L:α->Prop}(h:L x):NC S m e L x:=λN _ l=>l x h
def NC.le{L:α->Prop}{N:α->Prop}(E:uc S m e N)(h:∀l,L l->N l){x:α}(G:NC S m e L x):N x:=G N E h
def Cen(S:α->Prop)(m:α->α->α)(e:α)(N:α->Prop)(x:α):Prop:=S x/\∀y,S y->N (iN S m e x y)
def Gp.com_mul(G:Gp S m e)(E:S x)(h:S z)(l:S y):iN S m e (m x z) y=m (cnj S m e (iN S m e x y) z) (iN S m e z y):=by
 have I:=G.com_in E l;have H:=G.com_in h l;have J:=G.cnj_in I h;refine(G.com_eq (G.cl E h) l (G.cl J H) ?_).symm;have T:=G.cl E h;have R:=G.cl l E
 -- y x z (I^z) H = y x I z H = x y z H = x z y
 rw[<-G.as l E h,G.as R h (G.cl J H),<-G.as h J H,G.cnj_spec I h,<-G.as R (G.cl I h) H,<-G.as R I h,G.com_spec E l,G.as E l h,G.as E (G.cl l h) H,G.com_spec h l,<-G.as E h l]
def Gp.com_mul2(G:Gp S m e)(h:S x)(E:S y)(l:S z):iN S m e x (m y z)=m (iN S m e x z) (cnj S m e (iN S m e x y) z):=by
 have H:=G.com_in h E;have I:=G.com_in h l;have J:=G.cnj_in H l;refine(G.com_eq h (G.cl E l) (G.cl I J) ?_).symm
 -- y z x I H^z = y x z H^z = y x H z = x y z
 rw[G.as E l h,G.as E (G.cl l h) (G.cl I J),<-G.as (G.cl l h) I J,G.com_spec h l,G.as h l J,G.cnj_spec H l,<-G.as E h (G.cl H l),<-G.as (G.cl E h) H l,G.com_spec h E,G.as h E l]
def Gp.com_one(G:Gp S m e)(h:S y):iN S m e e y=e:=(G.com_eq G.one h G.one (by rw[G.r1 h,G.r1 h,G.l1 h])).symm
def Gp.com_one2(G:Gp S m e)(h:S x):iN S m e x e=e:=(G.com_eq h G.one G.one (by rw[G.l1 h,G.r1 h])).symm
def Gp.cnj_one(G:Gp S m e)(h:S g):cnj S m e e g=e:=(G.cnj_eq G.one h G.one (by rw[G.r1 h,G.l1 h])).symm
def Gp.cnj_com(G:Gp S m e)(h:S x)(l:S y):m x (iN S m e x y)=cnj S m e x y:=by
 have E:=G.com_in h l;exact G.cnj_eq h l (G.cl h E) (by rw[<-G.as l h E];exact G.com_spec h l)
def Gp.cen(G:Gp S m e){N:α->Prop}(E:uc S m e N)(T:∀{x},N x->∀{y},S y->N (iN S m e x y)):uc S m e (Cen S m e N):=by
 refine⟨λh=>h.1,⟨G.one,λy l=>by rw[G.com_one l];exact E.one⟩,λH J=>⟨G.cl H.1 J.1,λy l=>?_⟩,λh=>⟨(G.inv_in h.1).1,λy l=>?_⟩,λ{x g} h I=>?_⟩
 .rw[G.com_mul H.1 J.1 l];exact E.cl (E.nor (H.2 y l) J.1) (J.2 y l)
 .rename_i x;have R:=(G.inv_in h.1).1
  -- e = [x x^-1, y] = [x, y]^(x^-1) [x^-1, y]
  have H:=G.com_mul h.1 R l;rw[G.inv_r h.1,G.com_one l]at H;have c:=E.nor (h.2 y l) R
  have:=G.inv_eq (E.inS c) (G.com_in R l) H.symm
  rw[this];exact E.inv c
 ·-- x^g = x [x, g]
  rw[<-G.cnj_com h.1 I];refine⟨G.cl h.1 (E.inS (h.2 g I)),λy l=>?_⟩;rw[G.com_mul h.1 (E.inS (h.2 g I)) l];exact E.cl (E.nor (h.2 y l) (E.inS (h.2 g I))) (T (h.2 g I) l)
def uc.com_in(G:Gp S m e){N:α->Prop}(l:uc S m e N)(H:N x)(E:S y):N (iN S m e x y):=by
 have h:=l.inS H;have I:=G.cnj_com h E;have J:=(G.inv_in h).1
 have:iN S m e x y=m (la S m e x) (cnj S m e x y):=by
  rw[<-I,<-G.as J h (G.com_in h E),G.inv_l h,G.l1 (G.com_in h E)]
 rw[this];exact l.cl (l.inv H) (l.nor H E)
def Gp.cen'(G:Gp S m e){N:α->Prop}(l:uc S m e N):uc S m e (Cen S m e N):=G.cen l λh _ E=>l.com_in G h E
end
end
section
variable{A B:V1->Prop}
abbrev gS(O:V1):V1->Prop:=TT O 0
abbrev gm(O:V1)(P:V2)(C:V3):V1->V1->V1:=mu O P C (Lu O)
def Full.g(F:Full O P C (Lu O)):Gp (gS O) (gm O P C) (zv O):=by
 have:=F.gp
 rwa[Yk]at this
noncomputable abbrev dM (O:V1) (P:V2) (C:V3) (x y:V1):V1:=iN (gS O) (gm O P C) (zv O) x y
abbrev gN(O:V1)(P:V2)(C:V3)(N:V1->Prop):Prop:=uc (gS O) (gm O P C) (zv O) N
abbrev BP(O:V1)(P:V2)(C:V3)(A:V1->Prop):V1->Prop:=NC (gS O) (gm O P C) (zv O) A
def Full.nfx(F:Full O P C (Lu O))(h:gS O x):ph (gm O P C) (zv O) (unit O) (nx x) 0 (Lu O)=x:=by
 have:=F.nf (x:=x) (by rw[Yk];exact h)
 unfold Ph at this;rwa[Yk]at this
def zE8(s:jl O P C)(F:Full O P C (Lu O)){N:V1->Prop}(l:gN O P C N)(J:gS O x)(h:∀i,i<Lu O->N (dM O P C x (unit O i)))(T:gS O y):N (dM O P C x y):=by
 have G:=F.g
 have:=G.toMon.ph_ind (Q:=λy=>N (dM O P C x y)) (h:=unit O) (x:=nx y) (d:=(Lu O)) (t:=0) (by rw[dM,G.com_one2 J];exact l.one)
  (λa b R I E H=>by rw[dM,G.com_mul2 J R I];exact l.cl H (l.nor E I)) λj E H=>⟨s.unit af (YV _),h j af⟩
 rwa[F.nfx T]at this
def cs(O:V1)(P:V2)(C:V3)(A:V1->Prop)(c:V1):Prop:=∃x i,A x/\i<Lu O/\c=dM O P C x (unit O i)
def cs_in(s:jl O P C)(F:Full O P C (Lu O))(h:∀x,A x->gS O x):∀c,cs O P C A c->gS O c:=by
 rintro c ⟨x,i,E,l,rfl⟩
 exact F.g.com_in (h x E) (s.unit l (YV _))
def cs_le(s:jl O P C)(F:Full O P C (Lu O))(h:∀x,A x->gS O x)(R:∀x,B x->BP O P C A x):∀c,BP O P C (cs O P C B) c->BP O P C (cs O P C A) c:=by
 have G:=F.g;have E:gN O P C (BP O P C (cs O P C A)):=NC.sub G (cs_in s F h);intro c T;refine NC.le E ?_ T
 rintro _ ⟨x,i,U,H,rfl⟩
 have J:=G.cen' E
 have:Cen (gS O) (gm O P C) (zv O) (BP O P C (cs O P C A)) x:=NC.le J (λl I=>⟨h l I,λy V=>zE8 s F E (h l I) (λi H=>NC.mem ⟨l,i,I,H,rfl⟩) V⟩) (R x U)
 exact this.2 _ (s.unit H (YV _))
def cs_eq(s:jl O P C)(F:Full O P C (Lu O))(E:∀x,A x->gS O x)(G:∀x,B x->gS O x)(h:∀x,BP O P C A x↔BP O P C B x)(c:V1):BP O P C (cs O P C A) c↔BP O P C (cs O P C B) c:=
 ⟨cs_le s F G (λx l=>(h x).1 (NC.mem l)) c,cs_le s F E (λx l=>(h x).2 (NC.mem l)) c⟩
end
section
variable{b:V1}
def sc(O:V1)(C:V3):Prop:=∀i j,i<j->j<Lu O->TT O j (du C i j)/\at_ (du C i j) j=1
def ku(o a b:Int):Int:=if a+b ≥ o then a+b-o else a+b
def zPr(o a b:Int):ku o a b=ku o b a:=by unfold ku;rw[Int.add_comm]
def zRN{o a b:Int}(l:0<=a/\a<o)(E:0<=b/\b<o)(h:ku o a b=a):b=0:=by
 unfold ku at h;split at h<;>omega
def Upto(O:V1)(t:Nat)(x y:V1):Prop:=∀j,j<t->at_ x j=at_ y j
def zR5(s:jl O P C)(hd:d+1<=Lu O)(E:i=Lu O-(d+1))(h:at_ b i=0)(l:TT O i a)(H:TT O i b):mu O P C (d+1) a b=(mu O P C d (a.set i 0) (b.set i 0)).set i (at_ a i):=by
 have G:=l.bd i af;subst E;simp only[mu];rw[h,DL af,show nx b (Lu O-(d+1))=0 by show(at_ b _).toNat=0;rw[h];rfl,UO];rfl
def QO(s:jl O P C):∀{d:Nat} {b:V1},d<=Lu O->(Lu O)-d<=t->t<Lu O->TT O (Lu O-d) b->TT O t a->Upto O t (mu O P C d b a) b/\at_ (mu O P C d b a) t=ku (at_ O t) (at_ b t) (at_ a t)
 |0,b,hd,H,E,hb,ha=>by omega
 |d+1,b,hd,H,E,hb,ha=>by
  have l:(Lu O)-(d+1)<Lu O:=af
  have e:(Lu O)-d=Lu O-(d+1)+1:=af
  have J:=s.pos l;have R:(Lu O)-(d+1)<Lu b:=by rw[hb.len];exact l
  have G:=hb.set0 l J;rw[<-e]at G;by_cases W:(Lu O)-(d+1)=t
  .have hr:=pb s hd hb (ha.mono af:TT O (Lu O-(d+1)) a);refine⟨λj U=>by rw[hr.zero j af,hb.zero j af],?_⟩;have I:∀a b,TT O (Lu O-d) a->TT O (Lu O-d) b->TT O (Lu O-d) (mu O P C d a b):=λa b H E=>pb s af H E;have has:=(ha.mono af:TT O (Lu O-(d+1)) a).set0 l J;rw[<-e]at has;have V:=I _ _ (zBt (λx _=>by rw[e];exact zAF s (by rw[<-e];exact I) x) (nx a (Lu O-(d+1))) G) has;have hw:TT O (Lu O-d) (eM P (Lu O-(d+1))):=by rw[e];exact s.pw _ l
   have Z:=I _ _ hw V;rw[<-W];simp only[mu,ku];split
   .rw[eJ (by rw[Z.len];exact l),DK rfl]
   .rw[eJ (by rw[V.len];exact l),DK rfl]
  .have u7:at_ a (Lu O-(d+1))=0:=ha.zero _ af;rw[zR5 s hd rfl u7 hb (ha.mono af),qR u7 (by rw[ha.len];exact l)];obtain⟨X,Y⟩:=QO s (d:=d) af af E G ha;have T:=(pb s (af:d<=Lu O) G (ha.mono af:TT O (Lu O-d) a)).len;refine⟨λj U=>?_,?_⟩
   .rw[eJ (by rw[T];exact l)];split
    .rename_i h;rw[h]
    .rename_i h;rw[X j U,eJ R,DL h]
   .rw[eJ (by rw[T];exact l),DL af,Y,eJ R,DL af]
def zQz(s:jl O P C)(hC:sc O C)(G:(Lu O)-d=i+1)(hd:d<=Lu O)(bw:i<t)(I:t<Lu O)(Y:TT O t x):TT O t (Grp.lD O C (mu O P C d) i x)/\at_ (Grp.lD O C (mu O P C d) i x) t=at_ x t:=by
 have bx:=Y.bd t I;have X:∀a b,TT O (i+1) a->TT O (i+1) b->TT O (i+1) (mu O P C d a b):=λa b T U=>by
  have:=pb s hd (a:=a) (b:=b) (by rw[G];exact T) (by rw[G];exact U)
  rwa[G]at this
 have sk:Grp.lD O C (mu O P C d) i x=fo (mu O P C d) (du C i) (nx x) t (Lu O-t) (zv O):=by
  unfold lD;have h:=Nat.add_sub_of_le (show i+1<=t by omega)
  have:∀(k u:Nat) (a:V1),u+k=t->(fo (mu O P C d) (du C i) (nx x) u (k+(Lu O-t)) a=fo (mu O P C d) (du C i) (nx x) t (Lu O-t) a):=by
   intro k
   induction k with
   |zero=>intro u a h;rw[Y5,show u=t by omega]
   |succ k ih=>
    intro u a h;rw[show k+1+(Lu O-t)=(k+(Lu O-t))+1 by omega,fo,show nx x u=0 by show(at_ x u).toNat=0;rw[Y.zero u af];rfl];exact ih (u+1) a af
  have:=this (t-(i+1)) (i+1) (zv O) af
  rwa[show t-(i+1)+(Lu O-t)=Lu O-1-i by omega]at this
 rw[sk,show (Lu O)-t=(Lu O-(t+1))+1 by omega,fo];obtain⟨J,c2⟩:=hC i t bw I;have st:∀k:Nat,(k:Int)<=at_ x t->∀{a:V1} {q:Int},TT O t a->at_ a t=q->0<=q->q+k<=at_ x t->TT O t (C8 (mu O P C d) (du C i t) k a)/\at_ (C8 (mu O P C d) (du C i t) k a) t=q+k:=by
  intro k
  induction k with
  |zero=>intro _ a q l H _ _;exact⟨l,by rw[C8,H];omega⟩
  |succ k ih=>
   intro W a q l H iA LK;obtain⟨r1,r2⟩:=QO s (d:=d) (t:=t) (a:=du C i t) (b:=a) hd af I (l.mono af) J;have Z:TT O t (mu O P C d a (du C i t)):=by
    have E:=X a (du C i t) (l.mono af) (J.mono af);exact⟨E.len,E.bd,λj V=>by rw[r1 j V];exact l.zero j V⟩
   rw[c2,H,ku,DL af]at r2
   have:=ih af Z r2 af af
   rw[C8];exact⟨this.1,by rw[this.2];omega⟩
 have cb:((nx x t:Nat):Int)=at_ x t:=YD bx.1;obtain⟨q1,q2⟩:=st (nx x t) af (a:=zv O) (q:=0) (s.zv _) (zb _ t) (UA _) af
 -- oT later C4 leave it
 have KX:=fo_in (S:=λa=>TT O t a/\at_ a t=at_ x t) (m:=mu O P C d) (h:=du C i) (x:=nx x) (d:=(Lu O)-(t+1)) (t:=t+1) (a:=C8 (mu O P C d) (du C i t) (nx x t) (zv O)) ?_ ⟨q1,by rw[q2];omega⟩
 .exact KX
 .rintro j T U a ⟨l,eZ⟩
  obtain⟨R,d2⟩:=hC i j af af;obtain⟨r1,r2⟩:=QO s (d:=d) (t:=j) (a:=du C i j) (b:=a) hd af af (l.mono af) R;have E:=X a (du C i j) (l.mono af) (R.mono af);exact⟨⟨E.len,E.bd,λk W=>by rw[r1 k af];exact l.zero k W⟩,by rw[r1 t af];exact eZ⟩
end
section
variable{b g:V1}
def zE5(s:jl O P C)(hC:sc O C):∀{d:Nat} {a b:V1},d<=Lu O->(Lu O)-d<=t->t<Lu O->TT O t a->TT O (Lu O-d) b->Upto O t (mu O P C d a b) b/\at_ (mu O P C d a b) t=ku (at_ O t) (at_ a t) (at_ b t)
 |0,a,b,hd,G,E,ha,hb=>by omega
 |d+1,a,b,hd,G,E,ha,hb=>by
  have l:(Lu O)-(d+1)<Lu O:=af
  have e:(Lu O)-d=Lu O-(d+1)+1:=af
  have J:=s.pos l;have R:(Lu O)-(d+1)<Lu b:=by rw[hb.len];exact l
  have I:=hb.set0 l J;rw[<-e]at I;have X:TT O (Lu O-(d+1)) a:=ha.mono af;have has:=X.set0 l J;rw[<-e]at has;have H:∀a b,TT O (Lu O-d) a->TT O (Lu O-d) b->TT O (Lu O-d) (mu O P C d a b):=λa b G E=>pb s af G E;by_cases ht:(Lu O)-(d+1)=t
  .have hr:=pb s hd X hb;refine⟨λj U=>by rw[hr.zero j af,hb.zero j af],?_⟩;have V:=H _ _ (zBt (λx _=>by rw[e];exact zAF s (by rw[<-e];exact H) x) (nx b (Lu O-(d+1))) has) I;have hw:TT O (Lu O-d) (eM P (Lu O-(d+1))):=by rw[e];exact s.pw _ l
   have rU:=H _ _ hw V;rw[<-ht];simp only[mu,ku];split
   .rw[eJ (by rw[rU.len];exact l),DK rfl]
   .rw[eJ (by rw[V.len];exact l),DK rfl]
  .have u7:at_ a (Lu O-(d+1))=0:=ha.zero _ af;have Y:a.set (Lu O-(d+1)) 0=a:=qR u7 (by rw[ha.len];exact l);have bb:=hb.bd _ l
   -- Eo of a
   have it:∀(k:Nat) {u:V1},TT O t u->at_ u t=at_ a t->TT O t (iter (Grp.lD O C (mu O P C d) (Lu O-(d+1))) k u)/\at_ (iter (Grp.lD O C (mu O P C d) (Lu O-(d+1))) k u) t=at_ a t:=by
    intro k
    induction k with
    |zero=>intro u G E;exact⟨G,E⟩
    |succ k ih=>
     intro u Z h4;obtain⟨k1,k2⟩:=zQz (P:=P) (t:=t) (d:=d) s hC (i:=(Lu O)-(d+1)) e af af E Z;exact ih k1 (by rw[k2];exact h4)
   obtain⟨W,l2⟩:=it (nx b (Lu O-(d+1))) ha rfl;obtain⟨i1,i2⟩:=zE5 s hC (d:=d) af af E W I;have T:=(H _ _ (W.mono af) I).len;simp only[mu];rw[u7,DL af,Y,Ua];refine⟨λj U=>?_,?_⟩
   .show at_ ((mu O P C d _ _).set _ _) j=_;rw[eJ (by rw[T];exact l)];split
    .rename_i h;rw[h]
    .rename_i h;rw[i1 j U,eJ R,DL h]
   .show at_ ((mu O P C d _ _).set _ _) t=_;rw[eJ (by rw[T];exact l),DL af,i2,l2,eJ R,DL af]
section
variable(s:jl O P C)(F:Full O P C (Lu O))(hC:sc O C)
include s F hC
theorem behind(G:gS O z)(l:gS O c)(h:Upto O t (gm O P C z c) z)(R:t<=Lu O):TT O t c:=by
 have:∀k,k<=t->TT O k c:=by
  intro k
  induction k with
  |zero=>intro _;exact l
  |succ k ih=>
   intro J;have E:=ih af;obtain⟨r1,r2⟩:=QO s (d:=(Lu O)) (t:=k) (a:=c) (b:=z) (na _) af af (by rw[Yk];exact G) E;have e:=h k af;show TT O (k+1) c;have H:ku (at_ O k) (at_ z k) (at_ c k)=at_ z k:=by rw[<-r2];exact e
   have:=zRN (G.bd k af) (l.bd k af) H
   refine⟨l.len,l.bd,λj I=>?_⟩;by_cases g:j=k
   .subst g;exact this
   .exact E.zero j af
 exact this t (na _)
theorem tt_cl(T:t<=Lu O)(l:TT O t x)(E:TT O t y):TT O t (gm O P C x y):=by
 have G:=F.g;have H:=G.cl (l.mono (YV _)) (E.mono (YV _));rcases YG t (Lu O) with h|h
 .obtain⟨r1,_⟩:=QO s (d:=(Lu O)) (t:=t) (a:=y) (b:=x) (na _) af h (by rw[Yk];exact l.mono (YV _)) E;exact⟨H.len,H.bd,λj I=>(r1 j I).trans (l.zero j I)⟩
 .have eF:x=zv O:=l.ext (s.zv _) λj J R=>by omega
  rw[eF,G.l1 (E.mono (YV _))];exact E
theorem zN3(H:t<=Lu O)(l:TT O t x):TT O t (la (gS O) (gm O P C) (zv O) x):=by
 have G:=F.g;have h:gS O x:=l.mono (YV _);obtain⟨I,J⟩:=G.inv_in h;refine behind s F hC h I (λj E=>?_) H;rw[show gm O P C x (la (gS O) (gm O P C) (zv O) x)=zv O from J,l.zero j E];exact zb _ j
theorem Qw(E:t<Lu O)(H:TT O t x)(h:gS O y):TT O (t+1) (dM O P C x y):=by
 have G:=F.g;have l:gS O x:=H.mono (YV _);have T:=G.cl h l;have I:=G.com_in l h;refine behind s F hC T I (λj U=>?_) E;have e:gm O P C (gm O P C y x) (dM O P C x y)=gm O P C x y:=G.com_spec l h;rw[e];obtain⟨r1,r2⟩:=QO s (d:=(Lu O)) (t:=t) (a:=x) (b:=y) (na _) af E (by rw[Yk];exact h) H;obtain⟨J,R⟩:=zE5 s hC (d:=(Lu O)) (t:=t) (a:=x) (b:=y) (na _) af E H (by rw[Yk];exact h);by_cases g:j=t
 .subst g;exact(R.trans (zPr _ _ _)).trans r2.symm
 .exact(J j af).trans (r1 j af).symm
theorem zHZ(I:t<=Lu O)(l:TT O t x)(E:gS O y):Upto O t (gm O P C x y) y:=by
 rcases YG t (Lu O) with h|h
 .exact(zE5 s hC (d:=(Lu O)) (t:=t) (a:=x) (b:=y) (na _) af h l (by rw[Yk];exact E)).1
 .have eF:x=zv O:=l.ext (s.zv _) λj G H=>by omega
  rw[eF,F.g.l1 E];exactλj _=>rfl
theorem zC1(J:t<=Lu O):gN O P C (TT O t):=by
 have G:=F.g;have E:∀{x:V1},TT O t x->gS O x:=λh=>h.mono (YV _);refine⟨E,s.zv _,λ{x y} l R=>?_,λ{x} l=>?_,λ{x g} l I=>?_⟩
 .have h0:=G.cl (E l) (E R);exact⟨h0.len,h0.bd,λj H=>by rw[zHZ s F hC J l (E R) j H];exact R.zero j H⟩
 .obtain⟨T,U⟩:=G.inv_in (E l)
  have:=zHZ s F hC J l T
  rw[show gm O P C x (la (gS O) (gm O P C) (zv O) x)=zv O from U]at this;exact⟨T.len,T.bd,λj H=>by rw[<-this j H];exact zb _ j⟩
 .refine behind s F hC I (G.cnj_in (E l) I) (λj H=>?_) J;have e:gm O P C g (cnj (gS O) (gm O P C) (zv O) x g)=gm O P C x g:=G.cnj_spec (E l) I;rw[e];exact zHZ s F hC J l I j H
theorem filled{N:V1->Prop}(E:gN O P C N)(h:∀x,N x->BP O P C (cs O P C N) x):∀x,N x->x=zv O:=by
 have:∀t,t<=Lu O->∀x,N x->TT O t x:=by
  intro t
  induction t with
  |zero=>intro _ x l;exact E.inS l
  |succ t ih=>
   intro H x l;refine NC.le (zC1 s F hC H) ?_ (h x l)
   rintro _ ⟨y,i,I,G,rfl⟩
   exact Qw s F hC af (ih af y I) (s.unit G (YV _))
 exactλx l=>(this (Lu O) (na _) x l).ext (s.zv _) λj J R=>by omega
end
end
section
variable{g:V1}
abbrev sG(u:V2):V1->Prop:=λx=>x∈u
def okL(O:V1)(u:V2):Prop:=∀x∈u,gS O x/\x≠zv O
def ZP(O:V1):V2:=(DO (Lu O)).map (unit O)
noncomputable def td(O:V1)(P:V2)(C:V3)(L:V2):V2:=
 L.flatMap λx=>((DO (Lu O)).map λi=>dM O P C x (unit O i)).filter λc=>decide (c≠zv O)
def zA1:c∈td O P C L↔cs O P C (sG L) c/\c≠zv O:=by
 simp only[td,UD,F8,YI,UC,decide_eq_true_eq,cs];constructor
 .rintro⟨x,E,⟨i,l,rfl⟩,h⟩;exact⟨⟨x,i,E,l,rfl⟩,h⟩
 .rintro⟨⟨x,i,E,l,rfl⟩,h⟩;exact⟨x,E,⟨i,l,rfl⟩,h⟩
noncomputable def Lc(O:V1)(P:V2)(C:V3):Nat->V2
 |0=>ZP O
 |k+1=>td O P C (Lc O P C k)
structure SStep(O:V1)(P:V2)(C:V3)(u v:V2):Prop where
 ok:okL O v
 nc:∀x,BP O P C (sG v) x↔BP O P C (cs O P C (sG u)) x
structure xR(O:V1)(P:V2)(C:V3)(u L:V2):Prop where
 ou:okL O u
 oL:okL O L
 nc:∀x,BP O P C (sG u) x↔BP O P C (sG L) x
section
variable(s:jl O P C)(F:Full O P C (Lu O))
include s F
theorem zCR:okL O (ZP O):=by
 intro x E;simp only[ZP,YI,UC]at E;obtain⟨i,l,rfl⟩:=E;refine⟨s.unit l (YV _),λh=>?_⟩
 have:=congrArg (λv=>at_ v i) h
 simp only[zb]at this;rw[eJ (by simp;exact l),DK rfl]at this;omega
theorem zFD(h:okL O L):okL O (td O P C L):=λc G=>by
 obtain⟨l,E⟩:=zA1.1 G;exact⟨cs_in s F (λx H=>(h x H).1) c l,E⟩
theorem xR.start:xR O P C (ZP O) (ZP O):=⟨zCR s F,zCR s F,λ_=>Iff.rfl⟩
theorem xR.step(r:xR O P C u L)(h:SStep O P C u v):xR O P C v (td O P C L):=by
 refine⟨h.ok,zFD s F r.oL,λx=>?_⟩;rw[h.nc x,cs_eq s F (λx E=>(r.ou x E).1) (λx E=>(r.oL x E).1) r.nc x];have I:=cs_in s F (A:=sG L) λx E=>(r.oL x E).1;constructor
 .intro E;refine NC.le (NC.sub F.g λl G=>(zFD s F r.oL l G).1) (λl G=>?_) E;by_cases H:l=zv O
  .rw[H];exact(NC.sub F.g λl G=>(zFD s F r.oL l G).1).one
  .exact NC.mem (zA1.2 ⟨G,H⟩)
 .intro E;exact NC.le (NC.sub F.g I) (λl G=>NC.mem (zA1.1 G).1) E
theorem At:gN O P C (λx=>x=zv O):=by
 have G:=F.g;refine⟨λh=>by rw[h];exact G.one,rfl,λl E=>by rw[l,E];exact G.l1 G.one,λh=>?_,λh H=>by rw[h];exact G.cnj_one H⟩;rw[h];exact(G.inv_eq G.one G.one (G.l1 G.one)).symm
theorem okL.nil(h:okL O u)(l:∀x,BP O P C (sG u) x->x=zv O):u=[]:=by
 cases u with
 |nil=>rfl
 |cons x u=>exact absurd (l x (NC.mem aK)) (h x aK).2
theorem xR.nil(r:xR O P C u L):u=[]↔L=[]:=by
 constructor
 .rintro rfl
  exact okL.nil s F r.oL λx E=>NC.le (At s F) (λl h=>by cases h) ((r.nc x).2 E)
 .rintro rfl
  exact okL.nil s F r.ou λx E=>NC.le (At s F) (λl h=>by cases h) ((r.nc x).1 E)
theorem xR.stop(hC:sc O C)(r:xR O P C u L)(h:SStep O P C u u):u=[]:=by
 have I:∀x,sG u x->gS O x:=λx l=>(r.ou x l).1;have G:gN O P C (BP O P C (sG u)):=NC.sub F.g I;refine okL.nil s F r.ou (filled s F hC G λx l=>?_);refine NC.le (NC.sub F.g (cs_in s F λy E=>G.inS E)) ?_ ((h.nc x).1 l)
 rintro _ ⟨y,i,E,H,rfl⟩
 exact NC.mem ⟨y,i,NC.mem E,H,rfl⟩
theorem uB:∀k,okL O (Lc O P C k)
 |0=>zCR s F
 |k+1=>zFD s F (uB k)
theorem zMd(hC:sc O C):∀k,k<=Lu O->∀x∈Lc O P C k,TT O k x
 |0,_,x,hx=>(uB s F 0 x hx).1
 |k+1,hk,x,hx=>by
  obtain⟨⟨y,i,l,h,rfl⟩,_⟩:=zA1.1 hx;exact Qw s F hC hk (zMd hC k af y l) (s.unit h (YV _))
theorem Lc_lt(hC:sc O C)(G:Lc O P C k≠[])(E:k<=Lu O):k<Lu O:=by
 rcases YG k (Lu O) with h|h
 .exact h
 .exfalso;obtain⟨x,l⟩:=List.exists_mem_of_ne_nil _ G;exact(uB s F k x l).2 ((zMd s F hC k E x l).ext (s.zv _) λj H I=>af)
theorem zKi(h:Lc O P C k=[]):∀j,k<=j->Lc O P C j=[]:=by
 intro j l
 induction j with
 |zero=>
   have:k=0:=af
   subst this;exact h
 |succ j ih=>
  by_cases e:k=j+1
  .subst e;exact h
  .show td O P C (Lc O P C j)=[];rw[ih af];rfl
end
end
end Go.Grp
namespace Go.Proofs
open Go.Ab Go.Lie Go.Grp
variable{rC rP:List PV}{d j:Nat}{σ:cg}{vC vL vO vP va vb vx vy:PV}{K:PV->cg->Prop}{O a x y:V1}{L P:V2}{C:V3}
section
variable{b:V1}
def zRb{i:Nat}(h:i<Lu x):(x.set i 0).set i (at_ x i)=x:=zN9 h
def zJ2(s:jl O P C){d i:Nat}(hi:(Lu O)=(d+1)+i)(F:Full O P C d)(F1:Full O P C (d+1)){J T:V1}(V:TT O i x)(h1:TT O (i+1) J)(h2:TT O (i+1) T)(U:mu O P C d (x.set i 0) J=zv O)(e2:mu O P C d (eM P i) T=zv O):
  (at_ x i=0->mu O P C (d+1) x J=zv O)/\(at_ x i≠0->mu O P C (d+1) x (mu O P C (d+1) (mu O P C (d+1) J ((zv O).set i (at_ O i-at_ x i))) T)=zv O):=by
 have E:i<Lu O:=af
 have G:(Lu O)-d=i+1:=af
 have dg:(Lu O)-(d+1)=i:=af
 have aL:=s.pos E;have bx:=V.bd i E;have xl:i<Lu x:=by rw[V.len];exact E
 have M:=F.gp.toMon;have l:=F1.gp;rw[dg]at l;have H:TT O (Lu O-d) (x.set i 0):=by rw[G];exact V.set0 E aL
 have sS:TT O (Lu O-d) J:=by rw[G];exact h1
 have ie:TT O (Lu O-d) T:=by rw[G];exact h2
 have R:TT O (Lu O-d) (zv O):=s.zv _;have hw:TT O (Lu O-d) (eM P i):=by rw[G];exact s.pw i E
 have sub:∀{u v:V1},TT O (Lu O-d) u->TT O (Lu O-d) v->mu O P C (d+1) u v=mu O P C d u v:=λhu hv=>zHo s af hu hv;constructor
 .intro h0;rw[qR h0 xl]at U H;rw[sub H sS];exact U
 .intro h0;have z0:(zv O).set i 0=zv O:=qR (zb _ i) (by simp;exact E);have ia:∀k,iter (al O P C d i) k (zv O)=zv O:=λk=>zEV (al_zv s F.toBeh G) k;have hg:TT O i ((zv O).set i (at_ x i)):=(s.zv i).set E (na _) bx;have I:TT O i ((zv O).set i (at_ O i-at_ x i)):=(s.zv i).set E (na _) ⟨af,af⟩;have bp:i<(x.set i 0).length:=by rw[YA];exact xl
  have r0:(x.set i 0).set i 0=x.set i 0:=by rw[List.set_set]
  have up:∀{u:V1},TT O (Lu O-d) u->TT O i u:=λh=>h.mono af;have ex:mu O P C (d+1) ((zv O).set i (at_ x i)) (x.set i 0)=x:=by
   have:=zE4 s F.toBeh G (a:=at_ x i) (b:=0) R H
   rw[r0,DL af,ia,M.l1 H,UO,zRb xl]at this;exact this
  have et:mu O P C (d+1) ((zv O).set i (at_ x i)) ((zv O).set i (at_ O i-at_ x i))=eM P i:=by
   have:=zE4 s F.toBeh G (a:=at_ x i) (b:=at_ O i-at_ x i) R R
   rw[DK af,ia,M.l1 R,M.r1 hw,show at_ x i+(at_ O i-at_ x i)-at_ O i=0 by omega,qR (hw.zero i af) (by rw[hw.len];exact E)]at this;exact this
  have key:∀Y,mu O P C (d+1) x Y=mu O P C (d+1) (mu O P C (d+1) ((zv O).set i (at_ x i)) (x.set i 0)) Y:=λY=>by rw[ex]
  rw[key];have W:=up sS;have X:=up ie;have Z:=up H;rw[l.as hg Z (l.cl (l.cl W I) X),<-l.as Z (l.cl W I) X,<-l.as Z W I,sub H sS,U,l.l1 I,<-l.as hg I X,et,sub hw ie,e2]
end
def zPx(O:V1)(P:V2)(C:V3)(d i:Nat):Prop:=
 ∀(σ:cg) (K:PV->cg->Prop) (x:V1) (vx vO vP vC:PV),dU vO vP vC O P C->TT O i x->FI vx x->(∀v y,FI v y->TT O i y->mu O P C d x y=zv O->K v σ)->zA Li 171 [.agg [vO,vP,vC],.int .i64 i,vx] σ K
def zGy(s:jl O P C)(Z:Cons O P C):∀{d i:Nat},(Lu O)=d+i->zPx O P C d i
 |0,i,hi=>by
  intro σ K x vx vO vP vC hR hx bm hk;have aX:=s.le;obtain⟨⟨w0,a0,rfl⟩,⟨w1,a1,rP,rfl,hP⟩,⟨w3,a3,rC,rfl,hC⟩⟩:=hR;refine zA.gh ?_;have T:(Lu O:Int)<=(i:Int):=af
  refine qH mix Tryz.func171 ?_;simp only[Z3,seval,-ae,T,YL,zh,uK (n:=(Lu O)) af,tn (n:=(Lu O)) af];exact Gh.finF (s:=σ.aM+1) ((zC σ _).bf _) (by simp only[Z3,seval,-ae]) af (zL _ _) (by simp[gk]) λo1=>hk _ (zv O) (FI.mk aK) (s.zv _) rfl
 |d+1,i,hi=>by
  intro σ K x vx vO vP vC hR hx bm hk;have R:zPx O P C d (i+1):=zGy s Z af;have F:Full O P C d:=sY s af λj h1 Y=>Z j Y;have F1:Full O P C (d+1):=sY s af λj h1 Y=>Z j Y;have gH:AtOK O P C (d+1) i:=zCG s af;have aX:=s.le;have l:=hR;have h:i<Lu O:=af
  have hO:=s.pr i h;have aL:=s.pos h;have bj:=hx.len;have bx:=hx.bd i h;have dg:(Lu O)-(d+1)=i:=af
  have J:=F1.gp;rw[dg]at J;obtain⟨⟨w0,a0,rfl⟩,⟨w1,a1,rP,rfl,hP⟩,⟨w3,a3,rC,rfl,hC⟩⟩:=hR;obtain⟨w5,a5,U⟩:=CU s hP h;have V:i<Lu P:=by rw[s.pl];exact h
  have W:=s.pw i h;obtain⟨wx,ax,rfl⟩:=bm;have E:i<Lu x:=af
  have T:¬(Lu O:Int)<=(i:Int):=af
  have sx:=hx.set0 h aL;have G:Lp .i64 ((i:Int)+1)=((i+1:Nat):Int):=gX h af;have Au:i+1<=Lu x:=E;refine zA.gh ?_;refine qH mix Tryz.func171 ?_;simp only[Z3,seval,-ae,T];refine qw rfl af λbD fT=>?_;simp only[Z3,seval,-ae,E,Au,zJ,zX E,G];refine zA.frz (s:=σ.aM+1) (cs:=cS (x.set i 0)) (by simp only[Z3,seval,-ae]) (zL _ _) λo1=>?_;have uY:=fT.ok;simp only[kq,sb,uY,and_self,if_true,l.O.sb,l.P.sb,l.C.sb];refine R _ _ (x.set i 0) _ _ _ _ l sx (FI.mk aK) λv1 y1 H I e1=>?_;have ar:cT σ (((σ.bf [.fz w0 a0 (Lu O) (cS O),.fz w1 a1 (Lu P) rP,.fz w3 a3 (Lu C) rC]).bf (cS (x.set i 0))).kill (σ.aM+1)):=((zC σ _).bf _).kill af;simp only[Z3,seval,-ae,E,gd E];refine de (λX=>?_) λX=>?_
  .have hr:=R
   -- oT Co of oT x6 is not asked for; any JL do
   obtain⟨y2,IY,NX,_⟩:=F.gp.inv (a:=eM P i) (by rw[show (Lu O)-d=i+1 by omega];exact W);rw[show (Lu O)-d=i+1 by omega]at IY
   have:=(zJ2 s af F F1 hx I IY e1 NX).1 X
   exact Gh.fin0 ar (H.bel _) (hk v1 y1 H (I.mono af) this)
  have lh:i<(zv O).length:=by simp;exact h
  have E8:i+1<=Lu O:=h;have cG:Lp .i64 (at_ O i-at_ x i)=at_ O i-at_ x i:=WE;have di:=zX lh (x:=at_ O i-at_ x i);have ht:TT O i ((zv O).set i (at_ O i-at_ x i)):=(s.zv i).set h (na _) ⟨af,af⟩;simp only[Z3,seval,-ae,YL,zh,uK (n:=(Lu O)) af,tn (n:=(Lu O)) af,E,gd E,h,E8,gd h,cG,zJ,di,G,V,U];refine zA.frz (s:=σ.aM+2) (cs:=cS ((zv O).set i (at_ O i-at_ x i))) (by simp only[Z3,seval,-ae]) (zL _ _) λo2=>?_;simp only[kq,sb,gk,na,decide_true,and_self,if_true,l.O.sb,l.P.sb,l.C.sb,H.sb];have yu:TT O i y1:=I.mono af;refine gH l yu ht H (FI.mk aK) λv3 pn=>?_;simp only[Z3,seval,-ae,G,V,U];refine R _ _ (eM P i) _ _ _ _ l W (FI.mk W.len) λv2 y2 cA wR e2=>?_;have yr:TT O i y2:=wR.mono af;have sQ:=J.cl yu ht;simp only[Z3,seval,-ae,G,V,U];refine gH l sQ yr pn cA λv4 Ct=>?_;simp only[Z3,seval,-ae]
  have:=(zJ2 s af F F1 hx I wR e1 e2).2 X
  exact Gh.fin0 (((((zC σ _).bf _).kill af).bf _).kill af) (Ct.bel _) (hk v4 _ Ct (J.cl sQ yr) this)
def zAV(s:jl O P C)(E:Cons O P C)(l:dU vO vP vC O P C)(J:gS O x)(R:FI vx x)(H:∀v,FI v (la (gS O) (gm O P C) (zv O) x)->K v σ):zA Li 93 [.agg [vO,vP,vC],vx] σ K:=by
 have T:=l.O.one;have U:=l.P.one;have V:=l.C.one;have G:=(sY s (na _) λj _ h=>E j h).g;refine Lh Tryz.func93 ?_;simp only[Z3,seval,-ae,T,U,V];refine zGy s E (d:=(Lu O)) (i:=0) af _ _ x _ _ _ _ l J R λv y I W e=>?_;simp only[Z3,seval,-ae]
 have:=G.inv_eq J W e
 rw[<-this]at H;exact Gh.fin0 (zC σ _) (I.bel _) (H v I)
section
variable{b:V1}
def zCd(s:jl O P C)(h:dU vO vP vC O P C)(R:gS O a)(T:gS O b)(E:FI va a)(G:FI vb b)(U:∀v,FI v (gm O P C a b)->K v σ):zA Li 170 [.agg [vO,vP,vC],va,vb] σ K:=by
 have H:=h.O.one;have I:=h.P.one;have J:=h.C.one;refine Lh Tryz.func170 ?_;simp only[Z3,seval,-ae,H,I,J];refine zCG s (d:=(Lu O)) (i:=0) af h R T E G λv l=>?_;refine Lk ?_;exact Gh.fin0 (zC σ _) (l.bel _) (U v l)
def QP(s:jl O P C)(Z:Cons O P C)(l:dU vO vP vC O P C)(E:gS O x)(H:gS O y)(X:FI vx x)(Y:FI vy y)(hk:∀v,FI v (dM O P C x y)->K v σ):zA Li 91 [.agg [vO,vP,vC],vx,vy] σ K:=by
 have I:=l.O.one;have J:=l.P.one;have R:=l.C.one;have G:=(sY s (na _) λj _ h=>Z j h).g;have U:=G.cl H E;have T:=G.cl E H;have W:=(G.inv_in U).1;refine Lh Tryz.func91 ?_;simp only[Z3,seval,-ae,I,J,R];refine zCd s l H E Y X λv1 f1=>?_;simp only[Z3,seval,-ae,I,J,R];refine zAV s Z l U f1 λv2 f2=>?_;simp only[Z3,seval,-ae,I,J,R];refine zCd s l E H X Y λv3 f3=>?_;simp only[Z3,seval,-ae,I,J,R];refine zCd s l W T f2 f3 λv4 V=>?_;refine Lk ?_;have e:gm O P C (la (gS O) (gm O P C) (zv O) (gm O P C y x)) (gm O P C x y)=dM O P C x y:=
  G.com_eq E H (G.cl W T) (by rw[<-G.as U W T,G.inv_r U,G.l1 T])
 rw[e]at V;exact Gh.fin0 (zC σ _) (V.bel _) (hk v4 V)
end
def zEW(E:(Lu x)=Lu O):mw x↔x=zv O:=by
 constructor
 .intro h;refine Zz (by simp[E]) λj l=>?_;rw[dp l,zb];exact h _ (YZ l)
 .rintro rfl y G
  exact Yi G
noncomputable def Bd(O:V1)(P:V2)(C:V3)(x:V1)(i:Nat):V2:=((DO i).map λi=>dM O P C x (Grp.unit O i)).filter λc=>decide (c≠zv O)
def zCj(x:V1)(i:Nat):Bd O P C x (i+1)=Bd O P C x i++(if dM O P C x (Grp.unit O i)=zv O then []else [dM O P C x (Grp.unit O i)]):=by
 unfold Bd;rw[Ia,Yx,List.filter_append,YE,Ya];congr 1;by_cases h:dM O P C x (Grp.unit O i)=zv O
 .rw[DK h,List.filter_cons_of_neg (by simp[h]),List.filter_nil]
 .rw[DL h,List.filter_cons_of_pos (by simp[h]),List.filter_nil]
def zKM(x:V1)(i:Nat):(Bd O P C x i).length<=i:=by
 unfold Bd;exact UJ (List.length_filter_le _ _) aK
def zPl{k:Nat}(h:k<Lu L):td O P C (L.take (k+1))=td O P C (L.take k)++Bd O P C L[k] (Lu O):=by
 unfold td;rw[YN h,List.flatMap_append];simp[Bd]
def zGF(s:jl O P C):∀(L:V2),(td O P C L).length<=6*Lu L
 |[]=>by simp[td]
 |x::L=>by
  have l:=zGF s L;have E:=zKM (O:=O) (P:=P) (C:=C) x (Lu O);have h:td O P C (x::L)=Bd O P C x (Lu O)++td O P C L:=by simp[td,Bd]
  have G:=s.le;rw[h,YB,Yu];omega
def zLM(s:jl O P C)(hc:Cons O P C)(hR:dU vO vP vC O P C)(hL:jj vL L)(hg:∀x∈L,gS O x)(hb:(Lu L)<=600000)(hk:∀v,jj v (td O P C L)->K v σ):zA Li 215 [.agg [vO,vP,vC],vL] σ K:=by
 have aX:=s.le;have aJ:=hR;have a2:=(sY s (na _) λj _ h=>hc j h).g;obtain⟨⟨R,H,rfl⟩,⟨w1,I,rP,rfl,hP⟩,⟨T,J,rC,rfl,hC⟩⟩:=hR;obtain⟨wl,al,rl,rfl,bp⟩:=hL;refine zA.gh ?_;have uJ:cT σ (σ.bf [.fz R H (Lu O) (cS O),.fz w1 I (Lu P) rP,.fz T J (Lu C) rC]):=zC σ _;have Aa:∀{h':cg},cT (σ.bf [.fz R H (Lu O) (cS O),.fz w1 I (Lu P) rP,.fz T J (Lu C) rC]) h'->h'.rd σ.aM 0 3=Dc [.fz R H (Lu O) (cS O),.fz w1 I (Lu P) rP,.fz T J (Lu C) rC]:=λ{h'} bF=>by
  have:h'.bt σ.aM=Dc [.fz R H (Lu O) (cS O),.fz w1 I (Lu P) rP,.fz T J (Lu C) rC]:=by rw[bF.bt _ (by simp[cg.bf])];simp[cg.bf]
  simp[cg.rd,this]
 refine Lg Tryz.func215 ?_;refine Lk ?_;refine zF (λm vs h'=>∃k v rows,k<=Lu L/\m=Lu L-k/\vs=[.fz wl al (Lu L) rl,.ptr σ.aM 0,.int .i64 (Lu O),v,.int .i64 (k:Nat)]/\cT (σ.bf [.fz R H (Lu O) (cS O),.fz w1 I (Lu P) rP,.fz T J (Lu C) rC]) h'/\eA (σ.aM+1) 1 h' v (td O P C (L.take k)).length rows/\dd FI rows (td O P C (L.take k))) (Lu L) ?_ ?_
 .exact⟨0,_,[],af,af,rfl,zC _ _,eA.bf (σ.aM+1) 1 rfl (na _),by simpa [td]using dd.nil _⟩
 rintro m vs h' ⟨k,v,rows,fO,rfl,rfl,G,E,l⟩
 refine Lk ?_;refine Ll (λaG=>?_) λah=>?_
 .have eg:k=Lu L:=af
  subst eg;rw[Yf]at E l;exact(E.acc.low (UW _)).fin (uJ.trans G) (l.bI 0) λa=>hk _ ⟨DF,a,rows,rfl,l⟩
 have V:k<Lu L:=af
 obtain⟨w4,a4,hr⟩:=bp.rowI V;have gx:=hg _ (YZ V);refine Lk ?_;refine zF (λm vs X=>∃i v rows,i<=Lu O/\m=Lu O-i/\vs=[.fz wl al (Lu L) rl,.ptr σ.aM 0,.int .i64 (Lu O),v,.int .i64 (k:Nat),.int .i64 (i:Nat)]/\cT (σ.bf [.fz R H (Lu O) (cS O),.fz w1 I (Lu P) rP,.fz T J (Lu C) rC]) X/\eA (σ.aM+1) 1 X v (td O P C (L.take k)++Bd O P C L[k] i).length rows/\dd FI rows (td O P C (L.take k)++Bd O P C L[k] i)) (Lu O) ?_ ?_
 .exact⟨0,v,rows,af,af,rfl,G,by simpa [Bd]using E,by simpa [Bd]using l⟩
 clear E l G v rows
 rintro m vs X ⟨i,v,rows,hi,rfl,rfl,G,E,l⟩
 have e3:=Aa G;refine Lk ?_;refine Ll (λME=>?_) λMf=>?_
 .have aU:i=Lu O:=af
  subst aU;rw[<-zPl V]at E l;simp only[Z3,seval,-ae,WX V];exact⟨_,af,k+1,v,rows,af,rfl,rfl,G,E,l⟩
 have W:i<Lu O:=af
 have oK:=zGF s (L.take k);have fH:=zKM (O:=O) (P:=P) (C:=C) L[k] i;have CE:(L.take k).length<=Lu L:=by rw[Yh];omega
 simp only[Z3,seval,-ae,V,hr,e3];refine QQ af W λvu fu=>?_;simp only[Z3,seval,-ae,V,hr,e3];refine QP s hc aJ gx (s.unit (t:=0) W (YV _)) ⟨w4,a4,rfl⟩ fu λvc fc=>?_;obtain⟨wc,Y,rfl⟩:=fc;have Z:=(a2.com_in gx (s.unit (t:=0) W (YV _))).len;refine Lk ?_;refine Zb rfl (by rw[Z];omega) ?_;have hz:=zEW Z;by_cases U:dM O P C L[k] (Grp.unit O i)=zv O
 .have Bh:=hz.2 U;simp only[Z3,seval,-ae,Bh,WX W];refine⟨_,af,i+1,v,rows,af,rfl,rfl,G,?_,?_⟩
  .rw[zCj,DK U,Ye];exact E
  .rw[zCj,DK U,Ye];exact l
 .have Bh:¬mw _:=λh=>U (hz.1 h);simp only[Z3,seval,-ae,Bh];refine eA.push (bytes:=24) (σb:=σ.bf [.fz R H (Lu O) (cS O),.fz w1 I (Lu P) rP,.fz T J (Lu C) rC]) G E (by rw[YB];omega) (by rw[YB];omega) λv' h3 k3 p3=>?_;simp only[Z3,seval,-ae,WX W];refine⟨_,af,i+1,v',rows++[.fz wc Y (dM O P C L[k] (Grp.unit O i)).length (cS (dM O P C L[k] (Grp.unit O i)))],af,rfl,rfl,k3,?_,?_⟩;rotate_left
  .rw[zCj,DL U,<-Yv];exact l.snoc ⟨wc,Y,rfl⟩
  .rw[zCj,DL U,<-Yv,YB];exact p3
end Go.Proofs
namespace Go.Grp
open Go.Ab Go.Lie
variable{d i k t:Nat}{O a c w' x y z:V1}{P:V2}{C:V3}
section
variable{b g:V1}{D:List (Option V1)}{N:V1->Prop}
def zGS(h:gS O x):TT O (cX x) x:=⟨h.len,h.bd,λj l=>zn l⟩
def zAJ(l:TT O t x)(E:t<=Lu O):t<=cX x:=by
 rcases YG (cX x) t with h|h
 .have hl:=l.len;exact absurd (l.zero _ h) (ZJ af)
 .exact h
def zTH(l:gS O x)(h:(Lu O)<=cX x):x=zv O:=by
 refine Zz (by rw[l.len];simp) λj E=>?_;rw[zb];exact zn (by have:=l.len;omega)
def zSb(s:jl O P C):cX (zv O)=Lu O:=by
 have l:=zAJ (t:=(Lu O)) (s.zv _) (na _);have h:=Qg (zv O);rw[(s.zv 0).len]at h;omega
def zPg(s:jl O P C)(h:cX x<Lu O):x≠zv O:=λe=>by
 rw[e,zSb s]at h;omega
def zDm{o a b:Int}(h:0<=a/\a<o)(l:0<=b/\b<o):ku o a b=(a+b) % o:=by
 unfold ku;split
 .have:(a+b) % o=(a+b-o) % o:=by rw[Int.sub_emod_right]
  rw[this,Ys af af]
 .rw[Ys af af]
section
variable(s:jl O P C)(F:Full O P C (Lu O))(hC:sc O C)
include s F hC
theorem zE0(h:t<Lu O)(l:TT O t x):∀k:Nat,TT O t (pw (gm O P C) (zv O) x k)/\at_ (pw (gm O P C) (zv O) x k) t=((k:Int)*at_ x t) % at_ O t
 |0=>⟨s.zv _,by show at_ (zv O) t=_;rw[zb];simp⟩
 |k+1=>by
  obtain⟨E,H⟩:=zE0 h l k;have I:=s.pr t h;obtain⟨_,G⟩:=QO s (d:=(Lu O)) (b:=pw (gm O P C) (zv O) x k) (a:=x) (t:=t) (na _) af h (by rw[Yk];exact E.mono (YV _)) l;refine⟨tt_cl s F hC (Y8 h) E l,?_⟩;show at_ (mu O P C (Lu O) (pw (gm O P C) (zv O) x k) x) t=_;rw[G,zDm (E.bd t h) (l.bd t h),H,IP];congr 1;grind
theorem zN7(l:t<Lu O)(H:TT O t x)(T:TT O t b)(V:at_ b t=1):TT O (t+1) (gm O P C (pw (gm O P C) (zv O) b (at_ O t-at_ x t).toNat) x):=by
 obtain⟨G,R⟩:=zE0 s F hC l T (at_ O t-at_ x t).toNat;have I:=H.bd t l;obtain⟨_,J⟩:=QO s (d:=(Lu O)) (b:=pw (gm O P C) (zv O) b (at_ O t-at_ x t).toNat) (a:=x) (t:=t) (na _) af l (by rw[Yk];exact G.mono (YV _)) H;have E:=tt_cl s F hC (Y8 l) G H;have U:at_ (gm O P C (pw (gm O P C) (zv O) b (at_ O t-at_ x t).toNat) x) t=0:=by
  show at_ (mu O P C (Lu O) _ _) t=0;rw[J,zDm (G.bd t l) I,R,V,Ur,IP,YD af,show at_ O t-at_ x t+at_ x t=at_ O t by omega,Int.emod_self]
 refine⟨E.len,E.bd,λj W=>?_⟩;rcases YG j t with h|h
 .exact E.zero j h
 .rw[show j=t by omega];exact U
theorem zQB(l:t<Lu O)(E:gS O x)(h:TT O t b)(I:at_ b t=1):gS O (gm O P C x b)/\Upto O t (gm O P C x b) x/\at_ (gm O P C x b) t=(at_ x t+1) % at_ O t:=by
 obtain⟨G,H⟩:=QO s (d:=(Lu O)) (b:=x) (a:=b) (t:=t) (na _) af l (by rw[Yk];exact E) h;refine⟨F.g.cl E (h.mono (YV _)),G,?_⟩;show at_ (mu O P C (Lu O) x b) t=_;rw[H,zDm (E.bd t l) (h.bd t l),I]
end
def uc.pw(l:gN O P C N)(h:N x):∀k:Nat,N (Grp.pw (gm O P C) (zv O) x k)
 |0=>l.one
 |k+1=>l.cl (uc.pw l h k) h
structure OkD(O:V1)(D:List (Option V1)):Prop where
 len:(Lu D)=Lu O
 row:∀(d:Nat) (y:V1),D[d]? = Dc (Dc y)->TT O d y/\at_ y d=1
def InD(N:V1->Prop)(D:List (Option V1)):Prop:=∀(d:Nat) (y:V1),D[d]? = Dc (Dc y)->N y
def free:List (Option V1)->Nat
 |[]=>0
 |none::D=>free D+1
 |some _::D=>free D
def zE9:∀D,free D<=Lu D
 |[]=>na _
 |none::D=>by have:=zE9 D;simp only[free,Yu];omega
 |some _::D=>by have:=zE9 D;simp only[free,Yu];omega
def zJ8{y:V1}:∀{D:List (Option V1)} {d:Nat},D[d]? = Dc none->free (D.set d (Dc y))+1=free D
 |[],d,h=>by simp at h
 |v::D,0,h=>by
  simp only[Hk,YC]at h;subst h;rfl
 |v::D,d+1,h=>by
  have:=zJ8 (y:=y) (D:=D) (d:=d) (by simpa using h)
  cases v<;>simp only[Ib,free]<;>omega
def OkD.put(h:OkD O D)(hd:d<Lu O)(H:TT O d y)(E:at_ y d=1):OkD O (D.set d (Dc y)):=by
 refine⟨by rw[YA];exact h.len,λe v l=>?_⟩;rw[Y4]at l;split at l
 .rename_i G;subst G;split at l
  .cases l;exact⟨H,E⟩
  .cases l
 .exact h.row e v l
def InD.put(hd:D[d]? = Dc none):InD N (D.set d (Dc y))↔InD N D/\N y:=by
  have I:d<Lu D:=by
    rcases YG d (Lu D) with h|h
    .exact h
    .rw[Yq h]at hd;cases hd
  constructor
  . intro h
    refine⟨λe v l=>h e v ?_,h d y ?_⟩
    .rw[Y4,DL λE=>by subst E;rw[hd]at l;cases l];exact l
    .rw[Y4,DK rfl,DK I]
  . rintro⟨H,G⟩ e v l
    rw[Y4]at l;split at l
    . rename_i E;subst E
      first
      |(cases l;exact G)
      | (split at l
         .cases l;exact G
         .cases l)
    .exact H e v l
def OkD.start(n:Nat)(l:n=Lu O):OkD O (Ep n none):=⟨by simp[l],λd y h=>by
 rw[JX]at h;split at h<;>cases h⟩
def InD.start(n:Nat):InD N (Ep n none):=λd y h=>by
 rw[JX]at h;split at h<;>cases h
end
section
variable{b g w:V1}
section
variable{α:Type}{S:α->Prop}{m:α->α->α}{e:α}
def Mon.pw_e(M:Mon S m e):∀k,Grp.pw m e e k=e
 |0=>rfl
 |k+1=>by
  show m (Grp.pw m e e k) e=e;rw[M.pw_e k];exact M.l1 M.one
def Mon.pw_mul(M:Mon S m e){x:α}(h:S x)(a:Nat):∀b,Grp.pw m e x (a*b)=Grp.pw m e (Grp.pw m e x a) b
 |0=>rfl
 |b+1=>by
  rw[Nat.mul_succ,M.pw_add h,M.pw_mul h a b];rfl
def Mon.pw_mod(M:Mon S m e){x:α}(h:S x){n a:Nat}(E:Grp.pw m e x n=e):Grp.pw m e x a=Grp.pw m e x (a % n):=by
 have l:=M.pw_add h (n*(a / n)) (a % n);rw[Nat.div_add_mod,M.pw_mul h,E,M.pw_e,M.l1 (M.pw h _)]at l;exact l
end
def Rt(O:V1)(P:V2)(C:V3)(z:V1)(c:Int)(w:V1):Prop:=
 (z=zv O/\w=zv O)\/(z≠zv O/\∃j y n:Nat,(n:Int)=at_ O 0 ^ j/\Grp.pw (gm O P C) (zv O) z n=zv O/\(c*y) % n=1 % n/\w=Grp.pw (gm O P C) (zv O) z y)
def zAf{p:Int}{j l:Nat}(h:j<=l):p ^ j∣p ^ l:=by
 obtain⟨k,rfl⟩:∃k,l=j+k:=⟨l-j,af⟩
 rw[Int.pow_add];exact Int.dvd_mul_right _ _
def Za{a b m n:Int}(h:m∣n)(l:a % n=b % n):a % m=b % m:=by
 rw[<-UK a h,l,UK b h]
def zJg{c y h m:Int}(E:(c*y) % m=1 % m)(G:(c*h) % m=1 % m):y % m=h % m:=by
 have l:m∣c*y-1:=Iq (by rw[Ui,E];simp);have d2:m∣c*h-1:=Iq (by rw[Ui,G];simp)
 have:m∣y-h:=by
  have H:y-h=h*(c*y-1)-y*(c*h-1):=by grind
  rw[H];exact Int.dvd_sub (Int.dvd_mul_of_dvd_right l) (Int.dvd_mul_of_dvd_right d2)
 exact Int.emod_eq_emod_iff_emod_sub_eq_zero.2 (It this)
def zBr(F:Full O P C (Lu O))(G:gS O z){n y l:Nat}(E:Grp.pw (gm O P C) (zv O) z n=zv O)(h:(y:Int) % n=(l:Int) % n):Grp.pw (gm O P C) (zv O) z y=Grp.pw (gm O P C) (zv O) z l:=by
 rw[F.g.toMon.pw_mod G (a:=y) E,F.g.toMon.pw_mod G (a:=l) E];congr 1;omega
def Rt.two{n E:Nat}{j l:Nat}(G:(n:Int)=at_ O 0 ^ j)(H:(E:Int)=at_ O 0 ^ l):((n:Int)∣E/\j<=l)\/((E:Int)∣n/\l<=j):=by
 rcases Nat.le_total j l with h|h
 .exact .inl ⟨by rw[G,H];exact zAf h,h⟩
 .exact .inr ⟨by rw[G,H];exact zAf h,h⟩
def Rt.unique(F:Full O P C (Lu O))(I:gS O z){c:Int}(h:Rt O P C z c w)(g:Rt O P C z c w'):w=w':=by
 rcases h with ⟨E,rfl⟩|⟨E,j,y,n,T,U,H,rfl⟩
 .rcases g with ⟨_,rfl⟩|⟨l,_⟩
  .rfl
  .exact absurd E l
 .rcases g with ⟨l,_⟩|⟨_,V,X,W,J,R,G,rfl⟩
  .exact absurd l E
  .rcases Rt.two T J with ⟨hd,_⟩|⟨hd,_⟩
   .exact zBr F I U (zJg H (Za hd G))
   .exact zBr F I R (zJg (Za hd H) G)
def Rt.gS(F:Full O P C (Lu O))(s:jl O P C)(l:Go.Grp.gS O z){c:Int}(h:Rt O P C z c w):Go.Grp.gS O w:=by
 rcases h with ⟨_,rfl⟩|⟨_,j,y,n,_,_,_,rfl⟩
 .exact s.zv _
 .exact F.g.toMon.pw l _
def Rt.neg(F:Full O P C (Lu O))(s:jl O P C)(E:Go.Grp.gS O z){c:Int}(h:Rt O P C z c w)(g:Rt O P C z (-c) w'):w'=la (Go.Grp.gS O) (gm O P C) (zv O) w:=by
 have G:=F.g;have wS:=h.gS F s E;have T:=g.gS F s E;refine G.inv_eq wS T ?_;rcases h with ⟨I,rfl⟩|⟨I,j,y,n,h1,h2,R,rfl⟩
 .rcases g with ⟨_,rfl⟩|⟨H,_⟩
  .exact G.l1 G.one
  .exact absurd I H
 .rcases g with ⟨H,_⟩|⟨_,j',l,n',g1,g2,J,rfl⟩
  .exact absurd H I
  .rw[<-G.toMon.pw_add E];have key:∀{m:Nat},Grp.pw (gm O P C) (zv O) z m=zv O->(c*y) % m=1 % m->(-c*l) % m=1 % m->Grp.pw (gm O P C) (zv O) z (y+l)=zv O:=λ{m} U V W=>by
    have X:(c*(-(l:Int))) % m=1 % m:=by rw[show c*(-(l:Int))=-c*l by grind];exact W
    have Y:=zJg V X;have Z:((y+l:Nat):Int) % m=((0:Nat):Int) % m:=by
     have:((y+l:Nat):Int)=(y:Int)-(-(l:Int)):=af
     rw[this];rw[Int.emod_eq_emod_iff_emod_sub_eq_zero.1 Y];simp
    exact zBr F E U Z
   rcases Rt.two h1 g1 with ⟨hd,_⟩|⟨hd,_⟩
   .exact key h2 R (Za hd J)
   .exact key g2 (Za hd R) J
def zEY{p n:Int}{j:Nat}(G:p=5\/p=7)(l:n=p ^ j)(H:n<=729){c:Int}(E:c=2\/c=12):∃y:Int,(c*y) % n=1 % n:=by
 have hd:(p=5/\n∣625)\/(p=7/\n∣343):=by
  rcases G with rfl|rfl
  .left;refine⟨rfl,?_⟩;rcases YG 4 j with h|h
   .exfalso;obtain⟨k,rfl⟩:∃k,j=5+k:=⟨j-5,af⟩
    rw[Int.pow_add]at l
    have:(1:Int)<=5 ^ k:=Ht LB
    omega
   .rw[l,show(625:Int)=5 ^ 4 by decide];exact zAf h
  .right;refine⟨rfl,?_⟩;rcases YG 3 j with h|h
   .exfalso;obtain⟨k,rfl⟩:∃k,j=4+k:=⟨j-4,af⟩
    rw[Int.pow_add]at l
    have:(1:Int)<=7 ^ k:=Ht LB
    omega
   .rw[l,show(343:Int)=7 ^ 3 by decide];exact zAf h
 rcases hd with ⟨_,hd⟩|⟨_,hd⟩
 .rcases E with rfl|rfl
  .exact⟨313,Za hd LB⟩
  .exact⟨573,Za hd LB⟩
 .rcases E with rfl|rfl
  .exact⟨172,Za hd LB⟩
  .exact⟨143,Za hd LB⟩
section
variable(s:jl O P C)(F:Full O P C (Lu O))(hC:sc O C)
include s F hC
theorem zAR(E:t<Lu O)(H:TT O t x):TT O (t+1) (Grp.pw (gm O P C) (zv O) x (at_ O t).toNat):=by
 obtain⟨l,G⟩:=zE0 s F hC E H (at_ O t).toNat;refine⟨l.len,l.bd,λj I=>?_⟩;rcases YG j t with h|h
 .exact l.zero j h
 .rw[show j=t by omega,G,YD (by have:=s.pr t E;omega),Int.mul_emod_right]
omit hC in
theorem zHU(k:Nat)(h:BP O P C (sG (Lc O P C k)) x)(T:gS O y):BP O P C (sG (Lc O P C (k+1))) (dM O P C x y):=by
 have H:∀x,sG (Lc O P C k) x->gS O x:=λx h=>(uB s F k x h).1;have E:gN O P C (BP O P C (sG (Lc O P C (k+1)))):=NC.sub F.g λl G=>(uB s F (k+1) l G).1;have I:gN O P C (BP O P C (sG (Lc O P C k))):=NC.sub F.g H;refine zE8 s F E (I.inS h) (λi R=>?_) T;have J:=cs_le s F H (B:=BP O P C (sG (Lc O P C k))) (λx h=>h) _ (NC.mem ⟨x,i,h,R,rfl⟩);refine NC.le E (λl G=>?_) J;by_cases e:l=zv O
 .rw[e];exact E.one
 .exact NC.mem (zA1.2 ⟨G,e⟩)
omit hC in
theorem zGM(J:gS O x):BP O P C (sG (Lc O P C 0)) x:=by
 have H:gN O P C (BP O P C (sG (Lc O P C 0))):=NC.sub F.g λl I=>(uB s F 0 l I).1
 have:=F.g.toMon.ph_ind (Q:=BP O P C (sG (Lc O P C 0))) (h:=unit O) (x:=nx x) (d:=(Lu O)) (t:=0) H.one (λa b _ _ E G=>H.cl E G)
  λj E G=>⟨s.unit af (YV _),NC.mem (YI.2 ⟨j,UC.2 af,rfl⟩)⟩
 rwa[F.nfx J]at this
omit hC in
theorem zH6{k:Nat}(E:Lc O P C k=[])(G:BP O P C (sG (Lc O P C k)) x):x=zv O:=
 NC.le (At s F) (λl h=>by rw[E]at h;cases h) G
omit hC in
theorem Z6{k:Nat}(E:Lc O P C k=[])(h:k<=1)(G:gS O x)(H:gS O y):dM O P C x y=zv O:=by
 have l:=zKi s F E 1 h;exact zH6 s F l (zHU s F 0 (zGM s F G) H)
omit hC in
theorem zCi{k:Nat}(E:Lc O P C k=[])(h:k<=2)(G:gS O x)(H:gS O y)(I:gS O z):dM O P C (dM O P C x y) z=zv O:=by
 have l:=zKi s F E 2 h;exact zH6 s F l (zHU s F 1 (zHU s F 0 (zGM s F G) H) I)
end
end
section
section
variable{α:Type}[Inhabited α]{S:α->Prop}{m:α->α->α}{e:α}{x y a:α}{N:α->Prop}
structure zy(S:α->Prop)(m:α->α->α)(e:α)(N:α->Prop):Prop where
 inS:∀{x},N x->S x
 one:N e
 cl:∀{x y},N x->N y->N (m x y)
 inv:∀{x},N x->N (la S m e x)
def uc.toB(h:uc S m e N):zy S m e N:=⟨h.inS,h.one,h.cl,h.inv⟩
def Gp.wholeB(G:Gp S m e):zy S m e S:=⟨id,G.one,λa b=>G.cl a b,λa=>(G.inv_in a).1⟩
def zy.com_in(h:zy S m e N)(l:N x)(E:N y):N (iN S m e x y):=h.cl (h.inv l) (h.cl (h.inv E) (h.cl l E))
def zy.quot(G:Gp S m e)(h:zy S m e N)(l:N a)(E:S x)(I:N (m a x)):N x:=by
 have H:=h.cl (h.inv l) I;rwa[<-G.as (h.inS (h.inv l)) (h.inS l) E,G.inv_l (h.inS l),G.l1 E]at H
def zy.quotR(G:Gp S m e)(h:zy S m e N)(l:N a)(E:S x)(I:N (m x a)):N x:=by
 have H:=h.cl I (h.inv l);rwa[G.as E (h.inS l) (h.inS (h.inv l)),G.inv_r (h.inS l),G.r1 E]at H
def zy.pw(h:zy S m e N)(l:N x):∀k,N (Grp.pw m e x k)
 |0=>h.one
 |k+1=>h.cl (h.pw l k) l
end
variable{O:V1}{P:V2}{C:V3}{x y z a b c g:V1}{D D':List (Option V1)}{t k d:Nat}{N:V1->Prop}{u Q:V2}
abbrev gB(O:V1)(P:V2)(C:V3)(N:V1->Prop):Prop:=zy (gS O) (gm O P C) (zv O) N
inductive CJ(O:V1)(P:V2)(C:V3)(D:List (Option V1)):V1->V1->Prop where
 |refl (x:V1):CJ O P C D x x
 |left {d j:Nat} {b x x' z:V1} (hd:d<Lu O) (hb:D[d]? = Dc (Dc b)) (hx:TT O d x) (h0:at_ x d≠0) (ij:TT O (d+1) x') (e:x=gm O P C (pw (gm O P C) (zv O) b j) x') (r:CJ O P C D x' z):CJ O P C D x z
 |right {d j:Nat} {b x x' z:V1} (hd:d<Lu O) (hb:D[d]? = Dc (Dc b)) (hx:TT O d x) (h0:at_ x d≠0) (ij:TT O (d+1) x') (e:x=gm O P C x' (pw (gm O P C) (zv O) b j)) (r:CJ O P C D x' z):CJ O P C D x z
def CJ.trans(h:CJ O P C D x y)(g:CJ O P C D y z):CJ O P C D x z:=by
 induction h with
 |refl x=>exact g
 |left hd hb hx h0 ij e r ih=>exact .left hd hb hx h0 ij e (ih g)
 |right hd hb hx h0 ij e r ih=>exact .right hd hb hx h0 ij e (ih g)
def Sup(D D':List (Option V1)):Prop:=∀(d:Nat) (b:V1),D[d]? = Dc (Dc b)->D'[d]? = Dc (Dc b)
def CJ.mono(h:CJ O P C D x z)(s:Sup D D'):CJ O P C D' x z:=by
 induction h with
 |refl x=>exact .refl x
 |left hd hb hx h0 ij e r ih=>exact .left hd (s _ _ hb) hx h0 ij e ih
 |right hd hb hx h0 ij e r ih=>exact .right hd (s _ _ hb) hx h0 ij e ih
def CJ.iff(F:Full O P C (Lu O))(l:gB O P C N)(E:InD N D)(h:CJ O P C D x z):N x↔N z:=by
 have G:=F.g
 induction h with
 |refl x=>exact Iff.rfl
 |left hd hb hx h0 ij e r ih=>
  refine Iff.trans ?_ ih;rw[e];exact⟨λh=>l.quot G (l.pw (E _ _ hb) _) (ij.mono (YV _)) h,λh=>l.cl (l.pw (E _ _ hb) _) h⟩
 |right hd hb hx h0 ij e r ih=>
  refine Iff.trans ?_ ih;rw[e];exact⟨λh=>l.quotR G (l.pw (E _ _ hb) _) (ij.mono (YV _)) h,λh=>l.cl h (l.pw (E _ _ hb) _)⟩
def Sup.put(hd:D[d]? = Dc none):Sup D (D.set d (Dc y)):=λe b l=>by
 rw[Y4];split
 .rename_i h;rw[<-h,hd]at l;cases l
 .exact l
def RQ(O:V1)(P:V2)(C:V3)(D:List (Option V1))(Q:V2)(x:V1):Prop:=∃z,CJ O P C D x z/\(z=zv O\/z∈Q)
structure QI(O:V1)(P:V2)(C:V3)(D:List (Option V1))(Q:V2):Prop where
 pow:∀(d:Nat) (b:V1),D[d]? = Dc (Dc b)->RQ O P C D Q (pw (gm O P C) (zv O) b (at_ O d).toNat)
 iN:∀(d e:Nat) (b c:V1),d≠e->D[d]? = Dc (Dc b)->D[e]? = Dc (Dc c)->RQ O P C D Q (dM O P C b c)\/RQ O P C D Q (dM O P C c b)
def RQ.step{l:V2}(h:RQ O P C D (x::Q) y)(s:Sup D D')(H:CJ O P C D x z)(I:z=zv O\/z∈l)(G:∀q∈Q,q∈l):RQ O P C D' l y:=by
 obtain⟨w,E,h2⟩:=h;rcases h2 with rfl|h2
 .exact⟨_,E.mono s,.inl rfl⟩
 .rcases YH.1 h2 with rfl|h2
  .exact⟨z,(E.trans H).mono s,I⟩
  .exact⟨w,E.mono s,.inr (G w h2)⟩
def zJe{n d:Nat}{b:V1}(h:(Ep n (none:Option V1))[d]? = Dc (Dc b)):False:=by
 rw[JX]at h;split at h<;>cases h
def QI.start(n:Nat):QI O P C (Ep n none) Q:=⟨λd b h=>(zJe h).elim,λd e b c _ h _=>(zJe h).elim⟩
def QI.mem{l:V2}(h:QI O P C D Q)(J:∀q∈Q,q∈l):QI O P C D l:=
 have r:∀{x},RQ O P C D Q x->RQ O P C D l x:=λ⟨z,H,I⟩=>⟨z,H,I.imp id (J z)⟩
 ⟨λd b E=>r (h.pow d b E),λd e b c G E R=>(h.iN d e b c G E R).imp r r⟩
def QI.drop(h:QI O P C D (x::Q))(I:CJ O P C D x (zv O)):QI O P C D Q:=
 have r:∀{y},RQ O P C D (x::Q) y->RQ O P C D Q y:=λh=>h.step (λd b l=>l) I (.inl rfl) λq H=>H
 ⟨λd b l=>r (h.pow d b l),λd e b c E l G=>(h.iN d e b c E l G).imp r r⟩
def QI.put{E:V2}(h:QI O P C D (x::Q))(hx:CJ O P C D x z)(hd:D[d]? = Dc none)(hz:z∈E)(Y:∀q∈Q,q∈E)(Z:pw (gm O P C) (zv O) y (at_ O d).toNat∈E)(R:∀(e:Nat) (b:V1),D[e]? = Dc (Dc b)->dM O P C b y∈E\/dM O P C y b∈E):QI O P C (D.set d (Dc y)) E:=by
  have hl:d<Lu D:=by
    rcases YG d (Lu D) with h|h
    .exact h
    .rw[Yq h]at hd;cases hd
  have s:Sup D (D.set d (Dc y)):=Sup.put hd;have r:∀{w},RQ O P C D (x::Q) w->RQ O P C (D.set d (Dc y)) E w:=λh=>h.step s hx (.inr hz) Y;have ge:∀(e:Nat) (b:V1),(D.set d (Dc y))[e]? = Dc (Dc b)->(e=d/\b=y)\/(e≠d/\D[e]? = Dc (Dc b)):=λe b l=>by
    rw[Y4]at l;split at l
    . rename_i I
      subst I
      first
      |(cases l;exact .inl ⟨rfl,rfl⟩)
      | (split at l
         .cases l;exact .inl ⟨rfl,rfl⟩
         .cases l)
    .rename_i I;exact .inr ⟨λh=>I h.symm,l⟩
  refine⟨λe b l=>?_,λe e' b c W l V=>?_⟩
  . rcases ge e b l with ⟨T,J⟩|⟨_,G⟩
    .rw[T,J];exact⟨_,.refl _,.inr Z⟩
    .exact r (h.pow e b G)
  . rcases ge e b l with ⟨T,J⟩|⟨h1,G⟩
    . rcases ge e' c V with ⟨l1,U⟩|⟨X,H⟩
      .omega
      . rw[J]
        rcases R e' c H with h3|h3
        .exact .inr ⟨_,.refl _,.inr h3⟩
        .exact .inl ⟨_,.refl _,.inr h3⟩
    . rcases ge e' c V with ⟨l1,U⟩|⟨X,H⟩
      . rw[U]
        rcases R e b G with h3|h3
        .exact .inl ⟨_,.refl _,.inr h3⟩
        .exact .inr ⟨_,.refl _,.inr h3⟩
      .exact(h.iN e e' b c W G H).imp r r
section
variable(s:jl O P C)(F:Full O P C (Lu O))(hC:sc O C)
include s F hC
theorem zRX(G:gS O x):∃E:Nat,0<E/\pw (gm O P C) (zv O) x E=zv O:=by
 have M:=F.g.toMon
 have:∀t,t<=Lu O->∃E:Nat,0<E/\TT O t (pw (gm O P C) (zv O) x E):=by
  intro t
  induction t with
  |zero=>intro _;exact⟨1,af,by rw[M.pw_one G];exact G⟩
  |succ t ih=>
   intro I;obtain⟨E,h,l⟩:=ih af;have H:=s.pr t af;refine⟨E*(at_ O t).toNat,Nat.mul_pos h af,?_⟩;rw[M.pw_mul G];exact zAR s F hC af l
 obtain⟨E,h,l⟩:=this (Lu O) (na _);exact⟨E,h,l.ext (s.zv _) λj h l=>af⟩
end
structure CanD(O:V1)(P:V2)(C:V3)(D:List (Option V1))(u:V2):Prop where
 one:∀v∈u,gS O v/\cX v<Lu O/\at_ v (cX v)=1
 asc:u.Pairwise λa b=>cX a<cX b
 red:∀v∈u,∀w∈u,cX v≠cX w->at_ v (cX w)=0
 all:∀(d:Nat) (y:V1),D[d]? = Dc (Dc y)->∃v∈u,cX v=d
 len:(Lu u)<=Lu O
 iff:∀N,gB O P C N->((∀x∈u,N x)↔InD N D)
section
variable(s:jl O P C)(F:Full O P C (Lu O))(hC:sc O C)
include s F hC
theorem zS3(h:gS O b)(k:Nat):∃j,gm O P C (pw (gm O P C) (zv O) b j) (pw (gm O P C) (zv O) b k)=zv O/\gm O P C (pw (gm O P C) (zv O) b k) (pw (gm O P C) (zv O) b j)=zv O:=by
 have M:=F.g.toMon;obtain⟨E,l,G⟩:=zRX s F hC h;have e:pw (gm O P C) (zv O) b (E*k)=zv O:=by rw[M.pw_mul h,G,M.pw_e]
 have hle:k<=E*k:=Nat.le_mul_of_pos_left k l;refine⟨E*k-k,?_,?_⟩
 .rw[<-M.pw_add h,show E*k-k+k=E*k by omega,e]
 .rw[<-M.pw_add h,show k+(E*k-k)=E*k by omega,e]
theorem CJ.stepL(ok:OkD O D)(l:D[d]? = Dc (Dc b))(hd:d<Lu O)(E:TT O d z)(J:at_ z d≠0)(I:TT O (d+1) (gm O P C (pw (gm O P C) (zv O) b k) z)):CJ O P C D z (gm O P C (pw (gm O P C) (zv O) b k) z):=by
 have G:=F.g;have h:gS O b:=(ok.row d b l).1.mono (YV _);have H:gS O z:=E.mono (YV _);obtain⟨j,R,T⟩:=zS3 s F hC h k;refine .left (j:=j) hd l E J I ?_ (.refl _);rw[<-G.as (G.pw h j) (G.pw h k) H,R,G.l1 H]
end
end
end Go.Grp
namespace Go.Proofs
open Go.Ab Go.Lie Go.Grp
variable{rb:List PV}{d j n sp ss:Nat}{σ:cg}{vB vC vL vO vP vU va vg vx vy:PV}{K:PV->cg->Prop}{O a x y z:V1}{L P mc u:V2}{C:V3}
section
variable{D:List (Option V1)}{sb:Nat}
structure C6(σ:cg)(ss sb sp:Nat)(n:Nat)(rb:List PV)(vO vP vC:PV):Prop where
 bt:σ.bt ss=Dc [.ptr sp 0,.sl sb 0 n (.b6 n)]
 lt:ss<σ.aM
 bobj:σ.bt sb=Dc rb
 blt:sb<σ.aM
 pg:jh σ sp vO vP vC
 ne1:ss≠sb
 ne2:sp≠sb
def C6.cf{h:cg}(q:C6 σ ss sb sp n rb vO vP vC)(l:cT σ h):C6 h ss sb sp n rb vO vP vC:=
 ⟨by rw[l.bt _ q.lt];exact q.bt,Yw q.lt l.aM,by rw[l.bt _ q.blt];exact q.bobj,Yw q.blt l.aM,q.pg.cf l,q.ne1,q.ne2⟩
def C6.setB(q:C6 σ ss sb sp n rb vO vP vC)(h:List PV):C6 (σ.set sb h) ss sb sp n h vO vP vC:=
 ⟨by rw[zG,DL q.ne1];exact q.bt,q.lt,by rw[zG,DK rfl],q.blt,q.pg.set q.ne2 _,q.ne1,q.ne2⟩
def rV(n:Nat)(c:PV)(r:Option V1):Prop:=(c=Ln/\r=none)\/∃o cap y,c=.fz DF (.sl o 0 n cap) n (cS y)/\r=Dc y
def rV.bel{c:PV}{r:Option V1}(h:rV n c r):Bel 0 c:=by
 rcases h with ⟨rfl,_⟩|⟨_,_,_,rfl,_⟩<;>trivial
def rV.bels{rb:List PV}{D:List (Option V1)}(h:dd (rV n) rb D)(m:Nat):hZ m rb:=by
 refine zBD.2 λc E=>?_;obtain⟨k,l,rfl⟩:=YR.1 E;exact(rV.bel (h.2 k _ _ (YQ l) (YQ (by rw[<-h.1];exact l)))).up (YV _)
def rV.get{rb:List PV}{D:List (Option V1)}(h:dd (rV n) rb D){d:Nat}(hd:d<Lu D):(rb[d]? = Dc (Ln)/\D[d]? = Dc none)\/∃o cap y,rb[d]? = Dc (.fz DF (.sl o 0 n cap) n (cS y))/\D[d]? = Dc (Dc y):=by
 have G:d<Lu rb:=by rw[h.1];exact hd
 rw[YQ G,YQ hd];rcases h.2 d _ _ (YQ G) (YQ hd)with ⟨l,E⟩|⟨o,cap,y,l,E⟩
 .exact .inl ⟨by rw[l],by rw[E]⟩
 .exact .inr ⟨o,cap,y,by rw[l],by rw[E]⟩
def rV.put{rb:List PV}{D:List (Option V1)}(h:dd (rV n) rb D){o d:Nat}{cap:jZ}:dd (rV n) (rb.set d (.fz DF (.sl o 0 n cap) n (cS y))) (D.set d (Dc y)):=by
 refine⟨by rw[YA,YA];exact h.1,λk c r l E=>?_⟩;rw[Y4]at l E;by_cases e:d=k
 .rw[DK e]at l E;split at l
  .split at E
   .cases l;cases E;exact .inr ⟨o,cap,y,rfl,rfl⟩
   .cases E
  .cases l
 .rw[DL e]at l E;exact h.2 k c r l E
def zQL(s:jl O P C)(F:Full O P C (Lu O))(R:0<Lu O)(hs:jh σ sp vO vP vC)(I:dU vO vP vC O P C)(h:gS O a)(E:FI va a){k:Int}(G:0<=k/\k<=1000000)(J:∀o cap,K (.fz DF (.sl o 0 (Lu O) cap) (Lu O) (cS (Grp.pw (gm O P C) (zv O) a k.toNat))) σ):
  zA Li 48 [.ptr sp 0,va,.int .i64 k] σ K:=by
 have hlen:=(F.g.pw h k.toNat).len;refine zA.gh (zJP s F hs I (by rw[Yk];exact h) E G ⟨λH=>?_,λcap l=>?_⟩)
 .rw[H]at hlen;simp at hlen;omega
 .rw[hlen]at l ⊢;exact Gh.finF (zC σ _) (by simp[cg.bf]) (na _) (zL _ _) l.ok λo=>J o cap
def zRa(s:jl O P C)(F:Full O P C (Lu O))(hC:sc O C)(E:C6 σ ss sb sp (Lu O) rb vO vP vC)(hR:dU vO vP vC O P C)(T:OkD O D)(cB:dd (rV (Lu O)) rb D)(hx:gS O x)(bm:FI vx x)
  (hk:∀v z,FI v z->gS O z->(cX z<Lu O->D[cX z]? = Dc none)->CJ O P C D x z->K v σ):zA Li 252 [.ptr ss 0,vx] σ K:=by
 have aX:=s.le;obtain⟨wx,ax,rfl⟩:=bm;have bj:=hx.len;have r0:σ.dR ss 0=Dc (.ptr sp 0):=by rw[zH E.bt];rfl
 have r1:σ.dR ss 1=Dc (.sl sb 0 (Lu O) (.b6 (Lu O))):=by rw[zH E.bt];rfl
 have V:=hR;obtain⟨⟨w0,a0,rfl⟩,_,_⟩:=hR;have Z:σ.dR sp 0=Dc (.fz w0 a0 (Lu O) (cS O)):=by rw[zH E.pg.bt];rfl
 refine qH mix Tryz.func252 ?_;refine Lk ?_;refine zAp rfl af ?_;refine Lk ?_;refine zF (λm vs h'=>∃z w a,m=Lu O-cX z/\vs=[.ptr ss 0,.fz w a (Lu O) (cS z),.int .i64 (cX z)]/\σ=h'/\gS O z/\CJ O P C D x z) _ ⟨x,wx,ax,rfl,by rw[bj];rfl,rfl,hx,.refl _⟩ ?_
 rintro m vs h' ⟨z,w,a,rfl,rfl,rfl,l,U⟩
 have J:=l.len;by_cases hd:cX z<Lu O
 .have cM:=zH E.bobj (cX z);have o9:cX z<Lu z:=af
  have X:=l.bd _ hd;have bO:=s.pr _ hd;rw[dp o9]at X;rw[dp hd]at X bO;rcases rV.get cB (d:=cX z) (by rw[T.len];exact hd)with ⟨R,G⟩|⟨o,cap,y,R,G⟩
  .rw[R]at cM;simp only[Z3,seval,-ae,hd,r1,cM];exact hk _ z ⟨w,a,by rw[J]⟩ l (λ_=>G) U
  .rw[R]at cM;obtain⟨H,y2⟩:=T.row _ _ G;have ew:Lp .i64 (O[cX z] - z[cX z])=O[cX z] - z[cX z]:=WE;simp only[Z3,seval,-ae,hd,r0,r1,cM,Z,zN,gi hd,gi o9,ew];refine zAN s F E.pg V (by rw[Yk];exact H.mono (YV _)) ⟨DF,_,by rw[H.len]⟩ af λv1 f1=>?_;simp only[Z3,seval,-ae,hd,r0,r1,cM,Z];have g1:gS O (Grp.pw (gm O P C) (zv O) y (O[cX z] - z[cX z]).toNat):=F.g.pw (H.mono (YV _)) _;refine Z7 s F E.pg V (by rw[Yk];exact g1) (by rw[Yk];exact l) f1 ⟨w,a,by rw[J]⟩ λv2 f2=>?_;have I:=zN7 s F hC hd (zGS l) H y2;rw[dp hd,dp o9]at I;have Y:gS O (mu O P C (Lu O) (Grp.pw (mu O P C (Lu O)) (zv O) y (O[cX z] - z[cX z]).toNat) z):=F.g.cl g1 l;have cU:at_ z (cX z)≠0:=ZJ af;have AZ:CJ O P C D x (mu O P C (Lu O) (Grp.pw (mu O P C (Lu O)) (zv O) y (O[cX z] - z[cX z]).toNat) z):=U.trans (CJ.stepL s F hC T G hd (zGS l) cU I);have jQ:TT O (cX z+1) (mu O P C (Lu O) (Grp.pw (mu O P C (Lu O)) (zv O) y (O[cX z] - z[cX z]).toNat) z):=I;generalize mu O P C (Lu O) (Grp.pw (mu O P C (Lu O)) (zv O) y (O[cX z] - z[cX z]).toNat) z=z' at *
   have aG:=zAJ jQ af;have W:=Y.len;have h0:z'[cX z]'(by omega)=0:=by
    have:=jQ.zero (cX z) (YM _)
    rwa[dp af]at this
   obtain⟨w2,a2,rfl⟩:=f2;simp only[Z3,seval,-ae,W,hd,zN,gi (show cX z<(Lu z') by omega),h0];refine zAp W.symm af ?_;refine Lk ?_;exact⟨_,af,z',w2,a2,rfl,rfl,Y,AZ⟩
 .have fS:cX z=Lu O:=by have:=Qg z;omega
  simp only[Z3,seval,-ae,fS,Uh];exact hk _ z ⟨w,a,by rw[J]⟩ l (λh=>af) U
end
section
variable{b:V1}{D:List (Option V1)}{sb:Nat}
def cT.self{rb:List PV}{h:cg}(l:σ.bt sb=Dc rb)(k:cT σ h):cT (σ.set sb rb) h:=⟨k.aM,k.top,λt E=>by
 rw[k.bt t E,zG];split
 .rename_i e;rw[e];exact l
 .rfl⟩
def Gh.finB{σ0 σ1:cg}{rb:List PV}{v:PV}(G:sb<σ0.aM)(E:cT (σ0.set sb rb) σ1)(H:hZ 0 rb)(I:Bel σ0.aM v)(k:K v (σ0.set sb rb)):Gh σ0 K v σ1:=λw=>
 Gh.cut (σ2:=σ0.set sb rb) rfl E.top (λt cs h=>by
  have l:t<σ0.aM:=by
   rw[zG]at h;split at h
   .rename_i e;rw[e];exact G
   .exact w.lt h
  refine⟨l,by rw[E.bt t l];exact h,?_⟩;rw[zG]at h;split at h
  .cases h;exact .inr (H.up (YV _))
  .exact .inl h) I k w
def ZI(s:jl O P C)(F:Full O P C (Lu O))(hs:jh σ sp vO vP vC)(T:dU vO vP vC O P C)(E:gS O x)(U:gS O y)(V:FI vx x)(Z:FI vy y)(hk:∀v,FI v (dM O P C x y)->K v σ):
  zA Li 85 [.ptr sp 0,vx,vy] σ K:=by
 have G:=F.g;have up:∀{z:V1},gS O z->TT O (Lu O-Lu O) z:=λh=>by rw[Yk];exact h
 have l:∀{z:V1},TT O (Lu O-Lu O) z->gS O z:=λh=>by rw[Yk]at h;exact h
 refine Lg Tryz.func85 ?_;refine Lk ?_;refine zEX s F hs T (up E) V λv1 J H W f1=>?_;refine Lk ?_;refine zAq s F hs T (up E) (up U) V Z λv2 R I e2 f2=>?_;refine Lk ?_;refine Z7 s F hs T H I f1 f2 λv3 X=>?_;refine Lk ?_;have e:mu O P C (Lu O) J R=dM O P C x y:=by
  refine G.com_eq E U (G.cl (l H) (l I)) ?_;have i1:J=la (gS O) (gm O P C) (zv O) x:=G.inv_eq E (l H) W;show gm O P C (gm O P C y x) (gm O P C J R)=gm O P C x y;have Y:gm O P C x (gm O P C J R)=R:=by rw[<-G.as E (l H) (l I),show gm O P C x J=zv O from W,G.l1 (l I)]
  rw[G.as U E (G.cl (l H) (l I)),Y];exact e2
 rw[e]at X;exact hk v3 X
def zPs(s:jl O P C)(F:Full O P C (Lu O))(hC:sc O C)(hp:∀o∈O,jF o)(hq:C6 σ ss sb sp (Lu O) rb vO vP vC)(hR:dU vO vP vC O P C)(hD:OkD O D)(cB:dd (rV (Lu O)) rb D)(Nt:QI O P C D [])(hL:jj vL L)(hg:∀x∈L,gS O x)(CV:(Lu L)<=1000000)
  (hk:∀(t:Bool) G D',dd (rV (Lu O)) G D'->OkD O D'->QI O P C D' []->(∀N,gB O P C N->(InD N D'↔(InD N D/\∀q∈L,N q)))->free D'<=free D->(t=DF->free D'<free D)->K (.bool t) (σ.set sb G)):
  zA Li 228 [.ptr ss 0,vL] σ K:=by
 have aX:=s.le;have MJ:=zE9 D;rw[hD.len]at MJ;have a1:=F.g;have up:∀{z:V1},gS O z->TT O (Lu O-Lu O) z:=λh=>by rw[Yk];exact h
 obtain⟨wl,al,rl,rfl,bp⟩:=hL;have aJ:=hR;obtain⟨⟨w0,a0,rfl⟩,_,_⟩:=hR;refine zA.gh ?_;refine qH mix Tryz.func228 ?_;refine Lk ?_;refine zKl bp.1 (bp.bI 0) af λI J k1 q1=>?_;refine Lk ?_;refine zF (λm vs h'=>∃g Q I G D' rq,m=10*free D'+Lu Q/\vs=[.ptr ss 0,.bool g,I]/\cT (σ.set sb G) h'/\PQ σ.aM h' I (Lu Q) rq/\dd FI rq Q/\(∀x∈Q,gS O x)/\dd (rV (Lu O)) G D'/\OkD O D'/\QI O P C D' Q/\(∀N,gB O P C N->((InD N D'/\∀q∈Q,N q)↔(InD N D/\∀q∈L,N q)))/\free D'<=free D/\(g=DF->free D'<free D)/\Lu Q+10*free D'<=Lu L+10*free D) (10*free D+Lu L) ?_ ?_
 .exact⟨false,L,I,rb,D,rl,rfl,rfl,cT.self hq.bobj k1,q1,bp,hg,cB,hD,Nt.mem (λq hq=>by cases hq),λN _=>Iff.rfl,na _,aK,na _⟩
 clear k1 q1 I J
 as_aux_lemma=>
 rintro m vs h' ⟨g,Q,I,G,D',rq,rfl,rfl,ar,xc,px,Ii,W,R,Gd,hS,Ip,Io,V⟩
 have aT:=(hq.setB G).cf ar;cases Q with
 |nil=>
  have hlen:mo I=Dc (.int .i64 0):=xc.mo;simp only[Z3,seval,-ae,hlen];exact Gh.finB hq.blt ar (rV.bels W 0) trivial (hk g G D' W R Gd (λN l=>⟨λh=>(hS N l).1 ⟨h,λq hq=>(by cases hq)⟩,λh=>((hS N l).2 h).1⟩) Ip Io)
 |cons x Q=>
  have hlen:=xc.mo;obtain⟨c,T,rfl,hc,mH⟩:∃c T,rq=c::T/\FI c x/\dd FI T Q:=by
   cases rq with
   |nil=>exact absurd px.1 aK
   |cons c T=>exact⟨c,T,rfl,px.2 0 c x rfl rfl,⟨by simpa using px.1,λk a b ha V=>px.2 (k+1) a b (by simpa using ha) (by simpa using V)⟩⟩
  obtain⟨sq,off,cap,fE,rfl,cM,aL,mG,pB⟩:=xc.uncons;have sI:=hc;obtain⟨w4,a4,rfl⟩:=hc;have hx:=Ii x aK;have Ax:∀q∈Q,gS O q:=λq hq=>Ii q (Yt _ hq);have FO:=zE9 D';rw[R.len]at FO;simp only[Yu]at hlen mG pB aL V ⊢;have kx:(0:Int)<((Lu Q+1:Nat):Int):=af
  rw[Nat.add_sub_cancel]at pB;simp only[Z3,seval,-ae,hlen,kx,aL,cM,mG];refine zRa s F hC aT aJ R W hx sI λvz z fz Y dH dh=>?_;obtain⟨wz,az,rfl⟩:=fz;have dG:=Y.len;simp only[Z3,seval,-ae,hlen,kx,aL,cM,mG];refine zAp rfl af ?_;by_cases hd:cX z<Lu O;rotate_left
  .have fS:cX z=Lu O:=by have:=Qg z;omega
   have cU:=zTH Y af;simp only[Z3,seval,-ae,dG,fS];refine⟨_,?_,g,Q,fE,G,D',T,rfl,rfl,ar,pB,mH,Ax,W,R,Gd.drop (by rw[<-cU];exact dh),λN l=>?_,Ip,Io,af⟩
   .omega
   .rw[<-hS N l];refine⟨λ⟨J,H⟩=>⟨J,λq hq=>?_⟩,λ⟨J,H⟩=>⟨J,λq hq=>H q (Yt _ hq)⟩⟩;rcases YH.1 hq with rfl|hq
    .rw[dh.iff F l J,cU];exact l.one
    .exact H q hq
  have o9:cX z<Lu z:=af
  have IH:=hp _ (YZ hd);have bO:=IH.bd;have bz:=Y.bd _ hd;have nz:=ZJ o9;rw[dp o9]at bz nz;rw[dp hd]at bz;have fS:((cX z:Int)=(Lu z:Int))=False:=by simp;omega
  have rr:∀{h:cg},C6 h ss sb sp (Lu O) G (.fz w0 a0 (Lu O) (cS O)) vP vC->h.dR ss 0=Dc (.ptr sp 0)/\h.dR ss 1=Dc (.sl sb 0 (Lu O) (.b6 (Lu O)))/\h.dR sp 0=Dc (.fz w0 a0 (Lu O) (cS O)):=λq=>⟨by rw[zH q.bt];rfl,by rw[zH q.bt];rfl,by rw[zH q.pg.bt];rfl⟩
  obtain⟨r0,r1,e0⟩:=rr aT;simp only[Z3,seval,-ae,hd,fS,r0,e0,zN,gi o9,gi hd,o9];refine zDx IH ⟨af,bz.2⟩ λq qb q1 q2 q3=>?_;simp only[Z3,seval,-ae,hd,fS,r0,e0,zN,gi o9,gi hd,o9];refine PQ.push (bytes:=24) (σb:=σ.set sb G) ar pB af af λv1 J k1 p1=>?_;have uq:=(hq.setB G).cf k1;obtain⟨s0,s1,f0⟩:=rr uq;simp only[Z3,seval,-ae,s0,s1,f0];refine zQL s F af uq.pg aJ Y ⟨wz,az,rfl⟩ (k:=q) af λoy ov=>?_;obtain⟨y1,y2⟩:=zE0 s F hC hd (zGS Y) q.toNat;have oF:at_ (Grp.pw (gm O P C) (zv O) z q.toNat) (cX z)=1:=by
   rw[y2,dp o9,dp hd,YD q1,UN];exact q3
  have Nz:∀N,gB O P C N->N z->N (Grp.pw (gm O P C) (zv O) z q.toNat):=λN l h=>l.pw h _;generalize Grp.pw (gm O P C) (zv O) z q.toNat=y at *
  have yS:gS O y:=y1.mono (YV _);have gJ:=yS.len;simp only[Z3,seval,-ae,s0,s1,f0,zN,gi hd,hd];refine zAN s F uq.pg aJ (up yS) ⟨DF,.sl oy 0 (Lu O) ov,by rw[gJ]⟩ (k:=O[cX z]) af λvo fo=>?_;have N6:=fo;obtain⟨wo,ao,rfl⟩:=fo;simp only[Z3,seval,-ae,s0,s1,f0,zN,gi hd,hd];refine PQ.push (bytes:=24) (σb:=σ.set sb G) k1 p1 af af λv2 H k2 p2=>?_;have sy:=(hq.setB G).cf k2;obtain⟨t0,t1,g0⟩:=rr sy;have N2:gS O (Grp.pw (gm O P C) (zv O) y O[cX z].toNat):=a1.pw yS _;have Bt:FI (.fz wz az (Lu z) (cS z)) z:=⟨wz,az,rfl⟩;have EI:dd FI ((T++[.fz wz az (Lu z) (cS z)])++[.fz wo ao _ (cS (Grp.pw (gm O P C) (zv O) y O[cX z].toNat))]) ((Q++[z])++[Grp.pw (gm O P C) (zv O) y O[cX z].toNat]):=(mH.snoc Bt).snoc N6;have FH:∀q∈(Q++[z])++[Grp.pw (gm O P C) (zv O) y O[cX z].toNat],gS O q:=λq hq=>by
   rcases YY.1 hq with hq|hq
   .rcases YY.1 hq with hq|hq
    .exact Ax q hq
    .rw[YT.1 hq];exact Y
   .rw[YT.1 hq];exact N2
  simp only[Z3,seval,-ae,t0,t1,g0];generalize ve:(Q++[z])++[Grp.pw (gm O P C) (zv O) y O[cX z].toNat]=Q2 at *
  have Gf:(Lu Q2)=Lu Q+1+1:=by rw[<-ve];simp
  have Mb:z∈Q2:=by rw[<-ve];simp
  have Mc:∀q∈Q,q∈Q2:=λq hq=>by rw[<-ve];simp[hq]
  have Ai:Grp.pw (gm O P C) (zv O) y O[cX z].toNat∈Q2:=by rw[<-ve];simp
  have AY:∀N,gB O P C N->N y->((∀q∈Q2,N q)↔(∀q∈Q,N q)/\N z):=λN l hy=>by
   rw[<-ve];refine⟨λh=>⟨λq hq=>h q (by simp[hq]),h z aK⟩,λ⟨U,h4⟩ q hq=>?_⟩;rcases YY.1 hq with hq|hq
   .rcases YY.1 hq with hq|hq
    .exact U q hq
    .rw[YT.1 hq];exact h4
   .rw[YT.1 hq];exact l.pw hy _
  generalize (T++[PV.fz wz az (Lu z) (cS z)])++[.fz wo ao _ (cS (Grp.pw (gm O P C) (zv O) y O[cX z].toNat))]=Py at *
  rw[<-Gf]at p2;refine zF (λm us U=>∃(i:Nat) (I:PV) (E:V2) (re:List PV),i<=Lu O/\m=Lu O-i/\us=[.ptr ss 0,.bool DF,I,.fz DF (.sl oy 0 (Lu O) ov) (Lu O) (cS y),.int .i64 (cX z),.sl sb 0 (Lu O) (.b6 (Lu O)),.int .i64 (Lu O),.int .i64 i]/\cT (σ.set sb G) U/\PQ σ.aM U I (Q2++E).length re/\dd FI re (Q2++E)/\(∀q∈E,gS O q)/\Lu E<=i/\(∀(e:Nat) (b:V1),e<i->D'[e]? = Dc (Dc b)->dM O P C b y∈E)/\∀N,gB O P C N->InD N D'->N y->∀q∈E,N q) (Lu O) ?_ ?_
  .exact⟨0,v2,[],_,af,af,rfl,k2,by rw[Ye];exact p2,by rw[Ye];exact EI,λq hq=>(by cases hq),na _,λe b h=>(by omega),λN _ _ _ q hq=>(by cases hq)⟩
  clear k2 p2 v2 H sy t0 t1 g0
  as_aux_lemma=>
  rintro m us U ⟨i,I,E,re,hi,rfl,rfl,Z,p3,yR,FJ,A7,F3,Gl⟩
  have mL:=(hq.setB G).cf Z;obtain⟨t0,t1,g0⟩:=rr mL;refine Lk ?_;refine Ll (λaG=>?_) λah=>?_
  .have uW:cX z<Lu G:=by rw[W.1,R.len];exact hd
   have oH:U.wr sb (cX z) [.fz DF (.sl oy 0 (Lu O) ov) (Lu O) (cS y)]=Dc (U.set sb (G.set (cX z) (.fz DF (.sl oy 0 (Lu O) ov) (Lu O) (cS y)))):=by
    rw[zR mL.bobj,DK ⟨by rw[Yb];omega,rfl⟩,Yv,US,Yb,take_set _ uW]
   simp only[Z3,seval,-ae,t1,hd,oH];have mP:D'[cX z]? = Dc none:=dH hd;have kF:=zJ8 (y:=y) mP;refine⟨_,?_,DF,Q2++E,I,_,D'.set (cX z) (Dc y),re,rfl,rfl,?_,?_,yR,?_,rV.put (o:=oy) (cap:=ov) W,R.put hd y1 oF,Gd.put dh mP (by simp[Mb]) (λq hq=>by simp[Mc q hq]) (by rw[dp hd];simp[Ai]) (λe b V=>.inl (by
    have:=F3 e b (by
     rcases YG e (Lu D') with h|h
     .have:=R.len;omega
     .rw[Yq h]at V;cases V) V
    simp[this])),λN l=>?_,af,λ_=>af,?_⟩
   .simp only[YB];omega
   .exact⟨Z.aM,Z.top,λt ht=>by
     rw[zG,zG];split
     .rfl
     .rename_i e
      have:=Z.bt t ht
      rw[zG,DL e]at this;exact this⟩
   .exact p3.set hq.blt _
   .intro q hq;rcases YY.1 hq with hq|hq
    .exact FH q hq
    .exact FJ q hq
   .rw[<-hS N l,InD.put mP];constructor
    .rintro⟨⟨X,g2⟩,g3⟩
     obtain⟨g4,g5⟩:=(AY N l g2).1 λq hq=>g3 q (by simp[hq]);refine⟨X,λq hq=>?_⟩;rcases YH.1 hq with rfl|hq
     .exact(dh.iff F l X).2 g5
     .exact g4 q hq
    .rintro⟨X,g2⟩
     have I6:=(dh.iff F l X).1 (g2 x aK);have gy:=Nz N l I6;refine⟨⟨X,gy⟩,λq hq=>?_⟩;rcases YY.1 hq with hq|hq
     .exact(AY N l gy).2 ⟨λq hq=>g2 q (Yt _ hq),I6⟩ q hq
     .exact Gl N l X gy q hq
   .simp only[YB];omega
  have aq:i<Lu O:=af
  have iI:=zH mL.bobj i;rcases rV.get W (d:=i) (by rw[R.len];exact aq)with ⟨e1,e2⟩|⟨oo,cap,b,e1,e2⟩
  .rw[e1]at iI;simp only[Z3,seval,-ae,aq,iI,WX aq];refine⟨_,af,i+1,I,E,re,af,rfl,rfl,Z,p3,yR,FJ,af,λe b J H=>?_,Gl⟩;rcases YG e i with h|h
   .exact F3 e b h H
   .rw[show e=i by omega,e2]at H;cases H
  .rw[e1]at iI;have bS:gS O b:=(R.row _ _ e2).1.mono (YV _);simp only[Z3,seval,-ae,aq,iI,t0];refine ZI s F mL.pg aJ bS yS ⟨DF,_,by rw[bS.len]⟩ ⟨DF,_,by rw[gJ]⟩ λvc fc=>?_;have GO:=fc;obtain⟨wc,ac,rfl⟩:=fc;refine Lk ?_;refine PQ.push (bytes:=24) (σb:=σ.set sb G) Z p3 (by rw[YB];omega) (by rw[YB];omega) λv4 h4 k4 p4=>?_;simp only[Z3,seval,-ae,WX aq];refine⟨_,af,i+1,v4,E++[dM O P C b y],re++[.fz wc ac (dM O P C b y).length (cS (dM O P C b y))],af,rfl,rfl,k4,?_,?_,?_,?_,?_,?_⟩;rotate_left
   .rw[<-Yv];exact yR.snoc GO
   .intro q hq;rcases YY.1 hq with hq|hq
    .exact FJ q hq
    .rw[YT.1 hq];exact a1.com_in bS yS
   .simp;omega
   .intro e b' J H;rcases YG e i with h|h
    .simp[F3 e b' h H]
    .rw[show e=i by omega,e2]at H;cases H;simp
   .intro N l IT hy q hq;rcases YY.1 hq with hq|hq
    .exact Gl N l IT hy q hq
    .rw[YT.1 hq];exact l.com_in (IT _ _ e2) hy
   .rw[<-Yv,YB,Yb];exact p4
end
section
variable{b:V1}
def Ones(O:V1)(u:V2):Prop:=∀v∈u,gS O v/\cX v<Lu O/\at_ v (cX v)=1
def zQr{o z:Int}(E:2<=o)(G:0<=z/\z<o)(l:z≠0):((o-(z+1) % o) % o).toNat<((o-z) % o).toNat:=by
 have e:(o-z) % o=o-z:=Ys af af;rw[e];by_cases h:z+1=o
 .rw[h,Int.emod_self,Int.sub_zero,Int.emod_self];omega
 .rw[Ys (a:=z+1) af af,Ys af af];omega
def zFF(s:jl O P C)(F:Full O P C (Lu O))(hC:sc O C)(hn:0<Lu O)(hs:jh σ sp vO vP vC)(hR:dU vO vP vC O P C)(hU:jj vU u)(U:Ones O u)(lE:u.Pairwise λa b=>cX a<cX b)(dT:(Lu u)<=1000)(hx:gS O x)(bm:FI vx x)
  (H:∀o cap z,gS O z->(∀t,(∀v∈u,t<cX v)->∀j,j<=t->at_ z j=at_ x j)->(∀v∈u,at_ z (cX v)=0)->(∀N,gB O P C N->(∀v∈u,N v)->(N x↔N z))->K (.fz DF (.sl o 0 (Lu O) cap) (Lu O) (cS z)) σ):
  zA Li 253 [.ptr sp 0,vU,vx] σ K:=by
 have aX:=s.le;have Z:=hx.len;have dZ:=hs.lt;obtain⟨wx,ax,rfl⟩:=bm;have xw:=hU;obtain⟨wl,al,rl,rfl,bp⟩:=hU;refine Lh Tryz.func253 ?_;refine Lk ?_;refine Z9 rfl af ⟨λG=>absurd Z (by rw[G];simp;omega),λcap Y=>?_⟩;rw[Z]at Y ⊢;refine Lk ?_;refine zID xw (λv T=>⟨by rw[(U v T).1.len];exact(U v T).2.1,by rw[(U v T).1.len];omega⟩) af λvp=>?_;refine Lk ?_;refine zF (λm vs h'=>∃(i:Nat) (z:V1),i<=Lu u/\m=Lu u-i/\vs=[.ptr sp 0,.fz wl al (Lu u) rl,.sl σ.aM 0 (Lu O) cap,.fz DF vp (Lu u) (cS (Co u)),.int .i64 (Lu u),.int .i64 i]/\h'=σ.bf (cS z)/\gS O z/\(∀t,(∀v∈u,t<cX v)->∀j,j<=t->at_ z j=at_ x j)/\(∀k (H:k<Lu u),k<i->at_ z (cX u[k])=0)/\(∀N,gB O P C N->(∀v∈u,N v)->(N x↔N z))) (Lu u) ⟨0,x,af,af,rfl,rfl,hx,λ_ _ _ _=>rfl,λk _ h=>af,λ_ _ _=>Iff.rfl⟩ ?_
 rintro m vs h' ⟨i,z,hi,rfl,rfl,rfl,l,R,G,J⟩
 refine Lk ?_;refine Ll (λaG=>?_) λE=>?_
 .exact Gh.finF (zC σ _) (by simp only[Z3,seval,-ae]) (na _) (zL _ _) Y.ok λo=>H o cap z l R (λv T=>by
   obtain⟨k,I,rfl⟩:=YR.1 T;exact G k I af) J
 obtain⟨w4,a4,hr⟩:=bp.rowI E;obtain⟨u1,u2,u3⟩:=U _ (YZ E);have V:u[i]∈u:=YZ E;have E3:(Co u)[i]? = Dc (cX u[i]:Int):=by simp[Co,E]
 simp only[Z3,seval,-ae,E,zN,E3];refine zF (λm vs h'=>∃(z:V1),m=((at_ O (cX u[i])-at_ z (cX u[i])) % at_ O (cX u[i])).toNat/\vs=[.ptr sp 0,.fz wl al (Lu u) rl,.sl σ.aM 0 (Lu O) cap,.int .i64 i,.int .i64 (cX u[i]),.fz DF vp (Lu u) (cS (Co u)),.int .i64 (Lu u),.int .i64 i]/\h'=σ.bf (cS z)/\gS O z/\(∀t,(∀v∈u,t<cX v)->∀j,j<=t->at_ z j=at_ x j)/\(∀k (H:k<Lu u),k<i->at_ z (cX u[k])=0)/\(∀N,gB O P C N->(∀v∈u,N v)->(N x↔N z))) _ ⟨z,rfl,rfl,rfl,l,R,G,J⟩ ?_;clear l R J G z
 rintro m vs h' ⟨z,rfl,rfl,rfl,l,R,G,J⟩
 have dG:=l.len;have o9:cX u[i] < (Lu z):=af
 have bz:=l.bd _ u2;have bO:=s.pr _ u2;simp only[Z3,seval,-ae,u2,gd o9];refine de (λheq=>?_) λmQ=>?_
 .simp only[Z3,seval,-ae,WX E];refine⟨_,af,i+1,z,af,rfl,rfl,rfl,l,R,λk I H=>?_,J⟩;rcases YG k i with h|h
  .exact G k I h
  .have e:k=i:=af
   subst e;exact heq
 .obtain⟨g1,g2,g3⟩:=zQB s F hC u2 l (zGS u1) u3;simp only[Z3,seval,-ae,E,hr];refine Q0 s F (hs.bf _) hR (x:=z) (by simp only[Z3,seval,-ae]) (by simp only[Z3,seval,-ae]) af Y (by rw[Yk];exact l) (by rw[Yk];exact u1) ⟨w4,a4,rfl⟩ ?_;refine Lk ?_;refine⟨_,?_,_,rfl,rfl,g1,λt ht j uL=>?_,λk I H=>?_,λN W X=>(J N W X).trans ⟨λh=>W.cl h (X _ V),λh=>W.quotR F.g (X _ V) l h⟩⟩
  .show((at_ O (cX u[i])-at_ (gm O P C z u[i]) (cX u[i])) % at_ O (cX u[i])).toNat<_
   rw[g3];exact zQr bO.1 bz mQ
  .show at_ (gm O P C z u[i]) j=_;rw[g2 j (by have:=ht _ V;omega)];exact R t ht j uL
  .show at_ (gm O P C z u[i]) (cX u[k])=0;rw[g2 _ (List.pairwise_iff_getElem.1 lE k i I E H)];exact G k I H
end
section
variable{M:List (List PV)}
def FC(v:PV)(cs:List PV):Prop:=∃w a,v=.fz w a (Lu cs) cs
def RoomC(σ h:cg)(v:PV):Prop:=∃s cs,v=.sl s 0 0 (.grown 1)/\h.bt s=Dc cs/\σ.aM<=s/\s<h.aM
def zRQ{c:Nat}(U:c<=1048576)(l:∀v h,cT σ h->(ei σ.aM 1 h v 0 []\/(0<c/\RoomC σ h v))->K v h):zA Li 231 [Ln,.int .i64 c] σ K:=by
 have I:¬(c:Int)<0:=af
 have J:Lp .i64 ((0:Int)-((0:Nat):Int))=0:=rfl;have R:Lp .i64 ((c:Int)-0)=(c:Int):=WQ
 have T:pslA 1 .b8 0 0=.b8:=rfl;refine Lg Tryz.func231 ?_;simp only[Z3,seval,-ae,I,J,R];by_cases H:c=0
 .subst H;refine Lk ?_;exact l _ _ (cT.refl σ) (.inl (ei.nil _ _ _))
 .have aL:(0:Int)<(c:Int):=af
  have G:(c:Int)*((24:Nat):Int)<=140737488355328:=af
  have E:(c:Int)<=4611686018427387904:=af
  simp only[Z3,seval,-ae,aL,G,E,T,zh,YV];exact l _ _ (zC σ _) (.inr ⟨af,_,_,rfl,by rw[zI,DK rfl],na _,YM _⟩)
def zAm{i:Nat}(h:i<Lu M):(M.take (i+1)).flatten=(M.take i).flatten++M[i]:=by
 rw[YN h,KS];simp
def zDg(M:List (List PV))(i:Nat):(M.take i).flatten.length<=Lu M.flatten:=by
 have:(Lu M.flatten)=(M.take i).flatten.length+(M.drop i).flatten.length:=by
  rw[<-YB,<-KS,List.take_append_drop]
 omega
def zNx{Y:Bool}{U:AV}{R:List PV}(HW:dd FC R M)(MZ:∀c∈M,hZ 0 c)(gK:(Lu M)<=1048576)(hb:(Lu M.flatten)<=1048576)(hk:∀a,K (.fz DF a (Lu M.flatten) M.flatten) σ):zA Li 193 [.fz Y U (Lu M) R] σ K:=by
 have MY:hZ 0 M.flatten:=zBD.2 λc hc=>by
  obtain⟨l,hl,hc⟩:=List.mem_flatten.1 hc;exact zBD.1 (MZ l hl) c hc
 refine Lh Tryz.func193 ?_;refine Lk ?_;refine zF (λm T h'=>∃i:Nat,i<=Lu M/\m=Lu M-i/\T=[.fz Y U (Lu M) R,.int .i64 (M.take i).flatten.length,.fz Y U (Lu M) R,.int .i64 (Lu M),.int .i64 i]/\σ=h') (Lu M) ?_ ?_
 .exact⟨0,af,af,rfl,rfl⟩
 rintro m T h' ⟨i,hi,rfl,rfl,rfl⟩
 have AA:=zDg M i;refine Lk ?_;refine de (λE=>?_) λaG=>?_
 .obtain⟨_,hr,w4,Z,rfl⟩:=HW.get E;have FM:=zDg M (i+1);have e:=congrArg F6 (zAm E);rw[YB]at e;have ew:Lp .i64 (((M.take i).flatten.length:Int)+(M[i].length:Int))=(((M.take i).flatten.length+M[i].length:Nat):Int):=WQ
  have xf:¬(((M.take i).flatten.length+M[i].length:Nat):Int)<0:=af
  simp only[Z3,seval,-ae,E,hr,ew,xf,WX E];refine⟨_,af,i+1,af,rfl,?_⟩;rw[e]
 have aU:i=Lu M:=af
 subst aU;rw[Yf];refine Lk ?_;refine zRQ af λv0 h0 ez iH=>?_;refine Lk ?_;refine zF (λm T h'=>∃(i:Nat) (X:PV),i<=Lu M/\m=Lu M-i/\T=[X,.fz Y U (Lu M) R,.int .i64 (Lu M),.int .i64 i]/\cT σ h'/\(ei σ.aM 1 h' X (M.take i).flatten.length (M.take i).flatten\/((M.take i).flatten=[]/\0<Lu M.flatten/\RoomC σ h' X))) (Lu M) ?_ ?_
 .exact⟨0,v0,af,af,rfl,ez,iH.imp (λh=>h) λh=>⟨rfl,h⟩⟩
 clear hi aG AA ez iH v0 h0
 rintro m T h' ⟨i,X,hi,rfl,rfl,J,H⟩
 have AA:=zDg M i;refine Lk ?_;refine Ll (λaG=>?_) λE=>?_
 .have aU:i=Lu M:=af
  subst aU;rw[Yf]at H;rcases H with H|⟨V,G,_⟩
  .exact H.fin J MY λa=>hk _
  .rw[V]at G;cases G
 obtain⟨_,hr,w4,Z,rfl⟩:=HW.get E;have FM:=zDg M (i+1);have e:=congrArg F6 (zAm E);rw[YB]at e;simp only[Z3,seval,-ae,E,hr];have cb:∀I G,cT σ G->(ei σ.aM 1 G I ((M.take i).flatten.length+M[i].length) ((M.take i).flatten++M[i])\/((M.take (i+1)).flatten=[]/\0<Lu M.flatten/\RoomC σ G I))->(ei σ.aM 1 G I (M.take (i+1)).flatten.length (M.take (i+1)).flatten\/((M.take (i+1)).flatten=[]/\0<Lu M.flatten/\RoomC σ G I)):=λI G k h=>h.imp (λh=>by rwa[e,zAm E]) λh=>h;rcases H with H|⟨V,G,s,cs,rfl,ho,dr,ja⟩
 .refine ei.cat (σb:=σ) (bytes:=24) J H rfl af af λI G k2 a2=>?_;simp only[Z3,seval,-ae,WX E];exact⟨_,af,i+1,I,af,rfl,rfl,k2,cb _ _ k2 (.inl a2)⟩
 .by_cases W:M[i].length=0
  .have ef:M[i]=[]:=YU W;have fU:qL 1 24 h' (.sl s 0 0 (.grown 1)) (.fz w4 Z M[i].length M[i])=Dc (.sl s 0 0 (.grown 1),h'):=by
    rw[ZZ,zC6,YP,DK W];rfl
   simp only[Z3,seval,-ae,fU,WX E];refine⟨_,af,i+1,_,af,rfl,rfl,J,.inr ⟨by rw[zAm E,V,ef];rfl,G,s,cs,rfl,ho,dr,ja⟩⟩
  .have fU:qL 1 24 h' (.sl s 0 0 (.grown 1)) (.fz w4 Z M[i].length M[i])=Dc (.sl h'.aM 0 M[i].length (.grown 1),(h'.kill s).bf M[i]):=by
    rw[ZZ,zC6,YP,DL W,zCX,DL W,DK ⟨na _,af,af⟩,YP,zBE,DK ⟨af,af,rfl⟩,ho,YP,DK af];rw[EC,E1,UT,Yl,Fe,YS (na _),Y5]
   simp only[Z3,seval,-ae,fU,WX E];refine⟨_,af,i+1,_,af,rfl,rfl,(J.kill dr).bf _,.inl ?_⟩;rw[zAm E,V,Yl];exact(eA.own (.inl rfl) (by rw[zI];exact DK rfl) af J.aM (YM _)).acc
end
section
variable{b g:V1}{D:List (Option V1)}{sb:Nat}
def zHn(s:jl O P C)(hs:jh σ sp vO vP vC)(E:dU vO vP vC O P C)(G:∀ss sb h',cT σ h'->σ.aM<=ss->σ.aM<=sb->C6 h' ss sb sp (Lu O) (Ep (Lu O) (Ln)) vO vP vC->K (.ptr ss 0) h'):
  zA Li 227 [.ptr sp 0] σ K:=by
 have I:=s.le;have J:=hs.lt;obtain⟨⟨H,h,rfl⟩,_,_⟩:=E;have l:σ.dR sp 0=Dc (.fz H h (Lu O) (cS O)):=by rw[zH hs.bt];rfl
 refine Lg Tryz.func227 ?_;simp only[Z3,seval,-ae,l,mk24 (n:=(Lu O)) af,tn (n:=(Lu O)) af];exact G (σ.aM+1) σ.aM _ ((zC σ _).bf _) af (na _) ⟨by simp only[Z3,seval,-ae],by simp only[Z3,seval,-ae],by simp only[Z3,seval,-ae],by refine Lk ?_;omega,(hs.bf _).bf _,af,af⟩
def zEj(s:jl O P C)(F:Full O P C (Lu O))(hC:sc O C)(T:C6 σ ss sb sp (Lu O) rb vO vP vC)(hR:dU vO vP vC O P C)(Y:OkD O D)(cB:dd (rV (Lu O)) rb D)
  (hk:∀v u,jj v u->CanD O P C D u->K v σ):zA Li 229 [.ptr ss 0] σ K:=by
 have aX:=s.le;have r0:σ.dR ss 0=Dc (.ptr sp 0):=by rw[zH T.bt];rfl
 have r1:σ.dR ss 1=Dc (.sl sb 0 (Lu O) (.b6 (Lu O))):=by rw[zH T.bt];rfl
 have hw:Lp .i64 ((Lu O:Int)-1)=(Lu O:Int)-1:=WE;refine Lh Tryz.func229 ?_;simp only[Z3,seval,-ae,r1,hw];refine Zg (λm vs G=>∃(k:Nat) (vO:PV) (u:V2),k<=Lu O/\m=k/\vs=[.ptr ss 0,vO,.int .i64 ((k:Int)-1)]/\cT σ G/\jj vO u/\Ones O u/\Lu u+k<=Lu O/\(∀v∈u,k<=cX v)/\(u.Pairwise λa b=>cX a<cX b)/\(∀v∈u,∀w∈u,cX v≠cX w->at_ v (cX w)=0)/\(∀(d:Nat) (y:V1),k<=d->D[d]? = Dc (Dc y)->∃v∈u,cX v=d)/\(∀N,gB O P C N->((∀x∈u,N x)↔∀d y,k<=d->D[d]? = Dc (Dc y)->N y))) (Lu O) (.here ⟨(Lu O),_,[],na _,rfl,rfl,cT.refl σ,⟨_,_,_,rfl,dd.nil _⟩,λv hv=>(by cases hv),aK,λv hv=>(by cases hv),List.Pairwise.nil,λv hv=>(by cases hv),λd y E G=>?_,λN Z=>⟨λ_ d y E G=>?_,λ_ x hx=>(by cases hx)⟩⟩) ?_
 .rw[Yq (by rw[Y.len];exact E)]at G;cases G
 .rw[Yq (by rw[Y.len];exact E)]at G;cases G
 rintro m vs G ⟨k,vU,u,bM,rfl,rfl,H,U,hu,dT,V,lE,ud,nO,Z⟩
 rcases F4 m with rfl|Ai
 .simp only[Z3,seval,-ae,show ¬((0:Int)<=((0:Nat):Int)-1) by omega];exact Gh.fin0 H (U.bel _) (hk vU u U ⟨hu,lE,ud,λd y l=>nO d y (YV _) l,af,λN E=>(Z N E).trans ⟨λh d y l=>h d y (YV _) l,λh d y _ l=>h d y l⟩⟩)
 obtain⟨k,rfl⟩:∃k,m=k+1:=⟨m-1,af⟩
 have e:((k+1:Nat):Int)-1=(k:Int):=af
 have gQ:k<Lu O:=bM;have W:=zH (T.cf H).bobj k;have Kz:G.dR ss 0=Dc (.ptr sp 0):=by rw[zH (T.cf H).bt];rfl
 have Cc:G.dR ss 1=Dc (.sl sb 0 (Lu O) (.b6 (Lu O))):=by rw[zH (T.cf H).bt];rfl
 rw[e];have kQ:Lp .i64 ((k:Int)-1)=(k:Int)-1:=WE;rcases rV.get cB (d:=k) (by rw[Y.len];exact gQ)with ⟨e1,J⟩|⟨oo,cap,y,e1,J⟩
 .rw[e1]at W;simp only[Z3,seval,-ae,gQ,Cc,W,kQ];refine⟨_,YM k,.here ⟨k,vU,u,af,rfl,rfl,H,U,hu,af,λv hv=>by have:=V v hv;omega,lE,ud,λd y hd l=>?_,λN E=>(Z N E).trans ⟨λh d y hd l=>?_,λh d y hd l=>h d y af l⟩⟩⟩
  .rcases YG k d with x|x
   .exact nO d y x l
   .rw[show d=k by omega,J]at l;cases l
  rcases YG k d with x|x
  .exact h d y x l
  .rw[show d=k by omega,J]at l;cases l
 .rw[e1]at W;obtain⟨y1,y2⟩:=Y.row _ _ J;have yS:gS O y:=y1.mono (YV _);simp only[Z3,seval,-ae,gQ,Kz,Cc,W,kQ];refine zFF s F hC af (T.cf H).pg hR U hu lE af yS ⟨DF,_,by rw[y1.len]⟩ λoz X z zS z1 z0 z2=>?_;have za:∀j,j<=k->at_ z j=at_ y j:=z1 k λv hv=>V v hv;have zt:TT O k z:=⟨zS.len,zS.bd,λj hj=>by rw[za j af];exact y1.zero j hj⟩
  have zk:at_ z k=1:=by rw[za k (na _)];exact y2
  have dG:=zS.len;have zd:cX z=k:=by
   have E:=zAJ zt af;rcases YG k (cX z)with h|h
   .rw[zn h]at zk;omega
   .omega
  obtain⟨wO,aO,rO,rfl,yV⟩:=U;refine Lk ?_;refine eA.cat (bytes:=24) (σb:=G) (n:=1) (cs:=[.fz DF (.sl oz 0 (Lu O) X) (Lu O) (cS z)]) (zC G _) (eA.bf _ 1 rfl (na _)) yV.1 af af λv3 R k3 a3=>?_;obtain⟨s3,iV,rfl,nN,oJ,CE,uV,bN⟩:=a3;have ai:dd FI ([.fz DF (.sl oz 0 (Lu O) X) (Lu O) (cS z)]++rO) (z::u):=(dd.nil FI |>.snoc (⟨DF,_,by rw[dG]⟩:FI (.fz DF (.sl oz 0 (Lu O) X) (Lu O) (cS z)) z)).append yV;have Mi:=H.aM;simp only[Z3,seval,-ae,kQ];refine⟨k,YM k,.fz s3 _ oJ (ai.bI 0) λo1=>.here ⟨k,.fz DF (.sl o1 0 (1+Lu u) iV) (1+Lu u) ([.fz DF (.sl oz 0 (Lu O) X) (Lu O) (cS z)]++rO),z::u,af,rfl,?_,(H.trans k3).kill af,⟨DF,_,_,by rw[Yu,Ue],ai⟩,?_,by simp;omega,?_,?_,?_,?_,λN E=>?_⟩⟩
  .simp[kq,Go.Ab.sb,nN.ok]
  .intro v hv;rcases YH.1 hv with rfl|hv
   .exact⟨zS,af,by rw[zd];exact zk⟩
   .exact hu v hv
  .intro v hv;rcases YH.1 hv with rfl|hv
   .omega
   .have:=V v hv;omega
  .rw[List.pairwise_cons];exact⟨λv hv=>by have:=V v hv;omega,lE⟩
  .intro v hv w hw an;rcases YH.1 hv with ev|cA
   .rcases YH.1 hw with ew|kQ
    .rw[ev,ew]at an;exact absurd rfl an
    .rw[ev];exact z0 w kQ
   .rcases YH.1 hw with ew|kQ
    .rw[ew];exact zn (by have:=V v cA;omega)
    .exact ud v cA w kQ an
  .intro d y' hd l;rcases YG k d with x|x
   .obtain⟨v,hv,e⟩:=nO d y' x l;exact⟨v,Yt _ hv,e⟩
   .exact⟨z,aK,af⟩
  .have tV:(∀d y,k<=d->D[d]? = Dc (Dc y)->N y)↔(N y/\∀d y,k+1<=d->D[d]? = Dc (Dc y)->N y):=by
    refine⟨λh=>⟨h k y (na _) J,λd y hd l=>h d y af l⟩,λ⟨R,I⟩ d y' hd l=>?_⟩;rcases YG k d with x|x
    .exact I d y' x l
    .rw[show d=k by omega,J]at l;cases l;exact R
   rw[tV,<-Z N E,List.forall_mem_cons];refine⟨λ⟨R,I⟩=>⟨(z2 N E I).2 R,I⟩,λ⟨R,I⟩=>⟨(z2 N E I).1 R,I⟩⟩
noncomputable abbrev gcnj (O:V1) (P:V2) (C:V3) (x g:V1):V1:=cnj (gS O) (gm O P C) (zv O) x g
def zIs(s:jl O P C)(F:Full O P C (Lu O))(hs:jh σ sp vO vP vC)(hR:dU vO vP vC O P C)(hU:jj vU u)(hu:∀x∈u,gS O x)(dT:(Lu u)<=1000)(U:gS O g)(H:FI vg g)(hk:∀v,jj v (u.map λy=>gcnj O P C y g)->K v σ):
  zA Li 230 [.ptr sp 0,vU,vg] σ K:=by
 have up:∀{z:V1},gS O z->TT O (Lu O-Lu O) z:=λh=>by rw[Yk];exact h
 have dn:∀{z:V1},TT O (Lu O-Lu O) z->gS O z:=λh=>by rw[Yk]at h;exact h
 obtain⟨wl,al,rl,rfl,bp⟩:=hU;have V:=H;obtain⟨wg,ag,rfl⟩:=H;refine Lh Tryz.func230 ?_;refine Lk ?_;refine zF (λm vs h'=>∃(i:Nat) (v:PV) (rows:List PV),i<=Lu u/\m=Lu u-i/\vs=[.ptr sp 0,.fz wg ag (Lu g) (cS g),v,.fz wl al (Lu u) rl,.int .i64 (Lu u),.int .i64 i]/\cT σ h'/\ei σ.aM 1 h' v i rows/\dd FI rows ((u.take i).map λy=>gcnj O P C y g)) (Lu u) ?_ ?_
 .exact⟨0,_,[],af,af,rfl,cT.refl σ,ei.nil _ _ _,by simpa using dd.nil _⟩
 rintro m vs h' ⟨i,v,rows,hi,rfl,rfl,G,T,E⟩
 refine Lk ?_;refine Ll (λaG=>?_) λl=>?_
 .have aU:i=Lu u:=af
  subst aU;rw[Yf]at E;exact T.fin G (E.bI 0) λa=>hk _ ⟨DF,a,rows,by rw[YF],E⟩
 obtain⟨w4,Z,hr⟩:=bp.rowI l;have I:=hu _ (YZ l);simp only[Z3,seval,-ae,l,hr];refine zAq s F (hs.cf G) hR (up I) (up U) ⟨w4,Z,rfl⟩ V λv1 z h1 R J=>?_;obtain rfl:z=gcnj O P C u[i] g:=F.g.cnj_eq I U (dn h1) R;have W:=J;obtain⟨w1,X,rfl⟩:=J;refine Lk ?_;refine ei.push (bytes:=24) G T af af λv' R k2 Y=>?_;simp only[Z3,seval,-ae,WX l];refine⟨_,af,i+1,v',rows++[.fz w1 X (gcnj O P C u[i] g).length (cS (gcnj O P C u[i] g))],af,rfl,rfl,k2,Y.acc,?_⟩;rw[YN l,Yx];exact E.snoc W
def zHM(s:jl O P C)(F:Full O P C (Lu O))(hC:sc O C)(hp:∀o∈O,jF o)(hs:jh σ sp vO vP vC)(J:dU vO vP vC O P C)(hL:jj vL L)(MF:∀x∈L,gS O x)(CV:(Lu L)<=1000000)(hB:jj vB mc)(hb:∀x∈mc,gS O x)(jH:(Lu mc)<=1000000)
  (hk:∀v u,jj v u->Ones O u->(Lu u)<=Lu O->(∀N,gN O P C N->((∀x∈u,N x)↔∀x∈L,N x))->K v σ):zA Li 192 [.ptr sp 0,vL,vB] σ K:=by
 have aX:=s.le;have A0:=hL;obtain⟨wl,al,rl,rfl,bp⟩:=hL;obtain⟨wb,ab,rb,rfl,cB⟩:=hB;refine Lh Tryz.func192 ?_;refine Lk ?_;refine zHn s hs J λss sb h1 k1 n1 n2 q1=>?_;refine Lk ?_;refine zPs s F hC hp q1 J (OkD.start (Lu O) rfl) ⟨aK,λk c r hc U=>?_⟩ (QI.start _) A0 MF CV λt fa D' iK nW Nu NG hf dV=>?_
 .rw[JX]at hc U;split at hc
  .rename_i h;rw[DK h]at U;cases hc;cases U;exact .inl ⟨rfl,rfl⟩
  .cases hc
 have NF:∀N,gN O P C N->(InD N D'↔∀q∈L,N q):=λN l=>(NG N l.toB).trans ⟨λh=>h.2,λh=>⟨InD.start _,h⟩⟩;refine Lk ?_;refine zF (λm V h'=>∃(g:Bool) (W:List PV) (E:List (Option V1)),m=2*free E+(if g=DF then 1 else 0)/\V=[.ptr sp 0,.fz wb ab (Lu mc) rb,.ptr ss 0,.bool g]/\h'=h1.set sb W/\dd (rV (Lu O)) W E/\OkD O E/\QI O P C E []/\∀N,gN O P C N->(InD N E↔∀q∈L,N q)) (2*free D'+1) ⟨DF,fa,D',by rw[DK rfl],rfl,rfl,iK,nW,Nu,NF⟩ ?_
 rintro m V h' ⟨g,W,E,rfl,rfl,rfl,iJ,Gw,ve,AZ⟩
 have sy:=q1.setB W;cases g with
 |false=>
  refine Lk ?_;refine zEj s F hC sy J Gw iJ λv u T H=>?_;have Z:Ones O u:=H.one;have f3:=H.len;have f4:∀N,gN O P C N->((∀x∈u,N x)↔InD N E):=λN l=>H.iff N l.toB;refine Lk ?_;exact Gh.fin0 (k1.set n2 _) (T.bel _) (hk v u T Z f3 λN l=>(f4 N l).trans (AZ N l))
 |true=>
 refine Lk ?_;refine zEj s F hC sy J Gw iJ λv u T H=>?_;have Z:Ones O u:=H.one;have f3:=H.len;have f4:∀N,gN O P C N->((∀x∈u,N x)↔InD N E):=λN l=>H.iff N l.toB;have G7:=T;obtain⟨wu,au,ru,rfl,jb⟩:=T;refine Lk ?_;refine zF (λm V h'=>∃(i:Nat) (g:Bool) (I:List PV) (G:List (Option V1)),i<=Lu mc/\m=Lu mc-i/\V=[.ptr sp 0,.fz wb ab (Lu mc) rb,.ptr ss 0,.bool g,.fz wu au (Lu u) ru,.fz wb ab (Lu mc) rb,.int .i64 (Lu mc),.int .i64 i]/\h'=h1.set sb I/\dd (rV (Lu O)) I G/\OkD O G/\QI O P C G []/\(∀N,gN O P C N->(InD N G↔∀q∈L,N q))/\free G<=free E/\(g=DF->free G<free E)) (Lu mc) ⟨0,false,W,E,af,af,rfl,rfl,iJ,Gw,ve,AZ,na _,aK⟩ ?_
 rintro m V h' ⟨i,g,I,G,hi,rfl,rfl,rfl,ug,Gv,Ge,X,Rr,Ik⟩
 have mL:=q1.setB I;refine Lk ?_;refine Ll (λaG=>?_) λR=>?_
 .cases g with
  |true=>
   have:=Ik rfl
   exact⟨2*free G+1,af,DF,I,G,aK,rfl,rfl,ug,Gv,Ge,X⟩
  |false=>exact⟨2*free G,af,false,I,G,aK,rfl,rfl,ug,Gv,Ge,X⟩
 obtain⟨w4,a4,U⟩:=cB.rowI R;have ny:=hb _ (YZ R);simp only[Z3,seval,-ae,R,U];refine zIs s F mL.pg J G7 (λx hx=>(Z x hx).1) af ny ⟨w4,a4,rfl⟩ λvc fc=>?_;refine Lk ?_;refine zPs s F hC hp mL J Gv ug Ge fc (λx hx=>?_) (by rw[YF];omega) λt4 Y D4 yT IS IF ND Rq Ij=>?_
 .obtain⟨y,hy,rfl⟩:=YI.1 hx;exact F.g.cnj_in (Z y hy).1 ny
 have IJ:∀N,gN O P C N->(InD N D4↔∀q∈L,N q):=λN l=>(ND N l.toB).trans ⟨λh=>(X N l).1 h.1,λh=>⟨(X N l).2 h,λq hq=>by
  obtain⟨y,hy,rfl⟩:=YI.1 hq;exact l.nor ((f4 N l).2 ((AZ N l).2 h) y hy) ny⟩⟩
 have Lx:(h1.set sb I).set sb Y=h1.set sb Y:=by
  simp only[cg.set,cg.mk.injEq,true_and];funext t;split<;>rfl
 rw[Lx];cases t4 with
 |true=>
  have:=Ij rfl
  simp only[Z3,seval,-ae,WX R];exact⟨_,af,i+1,DF,Y,D4,af,rfl,rfl,rfl,yT,IS,IF,IJ,af,λ_=>af⟩
 |false=>
  simp only[Z3,seval,-ae,WX R];exact⟨_,af,i+1,g,Y,D4,af,rfl,rfl,rfl,yT,IS,IF,IJ,af,λh=>by have:=Ik h;omega⟩
end
end Go.Proofs
