/- . -/
import Derived.Test.YtnfnaniemocleaaGreatEP10
open Int renaming reduceNatCast'->ae
set_option maxRecDepth 100000
set_option linter.unusedSimpArgs false
set_option linter.unusedVariables false
set_option linter.unusedSectionVars false
namespace Go.Grp
end Go.Grp
namespace Go.Proofs
open Go.Ab Go.Lie
variable{aj capP:Cap}{p:Int}{i j n r s0 sB sP:Nat}{h σ σ0:PHeap}{vC vO vP vS:PV}{K:PV->PHeap->Prop}{O bs x xs:V1}{P W:V2}{B C:V3}
section
variable{s:Nat}{cs:List PV}{ls:List LS}
abbrev zrow(n:Nat):V1:=List.replicate n 0
def zB(n i:Nat):V3:=(List.range i).map λj=>List.replicate (n-1-j) (zrow n)
def Any(_:PV)(_:V1):Prop:=True
theorem zKc(n i:Nat):zB n (i+1)=zB n i++[List.replicate (n-1-i) (zrow n)]:=by unfold zB;rw[List.range_succ,Yh];rfl
theorem zBr(n i:Nat):(zB n i).length=i:=by simp[zB]
theorem zPa{vs:List PV}{l:V2}(e:vs.length=l.length):All2 Any vs l:=⟨e,λ_ _ _ _ _=>trivial⟩
theorem zJI{α β:Type}{R:α->β->Prop}{xs:List α}{y:β}{k:Nat}(a:All2 R xs (List.replicate k y)){x:α}(l:R x y):All2 R (xs++[x]) (List.replicate (k+1) y):=by
 rw[List.replicate_succ'];exact a.snoc l
structure CycI(T h:PHeap)(m p0 n q:Nat)(p:Int)(v3 vB:PV)(cP cC:List PV)(ls:List LS)(vR:PV)(cells:List PV):Prop where
 su:SU T h p0 (.int .i64 p) [(v3,cP),(vB,cC)] ls
 row:PSl m 1 h vR q cells
 all:All2 FI cells (List.replicate q (zrow n))
 le:m<=h.next
 lo:∀t,(t=p0\/(∃f∈[(v3,cP),(vB,cC)],∃off l c,f.1=.sl t off l c)\/∃q∈ls,q.s=t)->t<m
theorem zIZ(dQ:1<=n)(be:n<=6)
  (hk:∀sP capP cs sB aj ls h,Keep σ h->RS Any FI σ.next h n sP capP cs sB aj ls (List.replicate n []) (zB n n)->K (.agg [.int .i64 p,.sl sP 0 n capP,.sl sB 0 n aj]) h):
  zA Tryz.prog 223 [.int .i64 p,.int .i64 n] σ K:=by
 refine zA.pwf λw=>?_;generalize hT:σ.new [.int .i64 0,.fz true .nils 0 [],.fz true .nils 0 []]=T;have Z:T.next=σ.next+1:=by rw[<-hT];rfl
 have fB:Keep σ T:=by rw[<-hT];exact zC σ _
 have wT:PWF T:=by rw[<-hT];exact w.newB ⟨trivial,trivial,trivial,trivial⟩
 have aX:∀{g:PHeap} {u0 u1 u2:PV},Keep T g->u0.one=true->u1.one=true->u2.one=true->g.wr σ.next 0 [u0,u1,u2]=some (g.set σ.next [u0,u1,u2])/\(g.set σ.next [u0,u1,u2]).rd σ.next 0 3=some [u0,u1,u2]:=λ{g u0 u1 u2} k z0 z1 z2=>by
  have aX:g.obj σ.next=some [.int .i64 0,.fz true .nils 0 [],.fz true .nils 0 []]:=by rw[k.obj _ (by omega),<-hT];simp only[Z3,seval,-ae]
  exact⟨by rw[zT aX,if_pos ⟨by simp,by simp only[List.all_cons,List.all_nil,z0,z1,z2];rfl⟩];rfl,by rw[qH,if_pos rfl];rfl⟩
 refine zD mix Tryz.func223 ?_;simp only[Z3,seval,-ae];rw[hT];refine zF (λm us h=>∃(i:Nat) (vQ vB:PV) (cP cC:List PV) (ls:List LS),i<=n/\m=n-i/\us=[.int .i64 n,.ptr σ.next 0,.ptr (σ.next+3) 0,.int .i64 i]/\SU T h (σ.next+3) (.int .i64 p) [(vQ,cP),(vB,cC)] ls/\cP.length=i/\cC=ls.map LS.pv/\(ls.map LS.s).Nodup/\RowsG FI ls (zB n i)) n ?_ ?_
 .refine⟨0,.sl (σ.next+1) 0 0 (.known 0),.sl (σ.next+2) 0 0 (.known 0),[],[],[],by omega,by omega,rfl,⟨((zC T _).new _).new _,by simp only[Z3,seval,-ae,Z],⟨by omega,by first|(simp only[Z3,seval,-ae,Z];done)|(simp only[Z3,seval,-ae,Z];omega)⟩,λf A=>?_,λf A off l c e=>?_,λi j f g A hg an s off l c e dD l' c' e'=>?_,λq I=>(by cases I),λq I=>(by cases I)⟩,rfl,rfl,List.nodup_nil,All2.nil _⟩
  .simp only[YH,Yp,or_false]at A;rcases A with rfl|rfl
   .exact PSl.own (.inr rfl) (by simp only[Z3,seval,-ae,Z]) rfl (by omega) (by first|(simp only[Z3,seval,-ae,Z];done)|(simp only[Z3,seval,-ae,Z];omega))
   .exact PSl.own (.inr rfl) (by simp only[Z3,seval,-ae,Z]) rfl (by omega) (by first|(simp only[Z3,seval,-ae,Z];done)|(simp only[Z3,seval,-ae,Z];omega))
  .simp only[YH,Yp,or_false]at A;rcases A with rfl|rfl<;>(simp only[PV.sl.injEq]at e;omega)
  .match i,j with
   |0,0=>exact an rfl
   |1,1=>exact an rfl
   |0,1|1,0=>cases A;cases hg;simp only[PV.sl.injEq]at e e';omega
   |i+2,_=>simp at A
   |0,j+2|1,j+2=>simp at hg
 as_aux_lemma=>
 rintro m us h ⟨i,vQ,vB,cP,cC,ls,hi,rfl,rfl,a,kK,gv,nL,fQ⟩
 have aP:=a.acc (vQ,cP) (by simp);have aC:=a.acc (vB,cC) (by simp);have f3:h.rd (σ.next+3) 0 3=some [.int .i64 p,vQ,vB]:=by rw[zZ a.obj];rfl
 have f1:h.rd1 (σ.next+3) 1=some vQ:=by rw[zI a.obj];rfl
 simp only[Z3,seval,-ae];refine iteI (λah=>?_) λaF=>?_;rotate_left
 .as_aux_lemma=>
  have aU:i=n:=by omega
  subst aU;obtain⟨g1,g2⟩:=aX a.keep (u0:=.int .i64 p) rfl aP.one aC.one;simp only[Z3,seval,-ae,f3,g1,g2];obtain⟨sP,capP,sB,aj,e1,e2,rs⟩:=a.rs (n:=i) (RP:=Any) (R:=FI) (W:=List.replicate i []) (B:=zB i i) gv nL (zPa (by rw[kK];simp)) fQ (by simp) (zBr i i);subst e1 e2;exact hk sP capP cP sB aj ls _ ((fB.trans a.keep).set (na _) _) ((rs.low (by omega)).move (λt M=>by
   have:=(rs.lt M).1
   rw[zG,if_neg (by omega)]) (na _))
 have aD:i<n:=by omega
 have bM:IntKind.i64.wrap ((i:Int)+1)=((i+1:Nat):Int):=wrapS aD (by omega);have kD:¬σ.next+3=h.next:=by have:=a.p0b.2;omega
 have gG:∀f,f∈[(vQ,cP),(vB,cC)]->f.1.one=true:=λf A=>(a.acc f A).one;simp only[Z3,seval,-ae,mk8 (n:=n) (by omega),mkL (n:=n) (by omega),zf,bM];refine iteI (λh1=>?_) λh1=>?_;rotate_left
 .generalize hX:(List.replicate n (PV.int .i64 0))=X;clear hX;simp only[Z3,seval,-ae,kD,f1];refine SU.push (a.keepI (zC h X)) (j:=0) (bytes:=24) rfl (by omega) (by omega) gG λH h3 z4 z5 z6 J=>?_;simp only[List.set_cons_zero,List.set_cons_succ,YO,Y3]at z6 J;generalize h3.set (σ.next+3) [.int .i64 p,H,vB]=h4 at *
  simp only[Z3,seval,-ae,z4,z5,z6,bM];clear z4 z5 z6 f1 f3;have D0:∀t,(t=σ.next+3\/(∃f∈[(H,cP++[PV.sl h.next 0 n (.known n)]),(vB,cC)],∃off l c,f.1=.sl t off l c)\/∃q∈ls,q.s=t)->t<h4.next:=λt M=>by
   rcases M with rfl|⟨f,A,off,l,c,e⟩|⟨q,I,rfl⟩
   .exact J.p0b.2
   .exact QD (J.acc f A) e
   .exact(J.lok q I).2.2.2
  refine ZU (λm us h=>∃(q:Nat) (vR:PV) (G cells:List PV),i+(1+q)<=n/\m=n-(i+(1+q))/\us=[.int .i64 n,.ptr σ.next 0,.ptr (σ.next+3) 0,.int .i64 i,vR,.int .i64 ((i+(1+q):Nat):Int)]/\CycI T h h4.next (σ.next+3) n q p H vB G cC ls vR cells/\G.length=i+1) (n-(i+1)) (.here ⟨0,.sl h4.next 0 0 (.known 0),_,[],by omega,rfl,rfl,⟨J.keepI (zC _ _),PSl.new _ 1 rfl (na _),All2.nil _,UQ _,D0⟩,by rw[YV];simp;omega⟩) ?_
  rintro m us D ⟨q,vR,G,cells,I,rfl,rfl,c,mL⟩
  simp only[Z3,seval,-ae];refine iteI (λiV=>?_) λuc=>?_;rotate_left
  .have jk:q=n-1-i:=by omega
   subst jk;obtain⟨su,row,all,le,Q⟩:=c;obtain⟨t,cap,rfl,A,q2,q3,q4,q5⟩:=row;have f2:D.rd1 (σ.next+3) 2=some vB:=by rw[zI su.obj];rfl
   have tO:¬σ.next+3=D.next:=by have:=su.p0b.2;omega
   have fI:∀f,f∈[(H,G),(vB,cC)]->f.1.one=true:=λf A=>(su.acc f A).one;have mJ:cells.length=n-1-i:=by omega
   have iZ:∀u,(u=σ.next+3\/(∃f∈[(H,G),(vB,cC)],∃off l c,f.1=.sl u off l c)\/∃q∈ls,q.s=u)->t≠u:=λu hu e=>by have:=Q u hu;omega
   have nD:=SU.more (q:=⟨t,cap,cells⟩) su ⟨by rw[mJ];exact A,q2,by have:=J.keep.next;show T.next<=t;omega,q5⟩ ⟨iZ _ (.inl rfl),λf A off l c e=>iZ t (.inr (.inl ⟨f,A,off,l,c,e⟩)) rfl⟩;simp only[Z3,seval,-ae,f2,tO];refine SU.push nD (j:=1) (bytes:=24) rfl (by rw[gv,YL,fQ.1,zBr];omega) (by omega) fI λv5 h5 z1 z2 z3 a5=>?_;simp only[List.set_cons_zero,List.set_cons_succ,YO,Y3]at z3 a5;generalize h5.set (σ.next+3) [.int .i64 p,H,v5]=h6 at *
   simp only[Z3,seval,-ae,z1,z2,z3,bM];refine⟨_,by omega,i+1,H,v5,G,_,ls++[⟨t,cap,cells⟩],by omega,rfl,rfl,a5,mL,?_,?_,?_⟩
   .rw[gv,Yh];simp only[YO,Y3,LS.pv];rw[mJ]
   .rw[Yh,List.nodup_append];refine⟨nL,by simp,λx hx y hy e=>?_⟩;simp only[YO,Y3,YN]at hy;obtain⟨q',aR,rfl⟩:=Yj.1 hx;exact iZ q'.s (.inr (.inr ⟨q',aR,rfl⟩)) (by rw[e,hy])
   .rw[zKc];exact All2.snoc fQ all
  have aR:i+(1+q)<n:=by omega
  have e5:IntKind.i64.wrap (((i+(1+q):Nat):Int)+1)=((i+(1+(q+1)):Nat):Int):=WQ
  obtain⟨su,row,all,le,Q⟩:=c;simp only[Z3,seval,-ae,mk8 (n:=n) (by omega),mkL (n:=n) (by omega),zf];refine PAcc.pushS (σb:=T) (bytes:=24) (su.keep.new _) ((row.acc.keep (zC _ _)).low (by have:=J.keep.next;omega)) rfl (by omega) (by omega) λv9 h8 k8 p8 o8 n8 l8=>?_;have cb:(D.new (pis (List.replicate n 0))).next=D.next+1:=rfl;rw[cb]at o8 n8 l8;simp only[Z3,seval,-ae,e5];have EJ:∀t,t<h4.next->∀off l c,vR≠.sl t off l c:=λt M off l c e=>by
   obtain⟨V,Y,e',_,_,_,g4,_⟩:=row;rw[e']at e;cases e;omega
  have Db:SU T h8 (σ.next+3) (.int .i64 p) [(H,G),(vB,cC)] ls:=su.move k8 (by omega) λt M=>by
   have:=Q t M
   rw[o8 t (by omega) (EJ t this),zH,if_neg (by omega)]
  have fJ:h8.obj D.next=some (pis (zrow n)):=by
   rw[o8 _ (by omega) (λoff l c e=>by have:=QD row e;omega),zH,if_pos rfl]
  have F9:T.next<=D.next:=su.keep.next;refine⟨n-(i+(1+(q+1))),by omega,.fzh D.next (pis (zrow n)) fJ (zL _ _) λo1=>.here ⟨q+1,v9,sbs D.next o1 (pis (zrow n)) G,cells++[.fz true (.sl o1 0 n (.known n)) n (pis (zrow n))],by omega,rfl,?_,?_,by rw[Zd];exact mL⟩⟩
  .have:sb D.next o1 (pis (zrow n)) v9=v9:=by
    obtain⟨V,Y,e',_,_,_,g4,_⟩:=p8
    have:V≠D.next:=λe=>n8 D.next (by omega) 0 (q+1) Y (by rw[e',e])
    rw[e'];simp only[sb,this,false_and,if_false]
   simp only[sbs,sb,this]
  have ui:∀q∈ls,Bels 0 q.cs:=λq I=>by
   obtain⟨k,iI,rfl⟩:=YE.1 I;exact(fQ.2 k _ _ (YQ iI) (YQ (by rw[<-fQ.1];exact iI))).bI 0
  have y9:∀q∈ls,q.s≠D.next:=λq I e=>by have:=Q _ (.inr (.inr ⟨q,I,e⟩));omega
  have nW:=SU.fzh (o:=o1) (xs:=pis (zrow n)) wT Db F9 (by have:=Q _ (.inl rfl);omega) rfl (λf A off l c e=>by have:=Q _ (.inr (.inl ⟨f,A,off,l,c,e⟩));omega) y9;rw[LS.fr_same ui]at nW;simp only[YO,Y3]at nW;rw[gv,LS.sbs_pv y9,<-gv]at nW;refine⟨nW,?_,?_,by show h4.next<=h8.next;omega,λt M=>Q t ?_⟩
  .obtain⟨V,Y,e',g1,g2,g3,g4,g5⟩:=p8;have an:V≠D.next:=λe=>n8 D.next (by omega) 0 (q+1) Y (by rw[e',e]);refine⟨V,Y,e',g1,?_,?_,?_,g5⟩
   .rw[Qf an g2,zKh (all.bI 0) (by simp[capOK])]
   .rw[YV]at g3 ⊢;exact g3
   .rcases YG V h4.next with g|g
    .exact absurd e' (n8 V (by omega) 0 (q+1) Y)
    .exact g
  .exact zJI all ⟨true,_,by rw[YT]⟩
  .rcases M with e|⟨f,A,off,l,c,e⟩|e
   .exact .inl e
   .simp only[YH,Yp,or_false]at A;rcases A with rfl|rfl
    .exact .inr (.inl ⟨(H,G),by simp,off,l,c,e⟩)
    .exact .inr (.inl ⟨(vB,cC),by simp,off,l,c,e⟩)
   .exact .inr (.inr e)
 .have rK:i+1<n:=by omega
  simp only[Z3,seval,-ae,rK,YT,zJ,UZ rK];generalize hX:(List.take (i+1) (List.replicate n (PV.int .i64 0))++[PV.int IntKind.i64 1]++List.drop (i+2) (List.replicate n (PV.int .i64 0)))=X;clear hX;simp only[Z3,seval,-ae,kD,f1];refine SU.push (a.keepI (zC h X)) (j:=0) (bytes:=24) rfl (by omega) (by omega) gG λH h3 z4 z5 z6 J=>?_;simp only[List.set_cons_zero,List.set_cons_succ,YO,Y3]at z6 J;generalize h3.set (σ.next+3) [.int .i64 p,H,vB]=h4 at *
  simp only[Z3,seval,-ae,z4,z5,z6,bM];clear z4 z5 z6 f1 f3;have D0:∀t,(t=σ.next+3\/(∃f∈[(H,cP++[PV.sl h.next 0 n (.known n)]),(vB,cC)],∃off l c,f.1=.sl t off l c)\/∃q∈ls,q.s=t)->t<h4.next:=λt M=>by
   rcases M with rfl|⟨f,A,off,l,c,e⟩|⟨q,I,rfl⟩
   .exact J.p0b.2
   .exact QD (J.acc f A) e
   .exact(J.lok q I).2.2.2
  refine ZU (λm us h=>∃(q:Nat) (vR:PV) (G cells:List PV),i+(1+q)<=n/\m=n-(i+(1+q))/\us=[.int .i64 n,.ptr σ.next 0,.ptr (σ.next+3) 0,.int .i64 i,vR,.int .i64 ((i+(1+q):Nat):Int)]/\CycI T h h4.next (σ.next+3) n q p H vB G cC ls vR cells/\G.length=i+1) (n-(i+1)) (.here ⟨0,.sl h4.next 0 0 (.known 0),_,[],by omega,rfl,rfl,⟨J.keepI (zC _ _),PSl.new _ 1 rfl (na _),All2.nil _,UQ _,D0⟩,by rw[YV];simp;omega⟩) ?_
  rintro m us D ⟨q,vR,G,cells,I,rfl,rfl,c,mL⟩
  simp only[Z3,seval,-ae];refine iteI (λiV=>?_) λuc=>?_;rotate_left
  .have jk:q=n-1-i:=by omega
   subst jk;obtain⟨su,row,all,le,Q⟩:=c;obtain⟨t,cap,rfl,A,q2,q3,q4,q5⟩:=row;have f2:D.rd1 (σ.next+3) 2=some vB:=by rw[zI su.obj];rfl
   have tO:¬σ.next+3=D.next:=by have:=su.p0b.2;omega
   have fI:∀f,f∈[(H,G),(vB,cC)]->f.1.one=true:=λf A=>(su.acc f A).one;have mJ:cells.length=n-1-i:=by omega
   have iZ:∀u,(u=σ.next+3\/(∃f∈[(H,G),(vB,cC)],∃off l c,f.1=.sl u off l c)\/∃q∈ls,q.s=u)->t≠u:=λu hu e=>by have:=Q u hu;omega
   have nD:=SU.more (q:=⟨t,cap,cells⟩) su ⟨by rw[mJ];exact A,q2,by have:=J.keep.next;show T.next<=t;omega,q5⟩ ⟨iZ _ (.inl rfl),λf A off l c e=>iZ t (.inr (.inl ⟨f,A,off,l,c,e⟩)) rfl⟩;simp only[Z3,seval,-ae,f2,tO];refine SU.push nD (j:=1) (bytes:=24) rfl (by rw[gv,YL,fQ.1,zBr];omega) (by omega) fI λv5 h5 z1 z2 z3 a5=>?_;simp only[List.set_cons_zero,List.set_cons_succ,YO,Y3]at z3 a5;generalize h5.set (σ.next+3) [.int .i64 p,H,v5]=h6 at *
   simp only[Z3,seval,-ae,z1,z2,z3,bM];refine⟨_,by omega,i+1,H,v5,G,_,ls++[⟨t,cap,cells⟩],by omega,rfl,rfl,a5,mL,?_,?_,?_⟩
   .rw[gv,Yh];simp only[YO,Y3,LS.pv];rw[mJ]
   .rw[Yh,List.nodup_append];refine⟨nL,by simp,λx hx y hy e=>?_⟩;simp only[YO,Y3,YN]at hy;obtain⟨q',aR,rfl⟩:=Yj.1 hx;exact iZ q'.s (.inr (.inr ⟨q',aR,rfl⟩)) (by rw[e,hy])
   .rw[zKc];exact All2.snoc fQ all
  have aR:i+(1+q)<n:=by omega
  have e5:IntKind.i64.wrap (((i+(1+q):Nat):Int)+1)=((i+(1+(q+1)):Nat):Int):=WQ
  obtain⟨su,row,all,le,Q⟩:=c;simp only[Z3,seval,-ae,mk8 (n:=n) (by omega),mkL (n:=n) (by omega),zf];refine PAcc.pushS (σb:=T) (bytes:=24) (su.keep.new _) ((row.acc.keep (zC _ _)).low (by have:=J.keep.next;omega)) rfl (by omega) (by omega) λv9 h8 k8 p8 o8 n8 l8=>?_;have cb:(D.new (pis (List.replicate n 0))).next=D.next+1:=rfl;rw[cb]at o8 n8 l8;simp only[Z3,seval,-ae,e5];have EJ:∀t,t<h4.next->∀off l c,vR≠.sl t off l c:=λt M off l c e=>by
   obtain⟨V,Y,e',_,_,_,g4,_⟩:=row;rw[e']at e;cases e;omega
  have Db:SU T h8 (σ.next+3) (.int .i64 p) [(H,G),(vB,cC)] ls:=su.move k8 (by omega) λt M=>by
   have:=Q t M
   rw[o8 t (by omega) (EJ t this),zH,if_neg (by omega)]
  have fJ:h8.obj D.next=some (pis (zrow n)):=by
   rw[o8 _ (by omega) (λoff l c e=>by have:=QD row e;omega),zH,if_pos rfl]
  have F9:T.next<=D.next:=su.keep.next;refine⟨n-(i+(1+(q+1))),by omega,.fzh D.next (pis (zrow n)) fJ (zL _ _) λo1=>.here ⟨q+1,v9,sbs D.next o1 (pis (zrow n)) G,cells++[.fz true (.sl o1 0 n (.known n)) n (pis (zrow n))],by omega,rfl,?_,?_,by rw[Zd];exact mL⟩⟩
  .have:sb D.next o1 (pis (zrow n)) v9=v9:=by
    obtain⟨V,Y,e',_,_,_,g4,_⟩:=p8
    have:V≠D.next:=λe=>n8 D.next (by omega) 0 (q+1) Y (by rw[e',e])
    rw[e'];simp only[sb,this,false_and,if_false]
   simp only[sbs,sb,this]
  have ui:∀q∈ls,Bels 0 q.cs:=λq I=>by
   obtain⟨k,iI,rfl⟩:=YE.1 I;exact(fQ.2 k _ _ (YQ iI) (YQ (by rw[<-fQ.1];exact iI))).bI 0
  have y9:∀q∈ls,q.s≠D.next:=λq I e=>by have:=Q _ (.inr (.inr ⟨q,I,e⟩));omega
  have nW:=SU.fzh (o:=o1) (xs:=pis (zrow n)) wT Db F9 (by have:=Q _ (.inl rfl);omega) rfl (λf A off l c e=>by have:=Q _ (.inr (.inl ⟨f,A,off,l,c,e⟩));omega) y9;rw[LS.fr_same ui]at nW;simp only[YO,Y3]at nW;rw[gv,LS.sbs_pv y9,<-gv]at nW;refine⟨nW,?_,?_,by show h4.next<=h8.next;omega,λt M=>Q t ?_⟩
  .obtain⟨V,Y,e',g1,g2,g3,g4,g5⟩:=p8;have an:V≠D.next:=λe=>n8 D.next (by omega) 0 (q+1) Y (by rw[e',e]);refine⟨V,Y,e',g1,?_,?_,?_,g5⟩
   .rw[Qf an g2,zKh (all.bI 0) (by simp[capOK])]
   .rw[YV]at g3 ⊢;exact g3
   .rcases YG V h4.next with g|g
    .exact absurd e' (n8 V (by omega) 0 (q+1) Y)
    .exact g
  .exact zJI all ⟨true,_,by rw[YT]⟩
  .rcases M with e|⟨f,A,off,l,c,e⟩|e
   .exact .inl e
   .simp only[YH,Yp,or_false]at A;rcases A with rfl|rfl
    .exact .inr (.inl ⟨(H,G),by simp,off,l,c,e⟩)
    .exact .inr (.inl ⟨(vB,cC),by simp,off,l,c,e⟩)
   .exact .inr (.inr e)
def FI0(v:PV)(w:V1):Prop:=w=[]\/FI v w
def FI1(t n:Nat)(v:PV)(w:V1):Prop:=w=[]\/FI v w\/(v=.sl t 0 n (.known n)/\w=zrow n)
def zW(n i:Nat):V2:=List.replicate i (zrow n)++List.replicate (n-i) []
theorem zQo{i:Nat}(l:i<n):(zW n i).set i (zrow n)=zW n (i+1):=by
 unfold zW;rw[List.set_append_right _ _ (by simp),YT,Yv,show n-i=(n-(i+1))+1 by omega,List.replicate_succ,List.set_cons_zero,List.replicate_succ',Yb];rfl
theorem zKu{t:Nat}(X Y:List PV)(A:t≠h.next):(h.new X).set t Y=(h.set t Y).new X:=by
 have e:∀u,((h.new X).set t Y).obj u=((h.set t Y).new X).obj u:=λu=>by
  rw[zG,zH,zH,zG]
  show(if u=t then some Y else if u=h.next then some X else h.obj u)=(if u=h.next then some X else if u=t then some Y else h.obj u)
  by_cases l:u=t
  .by_cases D:u=h.next
   .exact absurd (l.symm.trans D) A
   .simp[l,A]
  .simp[l]
 show(⟨h.next+1,h.top,((h.new X).set t Y).obj⟩:PHeap)=⟨h.next+1,h.top,((h.set t Y).new X).obj⟩
 rw[funext e]
structure FlatI(T h:PHeap)(p0 n i:Nat)(p:Int)(sP:Nat)(capP:Cap)(cs:List PV)(sB:Nat)(aj:Cap)(ls:List LS):Prop where
 keep:Keep T h
 obj:h.obj p0=some [.int .i64 p,.sl sP 0 n capP,.sl sB 0 n aj]
 lt:p0<h.next
 ge:T.next<=p0
 ne:∀t,(t=sP\/t=sB\/∃q∈ls,q.s=t)->p0≠t
 rs:RS FI0 FI T.next h n sP capP cs sB aj ls (zW n i) (zB n n)
theorem zF3(dQ:1<=n)(be:n<=6)
  (hk:∀sP capP cs sB aj ls h,Keep σ h->RS FI FI σ.next h n sP capP cs sB aj ls (List.replicate n (zrow n)) (zB n n)->K (.agg [.int .i64 p,.sl sP 0 n capP,.sl sB 0 n aj]) h):
  zA Tryz.prog 183 [.int .i64 p,.int .i64 n] σ K:=by
 refine zA.pwf λw=>?_;generalize H:σ.new [.int .i64 0,.fz true .nils 0 [],.fz true .nils 0 []]=T;have cZ:T.next=σ.next+1:=by rw[<-H];rfl
 have fB:Keep σ T:=by rw[<-H];exact zC σ _
 have wT:PWF T:=by rw[<-H];exact w.newB ⟨trivial,trivial,trivial,trivial⟩
 have Y:∀{g:PHeap} {u0 u1 u2:PV},Keep T g->u0.one=true->u1.one=true->u2.one=true->g.wr σ.next 0 [u0,u1,u2]=some (g.set σ.next [u0,u1,u2])/\(g.set σ.next [u0,u1,u2]).rd σ.next 0 3=some [u0,u1,u2]:=λ{g u0 u1 u2} k z0 z1 z2=>by
  have Y:g.obj σ.next=some [.int .i64 0,.fz true .nils 0 [],.fz true .nils 0 []]:=by rw[k.obj _ (by omega),<-H];simp only[Z3,seval,-ae]
  exact⟨by rw[zT Y,if_pos ⟨by simp,by simp only[List.all_cons,List.all_nil,z0,z1,z2];rfl⟩];rfl,by rw[qH,if_pos rfl];rfl⟩
 refine zD mix Tryz.func183 ?_;simp only[Z3,seval,-ae];rw[H];refine zIZ dQ be λsP capP cs sB aj ls D k1 J=>?_;have yW:=k1.next;simp only[Z3,seval,-ae];refine ZU (λm us h=>∃(i:Nat) (cs:List PV) (ls:List LS),i<=n/\m=n-i/\us=[.int .i64 n,.ptr σ.next 0,.ptr D.next 0,.int .i64 i]/\FlatI T h D.next n i p sP capP cs sB aj ls) n (.here ⟨0,cs,ls,by omega,by omega,rfl,⟨k1.new _,by simp only[Z3,seval,-ae],by show _<D.next+1;omega,yW,λt A e=>by have:=(J.lt A).2;omega,?_⟩⟩) ?_
 .rw[show zW n 0=List.replicate n [] by simp[zW]];exact(J.imp (RP':=FI0) ⟨by rw[J.csl];simp,λj x y V G=>.inl (Y9 (Yf G))⟩ J.aB).new _
 rintro m us l ⟨i,cs,ls,hi,rfl,rfl,⟨keep,obj,lt,ge,ne,rs⟩⟩
 have f3:l.rd D.next 0 3=some [.int .i64 p,.sl sP 0 n capP,.sl sB 0 n aj]:=by rw[zZ obj];rfl
 have f1:l.rd1 D.next 1=some (.sl sP 0 n capP):=by rw[zI obj];rfl
 simp only[Z3,seval,-ae];refine iteI (λah=>?_) λaF=>?_;rotate_left
 .have aU:i=n:=by omega
  subst aU;obtain⟨g1,g2⟩:=Y (u0:=.int .i64 p) (u1:=.sl sP 0 i capP) (u2:=.sl sB 0 i aj) keep rfl rfl rfl;simp only[Z3,seval,-ae,f3,g1,g2];have e0:zW i i=List.replicate i (zrow i):=by simp[zW]
  rw[e0]at rs;have nZ:RS FI FI T.next l i sP capP cs sB aj ls (List.replicate i (zrow i)) (zB i i):=rs.imp ⟨rs.aP.1,λj x y V G=>(rs.aP.2 j x y V G).resolve_left λe=>by
   have:=Y9 (Yf G)
   rw[this]at e
   have:=congrArg List.length e
   simp at this;omega⟩ rs.aB
  exact hk sP capP cs sB aj ls _ ((fB.trans keep).set (na _) _) ((nZ.low (by omega)).move (λt A=>by
   have:=(nZ.lt A).1
   rw[zG,if_neg (by omega)]) (na _))
 have M:i<n:=by omega
 have Ss:=keep.next;have kD:¬D.next=l.next:=by omega
 have bM:IntKind.i64.wrap ((i:Int)+1)=((i+1:Nat):Int):=wrapS M (by omega);have tN:¬sP=l.next:=λe=>by have:=(rs.lt (.inl e.symm)).2;omega
 have Ez:∀t,(t=sP\/t=sB\/∃q∈ls,q.s=t)->t<l.next:=λt A=>(rs.lt A).2;have xe:=(rs.imp (RP':=FI1 l.next n) ⟨rs.aP.1,λj x y V G=>(rs.aP.2 j x y V G).imp id .inl⟩ rs.aB).new (pis (zrow n));obtain⟨w1,X⟩:=xe.putP (i:=i) (v:=.sl l.next 0 n (.known n)) (w:=zrow n) M (.inr (.inr ⟨rfl,rfl⟩)) rfl;rw[zQo M]at X;simp only[Z3,seval,-ae,f1,mk8 (n:=n) (by omega),mkL (n:=n) (by omega),zf,M,w1,bM,kD,tN];rw[zKu _ _ tN]at X;refine⟨n-(i+1),by omega,.fzh l.next (pis (zrow n)) (by rw[zH];exact if_pos rfl) (zL _ _) λo1=>.here ⟨i+1,sbs l.next o1 (pis (zrow n)) (cs.set i (.sl l.next 0 n (.known n))),ls.map (LS.fr l.next o1 (pis (zrow n))),by omega,rfl,by simp only[sbs,sb],?_⟩⟩;have I:∀t,(t=sP\/t=sB\/∃q∈ls,q.s=t)->t≠l.next:=λt A e=>by have:=Ez t A;omega
 have BA:=X.fzh (RP':=FI0) (R':=FI) (t:=l.next) (o:=o1) (xs:=pis (zrow n)) ⟨Ne.symm (I _ (.inl rfl)),Ne.symm (I _ (.inr (.inl rfl))),λq Z=>I _ (.inr (.inr ⟨q,Z,rfl⟩))⟩ (λv w Q=>?_) (λv w Q=>by rw[Q.sb];exact Q)
 .refine⟨((keep.set (by have:=rs.P.2.2.1;omega) _).new _ |>.kill (by omega)).sub wT (by omega),?_,?_,ge,λt A=>ne t ?_,BA⟩
  .rw[Qf kD (by rw[zH,if_neg (by exact kD),zG,if_neg (ne _ (.inl rfl))];exact obj)];simp only[sbs,sb,tN,Ne.symm (I _ (.inr (.inl rfl))),I _ (.inr (.inl rfl)),false_and,if_false]
  .show D.next<l.next+1;omega
  .rcases A with e|e|⟨q,Z,e⟩
   .exact .inl e
   .exact .inr (.inl e)
   .obtain⟨q',aR,rfl⟩:=Yj.1 Z;exact .inr (.inr ⟨q',aR,e⟩)
 .rcases Q with e|e|⟨e,e2⟩
  .exact .inl e
  .exact .inr (by rw[e.sb];exact e)
  .refine .inr ?_;rw[e,e2];simp only[sb,capOK,and_self,if_true,na,decide_true];exact⟨true,_,by rw[YT]⟩
variable{h':PHeap}{vC:PV}{bs:V1}{b r0:Nat}{R:PV->V1->Prop}{F F':V2->V3->Prop}
structure OkF(p:Int)(n:Nat)(W:V2)(B:V3):Prop where
 w:OkW p n W
 b:OkB p n B
theorem OkF.zero(D:okp p)(G:n<=6):OkF p n (List.replicate n (zrow n)) (zB n n):=by
 have l:El p n (zrow n):=⟨by simp,λy H=>by rw[Y9 H];have:=D.1;omega⟩
 refine⟨⟨D,G,by simp,λi A=>?_⟩,⟨zBr n n,λi A=>by simp[zB],λi A k I=>?_⟩⟩
 .rw[Uz];exact⟨l.1,l.2,λj _=>qF _ _⟩
 .simp only[zB,Us,List.getElem_range,Uz];exact⟨l,λj _=>qF _ _⟩
theorem OkF.setP(a:OkF p n W B){i:Nat}{w:V1}(hw:El p n w)(A:∀j,j<=i->at_ w j=0):OkF p n (W.set i w) B:=by
 refine⟨⟨a.w.pr,a.w.le,by rw[YC];exact a.w.len,λj l=>?_⟩,a.b⟩;rw[List.getElem_set];split
 .rename_i e;subst e;exact⟨hw.1,hw.2,A⟩
 .exact a.w.row j (by rw[YC]at l;exact l)
theorem OkF.setB(a:OkF p n W B){i k:Nat}{w:V1}(I:i<n)(hw:El p n w)(J:∀j,j<=i+k+1->at_ w j=0):OkF p n W (B.set i ((B.getD i []).set k w)):=by
 have D:i<B.length:=by rw[a.b.len];exact I
 refine⟨a.w,⟨by rw[YC];exact a.b.len,λj l=>?_,λj l m A=>?_⟩⟩
 .rw[List.getElem_set];split
  .rename_i e;subst e;rw[YC,zO D];exact a.b.row i D
  .exact a.b.row j (by rw[YC]at l;exact l)
 .rw[YC]at l;by_cases e:i=j
  .subst e;have G:(B.set i ((B.getD i []).set k w))[i]'(by rw[YC];exact l)=(B.getD i []).set k w:=by simp
   simp only[G]at A ⊢;rw[List.getElem_set];rw[YC,zO D]at A;split
   .rename_i H;subst H;exact⟨hw,J⟩
   .have:=a.b.ent i l m A
    simp only[zO D];exact this
  .have G:(B.set i ((B.getD i []).set k w))[j]'(by rw[YC];exact l)=B[j]:=by simp[e]
   simp only[G]at A ⊢;exact a.b.ent j l m A
structure GS(E:Nat->V1->Prop)(R:PV->V1->Prop)(F:V2->V3->Prop)(σ h:PHeap)(s:Nat)(vC:PV)(bs:V1)(r0:Nat)(p:Int)(n sP:Nat)(capP:Cap)(sB:Nat)(aj:Cap):Prop where
 km:KM σ s h
 so:So h s vC bs
 sl:s<σ.next
 obj:h.obj r0=some [.int .i64 p,.sl sP 0 n capP,.sl sB 0 n aj]
 r0b:σ.next<=r0/\r0<h.next
 rs:∃cs ls W B,RS FI R σ.next h n sP capP cs sB aj ls W B/\F W B/\(∀t,(t=sP\/t=sB\/∃q∈ls,q.s=t)->r0≠t)/\∀u x,E u x->∀t,(t=sP\/t=sB\/∃q∈ls,q.s=t)->u≠t
 ex:∀u x,E u x->h.obj u=some (pis x)/\σ.next<=u/\u<h.next/\u≠r0
def E0(_:Nat)(_:V1):Prop:=False
variable{E:Nat->V1->Prop}
theorem GS.rd(a:GS E R F σ h s vC bs r0 p n sP capP sB aj):h.rd r0 0 3=some [.int .i64 p,.sl sP 0 n capP,.sl sB 0 n aj]/\h.rd1 r0 0=some (.int .i64 p)/\h.rd1 r0 1=some (.sl sP 0 n capP)/\h.rd1 r0 2=some (.sl sB 0 n aj):=by
 refine⟨by rw[zZ a.obj];rfl,?_,?_,?_⟩<;>(rw[zI a.obj];rfl)
theorem GS.mv(a:GS E R F σ h s vC bs r0 p n sP capP sB aj)(m:Mv h s h')(H:So h' s vC bs):GS E R F σ h' s vC bs r0 p n sP capP sB aj:=by
 have hs:=a.sl;obtain⟨cs,ls,W,B,rs,f,ne⟩:=a.rs;exact⟨a.km.mv hs m,H,hs,by rw[m.obj (by have:=a.r0b.1;omega)];exact a.obj,⟨a.r0b.1,by rw[m.next];exact a.r0b.2⟩,⟨cs,ls,W,B,rs.mv hs m,f,ne⟩,λu x e=>by
  obtain⟨l,A,D,G⟩:=a.ex u x e;exact⟨by rw[m.obj (by omega)];exact l,A,by rw[m.next];exact D,G⟩⟩
theorem GS.keep(a:GS E R F σ h s vC bs r0 p n sP capP sB aj)(k:Keep h h'):GS E R F σ h' s vC bs r0 p n sP capP sB aj:=by
 obtain⟨cs,ls,W,B,rs,f,ne⟩:=a.rs;exact⟨a.km.keep k,a.so.keep k,a.sl,by rw[k.obj _ a.r0b.2];exact a.obj,⟨a.r0b.1,Yk a.r0b.2 k.next⟩,⟨cs,ls,W,B,rs.keep k,f,ne⟩,λu x e=>by
  obtain⟨A,D,l,G⟩:=a.ex u x e;exact⟨by rw[k.obj _ l];exact A,D,Yk l k.next,G⟩⟩
theorem GS.new(a:GS E R F σ h s vC bs r0 p n sP capP sB aj)(xs:List PV):GS E R F σ (h.new xs) s vC bs r0 p n sP capP sB aj:=a.keep (zC h xs)
theorem GS.newE{t:Nat}{x:V1}(a:GS E0 R F σ h s vC bs r0 p n sP capP sB aj)(l:t=h.next):GS (λu y=>u=t/\y=x) R F σ (h.new (pis x)) s vC bs r0 p n sP capP sB aj:=by
 subst l;have b:=a.new (pis x);obtain⟨cs,ls,W,B,rs,f,ne,_⟩:=b.rs;obtain⟨I,G,H,D,A,f',ne',_⟩:=a.rs;refine⟨b.km,b.so,b.sl,b.obj,b.r0b,⟨I,G,H,D,A.new _,f',ne',λu y e t l J=>?_⟩,λu y e=>?_⟩
 .have:=(A.lt l).2
  omega
 .obtain⟨rfl,rfl⟩:=e;exact⟨by rw[zH,if_pos rfl],by have:=a.km.next;omega,YP _,by have:=a.r0b.2;omega⟩
theorem GS.setE{t i:Nat}{x:V1}{y:Int}(a:GS (λu y=>u=t/\y=x) R F σ h s vC bs r0 p n sP capP sB aj)(H:i<x.length):
  ∃h',h.wr t i [.int .i64 y]=some h'/\GS (λu z=>u=t/\z=x.set i y) R F σ h' s vC bs r0 p n sP capP sB aj:=by
 obtain⟨D,l,G,A⟩:=a.ex t x ⟨rfl,rfl⟩;obtain⟨cs,ls,W,B,rs,f,ne,nx⟩:=a.rs;have hw:=zCQ (v:=.int .i64 y) D (by rw[zJ];exact H) rfl;rw[zKo]at hw;refine⟨_,hw,a.km.set l _,a.so.set (by have:=a.sl;omega) _,a.sl,by rw[zG,if_neg (Ne.symm A)];exact a.obj,a.r0b,⟨cs,ls,W,B,rs.move (λu I=>by rw[zG,if_neg (Ne.symm (nx t x ⟨rfl,rfl⟩ u I))]) (na _),f,ne,λu z e J M=>?_⟩,λu z e=>?_⟩
 .obtain⟨rfl,rfl⟩:=e;exact nx _ x ⟨rfl,rfl⟩ J M
 .obtain⟨rfl,rfl⟩:=e;exact⟨by rw[zG,if_pos rfl],l,G,A⟩
theorem GS.putP(a:GS E R F σ h s vC bs r0 p n sP capP sB aj){i:Nat}{v:PV}{w:V1}(Q:i<n)(l:FI v w)(M:∀W B,F W B->F' (W.set i w) B):
  ∃h',h.wr sP i [v]=some h'/\GS E R F' σ h' s vC bs r0 p n sP capP sB aj:=by
 obtain⟨cs,ls,W,B,rs,f,ne,nx⟩:=a.rs;obtain⟨w1,V⟩:=rs.putP Q l l.one;have I:=rs.P.2.2.1;have J:=ne _ (.inl rfl);refine⟨_,w1,a.km.set I _,a.so.set (by have:=a.sl;omega) _,a.sl,by rw[zG,if_neg J];exact a.obj,a.r0b,⟨_,ls,_,B,V,M W B f,ne,nx⟩,λu x e=>?_⟩;obtain⟨A,D,G,H⟩:=a.ex u x e;exact⟨by rw[zG,if_neg (nx u x e _ (.inl rfl))];exact A,D,G,H⟩
theorem GS.rdB(a:GS E R F σ h s vC bs r0 p n sP capP sB aj){i:Nat}(G:i<n)(D:∀W B,F W B->(B.getD i []).length=n-1-i):∃t cap,h.rd1 sB i=some (.sl t 0 (n-1-i) cap):=by
 obtain⟨cs,ls,W,B,rs,f,ne⟩:=a.rs;obtain⟨q,H,A,l⟩:=rs.rdB G;rw[D W B f]at l;exact⟨q.s,q.cap,by rw[A,LS.pv,l]⟩
theorem GS.putB{R':PV->V1->Prop}(a:GS E R F σ h s vC bs r0 p n sP capP sB aj){i k t l:Nat}{cap:Cap}{v:PV}{w:V1}(M:i<n)(V:h.rd1 sB i=some (.sl t 0 l cap))(Q:k<l)(hR:∀v w,R v w->R' v w)(hv:R' v w)(ho:v.one=true)(hF:∀W B,i<B.length->F W B->F' W (B.set i ((B.getD i []).set k w))):
    ∃h',h.wr t k [v]=some h'/\GS E R' F' σ h' s vC bs r0 p n sP capP sB aj/\h'.rd1 sB i=some (.sl t 0 l cap)/\h'.rd1 t k=some v:=by
  obtain⟨cs,ls,W,B,rs,f,ne,nx⟩:=a.rs;obtain⟨q,I,J,h3⟩:=rs.rdB M;rw[J,LS.pv,YD,PV.sl.injEq]at V;obtain⟨rfl,_,rfl,rfl⟩:=V;have xe:RS FI R' σ.next h n sP capP cs sB aj ls W B:=rs.imp rs.aP ⟨rs.aB.1,λj x y Y Z=>⟨(rs.aB.2 j x y Y Z).1,λj' x' y' dN kv=>hR _ _ ((rs.aB.2 j x y Y Z).2 j' x' y' dN kv)⟩⟩;obtain⟨w1,nZ⟩:=xe.putB I Q hv ho;have D:=Yf I;have g1:=(rs.lok q D).2.2.1;have g2:=ne _ (.inr (.inr ⟨q,D,rfl⟩));have g3:=rs.lne q D;have MT:i<B.length:=by rw[rs.lB];exact M
  have H:∀{X:Nat},(∀t,(t=sP\/t=sB\/∃q∈ls,q.s=t)->X≠t)->∀u,(u=sP\/u=sB\/∃G∈ls.set i ⟨q.s,q.cap,q.cs.set k v⟩,G.s=u)->X≠u:=λne u hu=>by
    rcases hu with e|e|⟨G,aR,e⟩
    .exact ne u (.inl e)
    .exact ne u (.inr (.inl e))
    . obtain⟨j,A⟩:=List.getElem?_of_mem aR
      rw[Yi]at A;split at A
      . first
        |(cases A;exact ne u (.inr (.inr ⟨q,D,e⟩)))
        | (split at A
           .cases A;exact ne u (.inr (.inr ⟨q,D,e⟩))
           .cases A)
      .exact ne u (.inr (.inr ⟨G,Yf A,e⟩))
  refine⟨_,w1,⟨a.km.set g1 _,a.so.set (by have:=a.sl;omega) _,a.sl,by rw[zG,if_neg g2];exact a.obj,a.r0b,⟨cs,_,W,_,nZ,hF W B MT f,H ne,λu x e=>H (nx u x e)⟩,λu x e=>?_⟩,?_,?_⟩
  . obtain⟨y1,y2,y3,y4⟩:=a.ex u x e
    exact⟨by rw[zG,if_neg (nx u x e _ (.inr (.inr ⟨q,D,rfl⟩)))];exact y1,y2,y3,y4⟩
  .rw[zE9,if_neg (Ne.symm g3.2)];exact J
  .rw[zE9,if_pos rfl,Yi,if_pos rfl,if_pos Q]
theorem GS.sBb{E:Nat->V1->Prop}(a:GS E R F σ h s vC bs r0 p n sP capP sB aj):σ.next<=sB/\sB<h.next:=by
 obtain⟨cs,ls,W,B,rs,_⟩:=a.rs;exact rs.Q.2.2
theorem Mv.rd1(m:Mv h s h'){u i:Nat}(l:u≠s):h'.rd1 u i=h.rd1 u i:=by simp only[PHeap.rd1,m.obj l]
theorem PWF.setS{D A:List PV}(w:PWF σ)(G:σ.obj s=some D)(H:Bels 0 A):PWF (σ.set s A):=by
 have hs:s<σ.next:=w.lt G;refine⟨λt l=>?_,λt cs l=>?_⟩
 .have dW:σ.next<=t:=l;rw[zG,if_neg (by omega)];exact w.wf t dW
 .rw[zG]at l;split at l
  .cases l;exact Bels.up (YW _) H
  .exact w.bel t cs l
theorem KM.fr{t o u:Nat}{xs:List PV}(k:KM σ s h)(w:PWF σ)(G:σ.next<=t)(J:h.top<=u):KM σ s (((h.kill t).sub t o xs).up u):=by
 obtain⟨σ',⟨I,l,A,D,rfl⟩,q⟩:=k;have H:Keep (σ.set s l) ((h.kill t).sub t o xs):=(q.kill (s:=t) (by exact G)).sub (PWF.setS w A D) (by exact G);exact⟨_,⟨I,l,A,D,rfl⟩,H.next,Y7 q.top J,H.obj⟩
theorem So.fr{t o u:Nat}{xs:List PV}(k:So h s vC bs)(l:s≠t):So (((h.kill t).sub t o xs).up u) s vC bs:=by
 obtain⟨a,A,S⟩:=k;refine⟨a,A,?_,S.lt,S.fb,S.byt,S.le,S.sd⟩
 have:=Qf (o:=o) (xs:=xs) l S.obj
 rw[Qg (YW _) (S.fb.bels 0 _ _)]at this;exact this
def FI2(t n:Nat)(cap:Cap)(X:V1)(v:PV)(w:V1):Prop:=FI v w\/(v=.sl t 0 n cap/\w=X)
theorem natlt:((0:Int)<((1:Nat):Int))/\((0:Int)<((2:Nat):Int))/\((0:Int)<((3:Nat):Int))/\((0:Int)<((4:Nat):Int))/\((0:Int)<((5:Nat):Int))/\((0:Int)<((6:Nat):Int))/\((1:Int)<((2:Nat):Int))/\((1:Int)<((3:Nat):Int))/\((1:Int)<((4:Nat):Int))/\((1:Int)<((5:Nat):Int))/\((1:Int)<((6:Nat):Int))/\((2:Int)<((3:Nat):Int))/\((2:Int)<((4:Nat):Int))/\((2:Int)<((5:Nat):Int))/\((2:Int)<((6:Nat):Int))/\((3:Int)<((4:Nat):Int))/\((3:Int)<((5:Nat):Int))/\((3:Int)<((6:Nat):Int)):=by decide
theorem ownFI{v:PV}{xs:V1}(G:FI v xs)(A:xs.length<=4294967296)(D:∀l,FI l xs->K l σ):zA Tryz.prog 206 [v] σ K:=by
 obtain⟨w,a,rfl⟩:=G;exact zHB rfl A λv=>D _ ⟨_,_,rfl⟩
end
section
variable{s b r0:Nat}{cs:List PV}{ls:List LS}{F':V2->V3->Prop}
theorem zL0(so:So σ s vC bs)
  (hk:∀p n sP capP cs sB aj ls h W B,isP p->1<=n->ipow p n<=729->OkF p n W B->KM σ s h->So h s vC bs->RS FI FI σ.next h n sP capP cs sB aj ls W B->K (.agg [.int .i64 p,.sl sP 0 n capP,.sl sB 0 n aj]) h):
  zA Tryz.prog 181 [.ptr s 0] σ K:=by
 refine zA.pwf λw=>?_;have gF:=so.lt;refine zA.gh ?_;generalize hT:σ.new [.int .i64 0,.fz true .nils 0 [],.fz true .nils 0 []]=T;have cZ:T.next=σ.next+1:=by rw[<-hT];rfl
 have fB:Keep σ T:=by rw[<-hT];exact zC σ _
 have sy:So T s vC bs:=so.keep fB;have oA:s<T.next:=sy.lt;have uR:T.obj σ.next=some [.int .i64 0,.fz true .nils 0 [],.fz true .nils 0 []]:=by rw[<-hT];simp only[Z3,seval,-ae]
 refine qG mix Tryz.func181 ?_;simp only[Z3,seval,-ae];rw[hT];refine zV sy (by decide) λD h1 oS m1 dh=>?_;have LJ:=oS.1;have LH:=oS.lt (by decide);simp only[Z3,seval,-ae];refine zV dh (by decide) λx h2 hx m2 bu=>?_;have x0:=hx.1;have x4:=hx.lt (by decide);have wx:IntKind.i64.wrap (1+x)=1+x:=WE;obtain⟨n,dQ,be,If,vh⟩:∃n:Nat,1<=n/\n<=6/\([1+x,3,4,4,5,5,6,3]:V1)[D.toNat]? = some (n:Int)/\(D=0\/(D=1/\n=3)\/(D=2/\n=4)\/(D=3/\n=4)\/(D=4/\n=5)\/(D=5/\n=5)\/(D=6/\n=6)\/(D=7/\n=3)):=by
  have e:D=0\/D=1\/D=2\/D=3\/D=4\/D=5\/D=6\/D=7:=by omega
  rcases e with rfl|rfl|rfl|rfl|rfl|rfl|rfl|rfl
  .exact⟨(1+x).toNat,by omega,by omega,by simp;omega,.inl rfl⟩
  .exact⟨3,by omega,by omega,rfl,by simp⟩
  .exact⟨4,by omega,by omega,rfl,by simp⟩
  .exact⟨4,by omega,by omega,rfl,by simp⟩
  .exact⟨5,by omega,by omega,rfl,by simp⟩
  .exact⟨5,by omega,by omega,rfl,by simp⟩
  .exact⟨6,by omega,by omega,rfl,by simp⟩
  .exact⟨3,by omega,by omega,rfl,by simp⟩
 have jX:([PV.int .i64 (1+x),.int .i64 3,.int .i64 4,.int .i64 4,.int .i64 5,.int .i64 5,.int .i64 6,.int .i64 3]:List PV)[D.toNat]? = some (.int .i64 (n:Int)):=by
  have:=congrArg (Option.map (PV.int .i64)) If
  rw[<-UU]at this;exact this
 have Fk:0<=D/\D<((8:Nat):Int):=⟨LJ,LH⟩;simp only[Z3,seval,-ae,wx,jX,Fk];have cQ:So (h2.new [PV.int .i64 (1+x),.int .i64 3,.int .i64 4,.int .i64 4,.int .i64 5,.int .i64 5,.int .i64 6,.int .i64 3]) s vC bs:=bu.keep (zC _ _);have c9:KM T s (h2.new [PV.int .i64 (1+x),.int .i64 3,.int .i64 4,.int .i64 4,.int .i64 5,.int .i64 5,.int .i64 6,.int .i64 3]):=((sy.km.mv oA m1).mv oA m2).new _;generalize h2.new [PV.int .i64 (1+x),.int .i64 3,.int .i64 4,.int .i64 4,.int .i64 5,.int .i64 5,.int .i64 6,.int .i64 3]=h3 at *
 clear If jX;refine zIY cQ be λp h4 hp bh m4 dK=>?_;have fW:=c9.mv oA m4;have gX:=hp.bd;have H:2<=p/\p<=7:=by omega
 simp only[Z3,seval,-ae];refine zF3 dQ be λsP capP cs sB aj ls h5 k5 pF=>?_;have fR:=dK.keep k5;have gA:=fW.keep k5;have Ox:=k5.next;have I7:=fW.next;have sn:IntKind.i64.wrap ((n:Int)-1)=((n-1:Nat):Int):=WQ
 have lI:okp p:=gX;have gs:GS E0 FI (OkF p n) T (h5.new [.int .i64 p,.sl sP 0 n capP,.sl sB 0 n aj]) s vC bs h5.next p n sP capP sB aj:=
  ⟨gA.new _,fR.keep (zC _ _),oA,by rw[zH,if_pos rfl],⟨by omega,YP _⟩,⟨cs,ls,_,_,(pF.low I7).new _,OkF.zero lI be,λt ht e=>by have:=(pF.lt ht).2;omega,λu x e=>e.elim⟩,λu x e=>e.elim⟩
 clear pF;have fin:∀{g:PHeap},GS E0 FI (OkF p n) T g s vC bs h5.next p n sP capP sB aj->g.rd h5.next 0 3=some [.int .i64 p,.sl sP 0 n capP,.sl sB 0 n aj]/\g.wr σ.next 0 [.int .i64 p,.sl sP 0 n capP,.sl sB 0 n aj]=some (g.set σ.next [.int .i64 p,.sl sP 0 n capP,.sl sB 0 n aj])
   /\(g.set σ.next [.int .i64 p,.sl sP 0 n capP,.sl sB 0 n aj]).rd σ.next 0 3=some [.int .i64 p,.sl sP 0 n capP,.sl sB 0 n aj]/\Gh σ K (.agg [.int .i64 p,.sl sP 0 n capP,.sl sB 0 n aj]) (g.set σ.next [.int .i64 p,.sl sP 0 n capP,.sl sB 0 n aj]):=λ{g} a=>by
  have aX:g.obj σ.next=some [.int .i64 0,.fz true .nils 0 [],.fz true .nils 0 []]:=by rw[a.km.obj (by omega) (by omega)];exact uR
  obtain⟨cs,ls,W,B,rs,f,ne,_⟩:=a.rs;refine⟨a.rd.1,by rw[zT aX,if_pos ⟨by simp,by rfl⟩];rfl,by rw[qH,if_pos rfl];rfl,Gh.ret (hk p n sP capP cs sB aj ls _ W B hp dQ bh f ?_ (a.so.set (by omega) _) ((rs.low (by omega)).move (λt ht=>?_) (na _)))⟩
  .exact((so.kmK fB).trans gF a.km).set (na _) _
  .have:=(rs.lt ht).1
   rw[zG,if_neg (by omega)]
 have V:∀{W:V2} {B:V3} {i:Nat},OkF p n W B->i<n->(B.getD i []).length=n-1-i:=λ{W B i} q hi=>by
  have h1:i<B.length:=by rw[q.b.len];exact hi
  rw[zO h1];exact q.b.row i h1
 have hle:El p n (unitL n (n-1)):=qA lI (by omega);simp only[Z3,seval,-ae,sn];refine Qk (n:=n) (k:=n-1) rfl rfl rfl (by omega) (by omega) λvl A=>?_;generalize h5.new [PV.int .i64 p,.sl sP 0 n capP,.sl sB 0 n aj]=g5 at *
 generalize h5.next=r0 at *
 clear m1 m2 m4 dh bu cQ dK fR c9 fW gA k5 Ox I7;rcases vh with rfl|⟨rfl,rfl⟩|⟨rfl,rfl⟩|⟨rfl,rfl⟩|⟨rfl,rfl⟩|⟨rfl,rfl⟩|⟨rfl,rfl⟩|⟨rfl,rfl⟩
 .as_aux_lemma=>
  simp only[Z3,seval,-ae];refine zF (λm us g=>∃i:Nat,i<=n/\m=n-i/\us=[.ptr s 0,.ptr σ.next 0,.int .i64 n,.ptr r0 0,.int .i64 i]/\GS E0 FI (OkF p n) T g s vC bs r0 p n sP capP sB aj) n ⟨0,by omega,by omega,rfl,gs⟩ ?_
  rintro m us g ⟨i,hi,rfl,rfl,a⟩
  simp only[Z3,seval,-ae];refine iteI (λah=>?_) λaF=>?_;rotate_left
  .obtain⟨I,G,J,M⟩:=fin a;simp only[Z3,seval,-ae,I,G,J];exact M
  have aD:i<n:=by omega
  have bM:IntKind.i64.wrap ((i:Int)+1)=((i+1:Nat):Int):=wrapS aD (by omega);obtain⟨Q,Z,X,Y⟩:=a.rd;simp only[Z3,seval,-ae,Q,X,bM];refine zn (vP:=.sl sP 0 n capP) (vB:=.sl sB 0 n aj) (n:=n) (k:=i+1) a.so H rfl rfl rfl (by omega) (by omega) λv x k hx hz hv m so=>?_;have gt:=a.mv m so;obtain⟨p3,p0,p1,p2⟩:=gt.rd;obtain⟨h9,w9,px⟩:=gt.putP (F':=OkF p n) (i:=i) (w:=x) aD hv (λW B q=>q.setP hx (λj l=>hz j (by omega)));simp only[Z3,seval,-ae,p1,w9,hv.cells,aD,bM];exact⟨_,by omega,i+1,by omega,rfl,rfl,px⟩
 .as_aux_lemma=>
  simp only[Z3,seval,-ae];obtain⟨OR,Pd,O3,GP⟩:=gs.rd;obtain⟨Rf,SN,xn⟩:=gs.rdB (i:=0) (by omega) (λW B q=>V q (by omega));obtain⟨N1,Bv,kQ,_⟩:=gs.putB (F':=OkF p 3) (i:=0) (k:=0) (by omega) xn (by omega) (λ_ _ h=>h) A A.one (λW B _ q=>q.setB (by omega) hle (λj l=>by rw[zb (by omega),if_neg (by omega)]));simp only[Z3,seval,-ae,GP,xn,Bv,natlt,A.cells];obtain⟨GM,Pc,GW,OX⟩:=kQ.rd;simp only[Z3,seval,-ae,GM,GW,natlt];refine zn (vP:=.sl sP 0 3 capP) (vB:=.sl sB 0 3 aj) (n:=3) (k:=2) kQ.so H rfl rfl rfl (by omega) (by omega) λPX JQ RD Eo Eh yh Ls Dh=>?_;have AS:=kQ.mv Ls Dh;obtain⟨KZ,La,DG,K5⟩:=AS.rd;obtain⟨NQ,Bu,jP⟩:=AS.putP (F':=OkF p 3) (i:=0) (w:=JQ) (by omega) yh (λW B q=>q.setP Eo (λj l=>Eh j (by omega)));simp only[Z3,seval,-ae,DG,Bu,natlt,yh.cells];obtain⟨GK,Pb,GV,OW⟩:=jP.rd;simp only[Z3,seval,-ae,GK,GV,natlt];refine zn (vP:=.sl sP 0 3 capP) (vB:=.sl sB 0 3 aj) (n:=3) (k:=2) jP.so H rfl rfl rfl (by omega) (by omega) λPU JP RC En Eg yg Lr Dg=>?_;have AQ:=jP.mv Lr Dg;obtain⟨KY,K9,DF,K4⟩:=AQ.rd;obtain⟨NO,Bt,ni⟩:=AQ.putP (F':=OkF p 3) (i:=1) (w:=JP) (by omega) yg (λW B q=>q.setP En (λj l=>Eg j (by omega)));simp only[Z3,seval,-ae,DF,Bt,natlt,yg.cells];obtain⟨I,G,J,M⟩:=fin ni;simp only[Z3,seval,-ae,I,G,J];exact M
 .as_aux_lemma=>
  simp only[Z3,seval,-ae];obtain⟨Q,Z,X,Y⟩:=gs.rd;obtain⟨t,c,rB⟩:=gs.rdB (i:=0) (by omega) (λW B q=>V q (by omega));have Mu:=gs.sBb;simp only[Z3,seval,-ae,Q,Y,rB,natlt];refine zF1 (vP:=.sl sP 0 4 capP) (vB:=.sl sB 0 4 aj) (n:=4) (k:=2) gs.so H rfl rfl rfl (by omega) (by omega) λx k cap hx hz bV m Ky=>?_;have gt:=(gs.mv m Ky).newE (t:=g5.next) (x:=x) m.next.symm;obtain⟨p3,p0,p1,p2⟩:=gt.rd;have sE:(k.new (pis x)).rd1 sB 0=some (.sl t 0 (4-1-0) c):=by rw[zFA,if_neg (by rw[m.next];omega),m.rd1 (by omega)];exact rB
  have bp:=hx.1;have hX:El p 4 (x.set 2 1):=⟨by rw[YC];exact bp,λz dT=>by
   rcases List.mem_or_eq_of_mem_set dT with e|e
   .exact hx.2 z e
   .omega⟩
  have N4:=hX.1;obtain⟨N1,Bv,kQ,q1,q2⟩:=gt.putB (R':=FI2 g5.next 4 cap (x.set 2 1)) (F':=OkF p 4) (i:=0) (k:=0) (w:=x.set 2 1) (v:=.sl g5.next 0 4 cap) (by omega) sE (by omega) (λ_ _ h=>.inl h) (.inr ⟨rfl,rfl⟩) rfl (λW B _ q=>q.setB (by omega) hX (λj l=>by rw[at_set (by omega),if_neg (by omega)];exact hz j (by omega)));generalize g5.next=t0 at *
  generalize k.new (pis x)=g6 at *
  simp only[Z3,seval,-ae,p2,sE,natlt,Bv];clear Q Z X Y rB p3 p0 p1 p2 sE Bv;obtain⟨Q,Z,X,Y⟩:=kQ.rd;obtain⟨NQ,Bu,jP⟩:=kQ.setE (i:=2) (y:=1) (by omega);simp only[Z3,seval,-ae,Y,q1,q2,natlt,Bu];clear Q Z X Y q1 q2 Bu;obtain⟨Q,Z,X,Y⟩:=jP.rd;obtain⟨t3,c3,rB⟩:=jP.rdB (i:=0) (by omega) (λW B q=>V q (by omega));obtain⟨NO,Bt,ni,_⟩:=jP.putB (R':=FI2 t0 4 cap (x.set 2 1)) (F':=OkF p 4) (i:=0) (k:=1) (by omega) rB (by omega) (λ_ _ h=>h) (.inl A) A.one (λW B _ q=>q.setB (by omega) hle (λj l=>by rw[zb (by omega),if_neg (by omega)]));simp only[Z3,seval,-ae,Y,rB,Bt,natlt,A.cells];clear Q Z X Y rB Bt;obtain⟨Q,Z,X,Y⟩:=ni.rd;simp only[Z3,seval,-ae,Q,X,natlt];refine zn (vP:=.sl sP 0 4 capP) (vB:=.sl sB 0 4 aj) (n:=4) (k:=3) ni.so H rfl rfl rfl (by omega) (by omega) λv4 x4 k4 BO Mc s9 m4 dK=>?_;have Jb:=ni.mv m4 dK;obtain⟨p3,p0,p1,p2⟩:=Jb.rd;obtain⟨NN,Bs,jO⟩:=Jb.putP (F':=OkF p 4) (i:=0) (w:=x4) (by omega) s9 (λW B q=>q.setP BO (λj l=>Mc j (by omega)));simp only[Z3,seval,-ae,p1,Bs,natlt,s9.cells];clear Q Z X Y p3 p0 p1 p2 Bs;obtain⟨Q,Z,X,Y⟩:=jO.rd;simp only[Z3,seval,-ae,Q,X,natlt];refine zn (vP:=.sl sP 0 4 capP) (vB:=.sl sB 0 4 aj) (n:=4) (k:=3) jO.so H rfl rfl rfl (by omega) (by omega) λv5 x5 k5 HU Mb HY m5 fR=>?_;have Ja:=jO.mv m5 fR;obtain⟨p3,p0,p1,p2⟩:=Ja.rd;obtain⟨rE,CP,a⟩:=Ja.putP (F':=OkF p 4) (i:=1) (w:=x5) (by omega) HY (λW B q=>q.setP HU (λj l=>Mb j (by omega)));have aX:rE.obj σ.next=some [.int .i64 0,.fz true .nils 0 [],.fz true .nils 0 []]:=by rw[a.km.obj (by omega) (by omega)];exact uR
  have u1:rE.wr σ.next 0 [.int .i64 p,.sl sP 0 4 capP,.sl sB 0 4 aj]=some (rE.set σ.next [.int .i64 p,.sl sP 0 4 capP,.sl sB 0 4 aj]):=by rw[zT aX,if_pos ⟨by simp,by rfl⟩];rfl
  have u2:(rE.set σ.next [.int .i64 p,.sl sP 0 4 capP,.sl sB 0 4 aj]).rd σ.next 0 3=some [.int .i64 p,.sl sP 0 4 capP,.sl sB 0 4 aj]:=by rw[qH,if_pos rfl];rfl
  obtain⟨y3,y0,y1,y2⟩:=a.rd;simp only[Z3,seval,-ae,p1,CP,natlt,HY.cells,y3,u1,u2];obtain⟨cs,ls,W,B,rs,f,ne,nx⟩:=a.rs;obtain⟨z1,z2,z3,z4⟩:=a.ex t0 _ ⟨rfl,rfl⟩;have sM:=nx t0 _ ⟨rfl,rfl⟩;have KC:RS FI (FI2 t0 4 cap (x.set 2 1)) T.next (rE.set σ.next [.int .i64 p,.sl sP 0 4 capP,.sl sB 0 4 aj]) 4 sP capP cs sB aj ls W B:=rs.move (λt ht=>by
   have:=(rs.lt ht).1
   rw[zG,if_neg (by omega)]) (na _)
  have pN:KM σ s (rE.set σ.next [.int .i64 p,.sl sP 0 4 capP,.sl sB 0 4 aj]):=((so.kmK fB).trans gF a.km).set (na _) _;have pE:So (rE.set σ.next [.int .i64 p,.sl sP 0 4 capP,.sl sB 0 4 aj]) s vC bs:=a.so.set (by omega) _;refine Gh.freezeH (s:=t0) (cs:=pis (x.set 2 1)) (by rw[zG,if_neg (by omega)];exact z1) (by omega) (zL _ _) λo1 g1 g2 g3=>?_;have n1:sP≠t0:=Ne.symm (sM _ (.inl rfl));have n2:sB≠t0:=Ne.symm (sM _ (.inr (.inl rfl)));have Dt:=KC.fzh (RP':=FI) (R':=FI) (t:=t0) (o:=o1) (xs:=pis (x.set 2 1)) ⟨sM _ (.inl rfl),sM _ (.inr (.inl rfl)),λq hq=>Ne.symm (sM _ (.inr (.inr ⟨q,hq,rfl⟩)))⟩ (λv w hv=>by rw[hv.sb];exact hv) (λv w hv=>by
   rcases hv with e|⟨e,G⟩
   .rw[e.sb];exact e
   .rw[e,G];simp only[sb,bV.ok,and_self,if_true];exact⟨true,_,by rw[N4]⟩)
  simp only[sb,sbs,n1,n2,false_and,if_false];exact Gh.ret (hk p 4 sP capP _ sB aj _ _ W B hp (by omega) bh f (pN.fr w (by omega) (by show _<=max _ _;omega)) (pE.fr (by omega)) ((Dt.low (by omega)).move (λ_ _=>rfl) (na _)))
 .as_aux_lemma=>
  simp only[Z3,seval,-ae];obtain⟨OQ,Pa,O0,GO⟩:=gs.rd;obtain⟨Re,SL,xm⟩:=gs.rdB (i:=0) (by omega) (λW B q=>V q (by omega));obtain⟨NN,Bs,jO,_⟩:=gs.putB (F':=OkF p 4) (i:=0) (k:=0) (by omega) xm (by omega) (λ_ _ h=>h) A A.one (λW B _ q=>q.setB (by omega) hle (λj l=>by rw[zb (by omega),if_neg (by omega)]));simp only[Z3,seval,-ae,GO,xm,Bs,natlt,A.cells];obtain⟨GJ,O9,GU,OV⟩:=jO.rd;simp only[Z3,seval,-ae,GJ,GU,natlt];refine zn (vP:=.sl sP 0 4 capP) (vB:=.sl sB 0 4 aj) (n:=4) (k:=2) jO.so H rfl rfl rfl (by omega) (by omega) λPT JO RB Em Ee yf Lq Df=>?_;have AP:=jO.mv Lq Df;obtain⟨KX,K8,DE,K3⟩:=AP.rd;obtain⟨rE,CP,uF⟩:=AP.putP (F':=OkF p 4) (i:=0) (w:=JO) (by omega) yf (λW B q=>q.setP Em (λj l=>Ee j (by omega)));simp only[Z3,seval,-ae,DE,CP,natlt,yf.cells];obtain⟨GI,O8,GR,OU⟩:=uF.rd;simp only[Z3,seval,-ae,GI,GR,natlt];refine zn (vP:=.sl sP 0 4 capP) (vB:=.sl sB 0 4 aj) (n:=4) (k:=2) uF.so H rfl rfl rfl (by omega) (by omega) λPS JN RA Ek Ed ye Lp De=>?_;have AO:=uF.mv Lp De;obtain⟨KW,K7,DD,K2⟩:=AO.rd;obtain⟨Sj,J7,uE⟩:=AO.putP (F':=OkF p 4) (i:=1) (w:=JN) (by omega) ye (λW B q=>q.setP Ek (λj l=>Ed j (by omega)));simp only[Z3,seval,-ae,DD,J7,natlt,ye.cells];obtain⟨GH,O7,GQ,OS⟩:=uE.rd;simp only[Z3,seval,-ae,GH,GQ,natlt];refine zn (vP:=.sl sP 0 4 capP) (vB:=.sl sB 0 4 aj) (n:=4) (k:=3) uE.so H rfl rfl rfl (by omega) (by omega) λPO JM Rz Ej Ec yd Lo Dd=>?_;have AN:=uE.mv Lo Dd;obtain⟨KV,K6,DC,K0⟩:=AN.rd;obtain⟨Si,J6,GF⟩:=AN.putP (F':=OkF p 4) (i:=2) (w:=JM) (by omega) yd (λW B q=>q.setP Ej (λj l=>Ec j (by omega)));simp only[Z3,seval,-ae,DC,J6,natlt,yd.cells];obtain⟨I,G,J,M⟩:=fin GF;simp only[Z3,seval,-ae,I,G,J];exact M
 .as_aux_lemma=>
  simp only[Z3,seval,-ae];obtain⟨OP,O6,OZ,GN⟩:=gs.rd;obtain⟨Rd,SK,xk⟩:=gs.rdB (i:=0) (by omega) (λW B q=>V q (by omega));obtain⟨Sh,J5,uD,_⟩:=gs.putB (F':=OkF p 5) (i:=0) (k:=0) (by omega) xk (by omega) (λ_ _ h=>h) A A.one (λW B _ q=>q.setB (by omega) hle (λj l=>by rw[zb (by omega),if_neg (by omega)]));simp only[Z3,seval,-ae,GN,xk,J5,natlt,A.cells];obtain⟨OO,O4,OY,Ba⟩:=uD.rd;obtain⟨Rc,SJ,sD⟩:=uD.rdB (i:=2) (by omega) (λW B q=>V q (by omega));simp only[Z3,seval,-ae,Ba,sD,natlt];refine ownFI A (by rw[zQ];omega) λPN s6=>?_;obtain⟨Sg,J4,uB,_⟩:=uD.putB (F':=OkF p 5) (i:=2) (k:=0) (by omega) sD (by omega) (λ_ _ h=>h) s6 s6.one (λW B _ q=>q.setB (by omega) hle (λj l=>by rw[zb (by omega),if_neg (by omega)]));simp only[Z3,seval,-ae,Ba,sD,J4,natlt,s6.cells];obtain⟨A9,JF,Bj,Jn⟩:=uB.rd;simp only[Z3,seval,-ae,A9,Bj,natlt];refine zn (vP:=.sl sP 0 5 capP) (vB:=.sl sB 0 5 aj) (n:=5) (k:=4) uB.so H rfl rfl rfl (by omega) (by omega) λKm CN LO xZ xN pZ DZ xc=>?_;have rT:=uB.mv DZ xc;obtain⟨Hn,Hy,xv,Hs⟩:=rT.rd;obtain⟨N0,C6,AY⟩:=rT.putP (F':=OkF p 5) (i:=0) (w:=CN) (by omega) pZ (λW B q=>q.setP xZ (λj l=>xN j (by omega)));simp only[Z3,seval,-ae,xv,C6,natlt,pZ.cells];obtain⟨I,G,J,M⟩:=fin AY;simp only[Z3,seval,-ae,I,G,J];exact M
 .as_aux_lemma=>
  simp only[Z3,seval,-ae];obtain⟨A8,JE,Ju,sg⟩:=gs.rd;obtain⟨Kw,Px,lG⟩:=gs.rdB (i:=0) (by omega) (λW B q=>V q (by omega));simp only[Z3,seval,-ae,A8,sg,lG,natlt];refine Qk (vP:=.sl sP 0 5 capP) (vB:=.sl sB 0 5 aj) (n:=5) (k:=3) rfl rfl rfl (by omega) (by omega) λKl lS=>?_;obtain⟨NZ,C4,nv,_⟩:=gs.putB (F':=OkF p 5) (i:=0) (k:=0) (by omega) lG (by omega) (λ_ _ h=>h) lS lS.one (λW B _ q=>q.setB (by omega) (qA q.w.pr (by omega)) (λj l=>by rw[zb (by omega),if_neg (by omega)]));simp only[Z3,seval,-ae,sg,lG,C4,natlt,lS.cells];obtain⟨Ji,JD,Jt,Be⟩:=nv.rd;obtain⟨Kv,Pw,pI⟩:=nv.rdB (i:=0) (by omega) (λW B q=>V q (by omega));obtain⟨NY,CZ,nu,_⟩:=nv.putB (F':=OkF p 5) (i:=0) (k:=1) (by omega) pI (by omega) (λ_ _ h=>h) A A.one (λW B _ q=>q.setB (by omega) hle (λj l=>by rw[zb (by omega),if_neg (by omega)]));simp only[Z3,seval,-ae,Be,pI,CZ,natlt,A.cells];obtain⟨A7,JC,Bi,Jm⟩:=nu.rd;simp only[Z3,seval,-ae,A7,Bi,natlt];refine zn (vP:=.sl sP 0 5 capP) (vB:=.sl sB 0 5 aj) (n:=5) (k:=3) nu.so H rfl rfl rfl (by omega) (by omega) λKk CM LN xY xM pY DY wZ=>?_;have rS:=nu.mv DY wZ;obtain⟨Hm,Hx,xu,Hr⟩:=rS.rd;obtain⟨NX,CY,nq⟩:=rS.putP (F':=OkF p 5) (i:=1) (w:=CM) (by omega) pY (λW B q=>q.setP xY (λj l=>xM j (by omega)));simp only[Z3,seval,-ae,xu,CY,natlt,pY.cells];obtain⟨A6,JB,Bh,Jl⟩:=nq.rd;simp only[Z3,seval,-ae,A6,Bh,natlt];refine zn (vP:=.sl sP 0 5 capP) (vB:=.sl sB 0 5 aj) (n:=5) (k:=3) nq.so H rfl rfl rfl (by omega) (by omega) λKj CK LM xX xL pX DX wW=>?_;have rR:=nq.mv DX wW;obtain⟨Hl,Hw,xr,Hq⟩:=rR.rd;obtain⟨NW,CX,AX⟩:=rR.putP (F':=OkF p 5) (i:=0) (w:=CK) (by omega) pX (λW B q=>q.setP xX (λj l=>xL j (by omega)));simp only[Z3,seval,-ae,xr,CX,natlt,pX.cells];obtain⟨I,G,J,M⟩:=fin AX;simp only[Z3,seval,-ae,I,G,J];exact M
 .as_aux_lemma=>
  simp only[Z3,seval,-ae];obtain⟨A5,JA,Js,sf⟩:=gs.rd;obtain⟨Ku,Pv,lF⟩:=gs.rdB (i:=0) (by omega) (λW B q=>V q (by omega));simp only[Z3,seval,-ae,A5,sf,lF,natlt];refine Qk (vP:=.sl sP 0 6 capP) (vB:=.sl sB 0 6 aj) (n:=6) (k:=3) rfl rfl rfl (by omega) (by omega) λKi lR=>?_;obtain⟨NV,CW,np,_⟩:=gs.putB (F':=OkF p 6) (i:=0) (k:=0) (by omega) lF (by omega) (λ_ _ h=>h) lR lR.one (λW B _ q=>q.setB (by omega) (qA q.w.pr (by omega)) (λj l=>by rw[zb (by omega),if_neg (by omega)]));simp only[Z3,seval,-ae,sf,lF,CW,natlt,lR.cells];obtain⟨A4,Jz,Jr,rX⟩:=np.rd;obtain⟨Kt,Pu,lE⟩:=np.rdB (i:=0) (by omega) (λW B q=>V q (by omega));simp only[Z3,seval,-ae,A4,rX,lE,natlt];refine Qk (vP:=.sl sP 0 6 capP) (vB:=.sl sB 0 6 aj) (n:=6) (k:=4) rfl rfl rfl (by omega) (by omega) λKh lQ=>?_;obtain⟨NU,CV,nl,_⟩:=np.putB (F':=OkF p 6) (i:=0) (k:=1) (by omega) lE (by omega) (λ_ _ h=>h) lQ lQ.one (λW B _ q=>q.setB (by omega) (qA q.w.pr (by omega)) (λj l=>by rw[zb (by omega),if_neg (by omega)]));simp only[Z3,seval,-ae,rX,lE,CV,natlt,lQ.cells];obtain⟨Jh,Jy,Jq,Bd⟩:=nl.rd;obtain⟨Ks,Pt,pH⟩:=nl.rdB (i:=1) (by omega) (λW B q=>V q (by omega));obtain⟨NT,CU,AW,_⟩:=nl.putB (F':=OkF p 6) (i:=1) (k:=0) (by omega) pH (by omega) (λ_ _ h=>h) A A.one (λW B _ q=>q.setB (by omega) hle (λj l=>by rw[zb (by omega),if_neg (by omega)]));simp only[Z3,seval,-ae,Bd,pH,CU,natlt,A.cells];obtain⟨I,G,J,M⟩:=fin AW;simp only[Z3,seval,-ae,I,G,J];exact M
 .as_aux_lemma=>
  simp only[Z3,seval,-ae];obtain⟨Jg,Jx,Jp,Bb⟩:=gs.rd;obtain⟨Kr,Pr,pG⟩:=gs.rdB (i:=0) (by omega) (λW B q=>V q (by omega));obtain⟨NS,CT,nk,_⟩:=gs.putB (F':=OkF p 3) (i:=0) (k:=0) (by omega) pG (by omega) (λ_ _ h=>h) A A.one (λW B _ q=>q.setB (by omega) hle (λj l=>by rw[zb (by omega),if_neg (by omega)]));simp only[Z3,seval,-ae,Bb,pG,CT,natlt,A.cells];obtain⟨A3,Jw,Bg,Jk⟩:=nk.rd;simp only[Z3,seval,-ae,A3,Bg,natlt];refine zn (vP:=.sl sP 0 3 capP) (vB:=.sl sB 0 3 aj) (n:=3) (k:=2) nk.so H rfl rfl rfl (by omega) (by omega) λKg CJ LL xW xK pW DW wV=>?_;have rN:=nk.mv DW wV;obtain⟨Hk,Hv,xq,Hp⟩:=rN.rd;obtain⟨NR,CS,nj⟩:=rN.putP (F':=OkF p 3) (i:=0) (w:=CJ) (by omega) pW (λW B q=>q.setP xW (λj l=>xK j (by omega)));simp only[Z3,seval,-ae,xq,CS,natlt,pW.cells];obtain⟨A2,Jv,Bf,Jj⟩:=nj.rd;simp only[Z3,seval,-ae,A2,Bf,natlt];refine zn (vP:=.sl sP 0 3 capP) (vB:=.sl sB 0 3 aj) (n:=3) (k:=2) nj.so H rfl rfl rfl (by omega) (by omega) λKf CI LK xV xJ pV DU wU=>?_;have rL:=nj.mv DU wU;obtain⟨Hj,Hu,xp,Ho⟩:=rL.rd;obtain⟨NP,CQ,AU⟩:=rL.putP (F':=OkF p 3) (i:=1) (w:=CI) (by omega) pV (λW B q=>q.setP xV (λj l=>xJ j (by omega)));simp only[Z3,seval,-ae,xp,CQ,natlt,pV.cells];obtain⟨I,G,J,M⟩:=fin AU;simp only[Z3,seval,-ae,I,G,J];exact M
variable{vP vB:PV}
theorem zL1(A:So σ s vC bs)(M:∀p n vP vB W B h,isP p->ipow p n<=729->OkF p n W B->IsR vP vB W B->Mv σ s h->So h s vC bs->K (.agg [.int .i64 p,vP,vB]) h):zA Tryz.prog 181 [.ptr s 0] σ K:=
 zA.gh (zL0 A λp n sP capP cs sB aj ls h W B Q X G I km H rs=>Gh.km km H A.lt λσ' l D V=>RS.fin (rs.low (b':=σ'.next) (by rw[l.next];exact na _)) V (na _) λvP vB J=>M p n vP vB W B σ' Q G I J l D)
theorem zLt(so:So σ s vC bs)(hk:∀p n vP vB W B h,isP p->ipow p n<=729->OkF p n W B->IsR vP vB W B->Mv σ s h->So h s vC bs->K (.agg [.int .i64 p,vP,vB]) h):zA Tryz.prog 112 [.ptr s 0] σ K:=by
 have gF:=so.lt;refine zA.gh ?_;generalize hT:σ.new [.int .i64 0,.fz true .nils 0 [],.fz true .nils 0 []]=T;have cZ:T.next=σ.next+1:=by rw[<-hT];rfl
 have fB:Keep σ T:=by rw[<-hT];exact zC σ _
 have sy:So T s vC bs:=so.keep fB;have oA:s<T.next:=sy.lt;have uR:T.obj σ.next=some [.int .i64 0,.fz true .nils 0 [],.fz true .nils 0 []]:=by rw[<-hT];simp only[Z3,seval,-ae]
 have aX:∀{g:PHeap} {u0 u1 u2:PV},KM T s g->u0.one=true->u1.one=true->u2.one=true->g.wr σ.next 0 [u0,u1,u2]=some (g.set σ.next [u0,u1,u2])/\(g.set σ.next [u0,u1,u2]).rd σ.next 0 3=some [u0,u1,u2]:=λ{g u0 u1 u2} k z0 z1 z2=>by
  have aX:g.obj σ.next=some [.int .i64 0,.fz true .nils 0 [],.fz true .nils 0 []]:=by rw[k.obj (by omega) (by omega)];exact uR
  exact⟨by rw[zT aX,if_pos ⟨by simp,by simp only[List.all_cons,List.all_nil,z0,z1,z2];rfl⟩];rfl,by rw[qH,if_pos rfl];rfl⟩
 refine zD mix Tryz.func112 ?_;simp only[Z3,seval,-ae];rw[hT];refine zL1 sy λl n1 Q V W1 B1 I gZ EX Gm jo m1 dh=>?_;have eQ:=sy.km.mv oA m1;have g1:=jo.P.one;have g2:=jo.B.one;have OE:=eQ.next;have sS:KM T s (I.new [.int .i64 l,Q,V]):=eQ.new _;have nY:So (I.new [.int .i64 l,Q,V]) s vC bs:=dh.keep (zC _ _);have di:(I.new [.int .i64 l,Q,V]).obj I.next=some [.int .i64 l,Q,V]:=by rw[zH,if_pos rfl]
 have Lu:I.next<(I.new [.int .i64 l,Q,V]).next:=YP _;simp only[Z3,seval,-ae,g1,g2];generalize I.new [PV.int .i64 l,Q,V]=OH at *
 have BY:T.next<=I.next:=OE;generalize I.next=r0 at *
 refine zIW jo Gm.w Gm.b gZ λt ht=>?_;cases t with
 |true=>
  have x0:OH.rd r0 0 3=some [.int .i64 l,Q,V]:=by rw[zZ di];rfl
  obtain⟨x1,x2⟩:=aX (u0:=.int .i64 l) (u1:=Q) (u2:=V) sS rfl g1 g2;simp only[Z3,seval,-ae,x0,x1,x2];refine Gh.km (((so.kmK fB).trans gF sS).set (na _) _) (nY.set (by omega) _) gF λσ' m' bW kp=>?_;exact Gh.fin0 kp ⟨trivial,jo.P.bel _,jo.B.bel _,trivial⟩ (hk l n1 Q V W1 B1 σ' gZ EX Gm jo m' bW)
 |false=>
 simp only[Z3,seval,-ae];refine zV nY (by decide) λx h2 hx m2 bu=>?_;have bZ:=sS.mv oA m2;have x0:=hx.1;have x2:=hx.lt (by decide);obtain⟨n,kD,nM,wn⟩:∃n:Nat,3<=n/\n<=4/\IntKind.i64.wrap (3+x)=(n:Int):=⟨(3+x).toNat,by omega,by omega,by rw[wrap64 (by omega) (by omega)];omega⟩
 simp only[Z3,seval,-ae,wn];refine zV (bu.keep (zC _ _)) (by decide) λy h3 hy m3 cQ=>?_;have c9:=(bZ.new [.int .i64 3,.int .i64 5]).mv oA m3;have y0:=hy.1;have y2:=hy.lt (by decide);have I8:=bZ.next;have oe:h3.obj h2.next=some (pis [3,5]):=by rw[m3.obj (by omega),zH,if_pos rfl];rfl
 obtain⟨k,rfl⟩:∃k:Nat,y=k:=⟨y.toNat,by omega⟩
 have dq:k<2:=by omega
 obtain⟨p,hp,E3,hr⟩:∃p:Int,isP p/\(p=3\/p=5)/\h3.rd1 h2.next k=some (.int .i64 p):=by
  have e:k=0\/k=1:=by omega
  rcases e with rfl|rfl
  .exact⟨3,.inr (.inl rfl),.inl rfl,by rw[zI oe];rfl⟩
  .exact⟨5,.inr (.inr (.inl rfl)),.inr rfl,by rw[zI oe];rfl⟩
 have KN:r0<h2.next:=by rw[m2.next];exact Lu
 have DP:h3.obj r0=some [.int .i64 l,Q,V]:=by rw[m3.obj (by omega),zH,if_neg (by omega),m2.obj (by omega)];exact di
 have HH:r0<h3.next:=by rw[m3.next];show r0<h2.next+1;omega
 have dQ:1<=n:=by omega
 have be:n<=6:=by omega
 have yK:ipow p n<=729:=by
  have en:n=3\/n=4:=by omega
  rcases E3 with rfl|rfl<;>rcases en with rfl|rfl<;>decide
 have gX:=hp.bd;have cI:2<=p/\p<=7:=by omega
 simp only[Z3,seval,-ae,hr,dq];refine zF3 dQ be λsP capP cs sB aj ls h5 k5 pF=>?_;have fR:=cQ.keep k5;have gA:=c9.keep k5;have sJ:h5.obj r0=some [.int .i64 l,Q,V]:=by rw[k5.obj r0 HH];exact DP
 have Lt:r0<h5.next:=Yk HH k5.next;have Cw:=c9.next;have w5:h5.wr r0 0 [.int .i64 p,.sl sP 0 n capP,.sl sB 0 n aj]=some (h5.set r0 [.int .i64 p,.sl sP 0 n capP,.sl sB 0 n aj]):=by rw[zT sJ,if_pos ⟨by simp,by rfl⟩];rfl
 have lI:okp p:=gX;have gs:GS E0 FI (OkF p n) T (h5.set r0 [.int .i64 p,.sl sP 0 n capP,.sl sB 0 n aj]) s vC bs r0 p n sP capP sB aj:=
  ⟨gA.set BY _,fR.set (by omega) _,oA,by rw[zG,if_pos rfl],⟨BY,Lt⟩,⟨cs,ls,_,_,(pF.low Cw).move (λt ht=>by rw[zG,if_neg (by have:=(pF.lt ht).1;omega)]) (na _),OkF.zero lI be,λt ht e=>by have:=(pF.lt ht).1;omega,λu x e=>e.elim⟩,λu x e=>e.elim⟩
 clear pF;have sn:IntKind.i64.wrap ((n:Int)-1)=((n-1:Nat):Int):=WQ
 have fin:∀{g:PHeap},GS E0 FI (OkF p n) T g s vC bs r0 p n sP capP sB aj->g.rd r0 0 3=some [.int .i64 p,.sl sP 0 n capP,.sl sB 0 n aj]/\g.wr σ.next 0 [.int .i64 p,.sl sP 0 n capP,.sl sB 0 n aj]=some (g.set σ.next [.int .i64 p,.sl sP 0 n capP,.sl sB 0 n aj])
   /\(g.set σ.next [.int .i64 p,.sl sP 0 n capP,.sl sB 0 n aj]).rd σ.next 0 3=some [.int .i64 p,.sl sP 0 n capP,.sl sB 0 n aj]/\Gh σ K (.agg [.int .i64 p,.sl sP 0 n capP,.sl sB 0 n aj]) (g.set σ.next [.int .i64 p,.sl sP 0 n capP,.sl sB 0 n aj]):=λ{g} a=>by
  obtain⟨x1,x2⟩:=aX (u0:=.int .i64 p) (u1:=.sl sP 0 n capP) (u2:=.sl sB 0 n aj) a.km rfl rfl rfl;refine⟨a.rd.1,x1,x2,?_⟩;obtain⟨cs,ls,W,B,rs,f,ne,_⟩:=a.rs;refine Gh.km (((so.kmK fB).trans gF a.km).set (na _) _) (a.so.set (by omega) _) gF λσ' m' bW kp=>?_;refine RS.fin ((rs.low (b':=σ'.next) (by rw[m'.next];omega)).move (λt ht=>?_) (na _)) kp (na _) λvP vB hR=>hk p n vP vB W B σ' hp yK f hR m' bW
  have:=(rs.lt ht).1
  rw[zG,if_neg (by omega)]
 have dL:∀{W:V2} {B:V3} {i:Nat},OkF p n W B->i<n->(B.getD i []).length=n-1-i:=λ{W B i} q hi=>by
  have I:i<B.length:=by rw[q.b.len];exact hi
  rw[zO I];exact q.b.row i I
 have hle:El p n (unitL n (n-1)):=qA lI (by omega);have xH:(0:Int)<(n:Int):=by omega
 have uW:(1:Int)<(n:Int):=by omega
 have LY:(0:Int)<((n-1-0:Nat):Int):=by omega
 have LW:(1:Int)<((n-1-0:Nat):Int):=by omega
 have LX:(0:Int)<((n-1-1:Nat):Int):=by omega
 simp only[Z3,seval,-ae,w5];clear w5;generalize h5.set r0 [PV.int .i64 p,.sl sP 0 n capP,.sl sB 0 n aj]=g5 at *
 obtain⟨A,H,D,G⟩:=gs.rd;simp only[Z3,seval,-ae,A,sn];refine Qk (vP:=.sl sP 0 n capP) (vB:=.sl sB 0 n aj) (n:=n) (k:=n-1) rfl rfl rfl (by omega) (by omega) λvl dz=>?_;obtain⟨t6,c6,J⟩:=gs.rdB (i:=0) (by omega) (λW B q=>dL q (by omega));simp only[Z3,seval,-ae,A,G,J,xH];refine Qk (vP:=.sl sP 0 n capP) (vB:=.sl sB 0 n aj) (n:=n) (k:=2) rfl rfl rfl (by omega) (by omega) λv6 s8=>?_;obtain⟨g6,w6,py,_⟩:=gs.putB (F':=OkF p n) (i:=0) (k:=0) (by omega) J (by omega) (λ_ _ h=>h) s8 s8.one (λW B _ q=>q.setB (by omega) (qA q.w.pr (by omega)) (λj hj=>by rw[zb (by omega),if_neg (by omega)]));simp only[Z3,seval,-ae,G,J,w6,xH,LY,s8.cells];clear A H D G J w6 gs;by_cases ML:n=4;rotate_left
 .as_aux_lemma=>
  have yV:¬(n:Int)=4:=by omega
  simp only[Z3,seval,-ae,yV,decide_false];obtain⟨A,H,D,G⟩:=py.rd;simp only[Z3,seval,-ae,A,D,sn];refine zn (vP:=.sl sP 0 n capP) (vB:=.sl sB 0 n aj) (n:=n) (k:=n-1) py.so cI rfl rfl rfl (by omega) (by omega) λv9 x9 k9 sZ sY M m9 nX=>?_;have X:=py.mv m9 nX;obtain⟨p3,Z,l,Y⟩:=X.rd;obtain⟨h9,w9,px⟩:=X.putP (F':=OkF p n) (i:=1) (w:=x9) (by omega) M (λW B q=>q.setP sZ (λj hj=>sY j (by omega)));simp only[Z3,seval,-ae,l,w9,uW,M.cells];obtain⟨e1,e2,e3,e4⟩:=fin px;simp only[Z3,seval,-ae,e1,e2,e3];exact e4
 have ID:decide ((n:Int)=4)=true:=decide_eq_true (by omega);by_cases Ie:p=5;rotate_left
 .as_aux_lemma=>
  simp only[Z3,seval,-ae,ID,Ie,decide_true,decide_false];obtain⟨A,H,D,G⟩:=py.rd;simp only[Z3,seval,-ae,A,D,sn];refine zn (vP:=.sl sP 0 n capP) (vB:=.sl sB 0 n aj) (n:=n) (k:=n-1) py.so cI rfl rfl rfl (by omega) (by omega) λv9 x9 k9 sZ sY M m9 nX=>?_;have X:=py.mv m9 nX;obtain⟨p3,Z,l,Y⟩:=X.rd;obtain⟨h9,w9,px⟩:=X.putP (F':=OkF p n) (i:=1) (w:=x9) (by omega) M (λW B q=>q.setP sZ (λj hj=>sY j (by omega)));simp only[Z3,seval,-ae,l,w9,uW,M.cells];obtain⟨e1,e2,e3,e4⟩:=fin px;simp only[Z3,seval,-ae,e1,e2,e3];exact e4
 obtain⟨A,H,D,G⟩:=py.rd;obtain⟨t7,c7,J⟩:=py.rdB (i:=0) (by omega) (λW B q=>dL q (by omega));obtain⟨g7,w7,Jc,_⟩:=py.putB (F':=OkF p n) (i:=0) (k:=1) (by omega) J (by omega) (λ_ _ h=>h) dz dz.one (λW B _ q=>q.setB (by omega) hle (λj hj=>by rw[zb (by omega),if_neg (by omega)]));have E2:decide (p=5)=true:=decide_eq_true Ie;simp only[Z3,seval,-ae,ID,E2,decide_true,G,J,w7,xH,LW,dz.cells];clear A H D G J w7;refine zV Jc.so (by decide) λz g8 RF m8 Dk=>?_;have rU:=Jc.mv m8 Dk;by_cases cR:z=0
 .as_aux_lemma=>
  obtain⟨A,H,D,G⟩:=rU.rd;obtain⟨t,c,J⟩:=rU.rdB (i:=1) (by omega) (λW B q=>dL q (by omega));have Mu:=rU.sBb;simp only[Z3,seval,-ae,cR,decide_true,A,G,J,uW];refine zn (vP:=.sl sP 0 n capP) (vB:=.sl sB 0 n aj) (n:=n) (k:=3) rU.so cI rfl rfl rfl (by omega) (by omega) λv x g4 hx hz hv m4 dK=>?_;have Jd:=rU.mv m4 dK;obtain⟨p3,Z,l,Y⟩:=Jd.rd;have sE:g4.rd1 sB 1=some (.sl t 0 (n-1-1) c):=by rw[m4.rd1 (by omega)];exact J
  obtain⟨gb,w5,GD,_⟩:=Jd.putB (F':=OkF p n) (i:=1) (k:=0) (w:=x) (by omega) sE (by omega) (λ_ _ h=>h) hv hv.one (λW B hB q=>q.setB (by omega) hx (λj hj=>hz j (by omega)));simp only[Z3,seval,-ae,Y,sE,w5,hv.cells,uW,LX];clear A H D G J p3 Z l Y sE w5;obtain⟨A,H,D,G⟩:=GD.rd;simp only[Z3,seval,-ae,A,D];refine zn (vP:=.sl sP 0 n capP) (vB:=.sl sB 0 n aj) (n:=n) (k:=3) GD.so cI rfl rfl rfl (by omega) (by omega) λva xa ka xU Eb ef ma Dc=>?_;have AM:=GD.mv ma Dc;obtain⟨p3,Z,l,Y⟩:=AM.rd;obtain⟨ha,wa,uA⟩:=AM.putP (F':=OkF p n) (i:=0) (w:=xa) (by omega) ef (λW B q=>q.setP xU (λj hj=>Eb j (by omega)));simp only[Z3,seval,-ae,l,wa,xH,ef.cells];clear A H D G p3 Z l Y wa;obtain⟨A,H,D,G⟩:=uA.rd;simp only[Z3,seval,-ae,A,D,sn];refine zn (vP:=.sl sP 0 n capP) (vB:=.sl sB 0 n aj) (n:=n) (k:=n-1) uA.so cI rfl rfl rfl (by omega) (by omega) λv9 x9 k9 sZ sY M m9 nX=>?_;have X:=uA.mv m9 nX;obtain⟨p3,Z,l,Y⟩:=X.rd;obtain⟨h9,w9,px⟩:=X.putP (F':=OkF p n) (i:=1) (w:=x9) (by omega) M (λW B q=>q.setP sZ (λj hj=>sY j (by omega)));simp only[Z3,seval,-ae,l,w9,uW,M.cells];obtain⟨e1,e2,e3,e4⟩:=fin px;simp only[Z3,seval,-ae,e1,e2,e3];exact e4
 .as_aux_lemma=>
  simp only[Z3,seval,-ae,cR,decide_false];obtain⟨A,H,D,G⟩:=rU.rd;simp only[Z3,seval,-ae,A,D];refine zn (vP:=.sl sP 0 n capP) (vB:=.sl sB 0 n aj) (n:=n) (k:=3) rU.so cI rfl rfl rfl (by omega) (by omega) λva xa ka xU Eb ef ma Dc=>?_;have AM:=rU.mv ma Dc;obtain⟨p3,Z,l,Y⟩:=AM.rd;obtain⟨ha,wa,uA⟩:=AM.putP (F':=OkF p n) (i:=0) (w:=xa) (by omega) ef (λW B q=>q.setP xU (λj hj=>Eb j (by omega)));simp only[Z3,seval,-ae,l,wa,xH,ef.cells];clear A H D G p3 Z l Y wa;obtain⟨A,H,D,G⟩:=uA.rd;simp only[Z3,seval,-ae,A,D,sn];refine zn (vP:=.sl sP 0 n capP) (vB:=.sl sB 0 n aj) (n:=n) (k:=n-1) uA.so cI rfl rfl rfl (by omega) (by omega) λv9 x9 k9 sZ sY M m9 nX=>?_;have X:=uA.mv m9 nX;obtain⟨p3,Z,l,Y⟩:=X.rd;obtain⟨h9,w9,px⟩:=X.putP (F':=OkF p n) (i:=1) (w:=x9) (by omega) M (λW B q=>q.setP sZ (λj hj=>sY j (by omega)));simp only[Z3,seval,-ae,l,w9,uW,M.cells];obtain⟨e1,e2,e3,e4⟩:=fin px;simp only[Z3,seval,-ae,e1,e2,e3];exact e4
end
section
open Go.Grp
variable{b:Nat}
theorem ShR.shl{G:V2}{l:V3}(H:isP p)(M:n<=6)(a:ShR p n n G l):Shl (List.replicate n p) G l:=by
 have el:(List.replicate n p).length=n:=YT;refine⟨by omega,λj A=>?_,by rw[el];exact a.pl,by rw[el];exact a.cl,λi J=>?_,λr D=>by rw[el];exact(a.pe r D).1,λq I r D=>?_⟩
 .rw[at_eq A,Uz];exact H.bd
 .have h1:i<l.length:=by rw[a.cl];omega
  rw[YB,YQ h1,el];exact(a.cq i h1).1
 .obtain⟨j,A,rfl⟩:=YE.1 I;rw[el];exact((a.cq j A).2 r D).1
theorem Shl.sm(a:Shl O P C):SmP O P C:=by
 have:=a.le
 refine⟨by omega,λx H=>?_,by rw[a.pl];omega,λr D=>by rw[a.pe r D];omega,by rw[a.cl];omega,λq A=>?_,λq A r D=>by rw[a.ce q A r D];omega⟩
 .obtain⟨j,l,rfl⟩:=YE.1 H
  have:=a.pr j l
  rw[at_eq l]at this;omega
 .obtain⟨j,l,rfl⟩:=YE.1 A;have G:=a.row j (by rw[<-a.cl];exact l);rw[YB,YQ l]at G;have I:C[j].length=O.length-1-j:=G;omega
theorem PQ3.smL{D:V2}{A:V3}(G:Shl O P C)(a:PQ3 (λm=>m=O.length) D A O.length O.length (λi=>O.length-1-i)):SmP O D A:=
 have J:=G.le
 PQ3.sm (N:=O.length) ⟨a.pl,a.cl,λr l=>UH (a.pq r l),a.row,λq H r l=>UH (a.cq q H r l)⟩ (by omega) (by omega) G.sm.ob (by omega) (by omega) λi I=>by omega
theorem zIV(so:So σ s0 vS bs)(hk:∀A D l O P C σ',IsPr A D l O P C->SmP O P C->Mv σ s0 σ'->So σ' s0 vS bs->K (.agg [A,D,l]) σ'):zA Tryz.prog 67 [.ptr s0 0] σ K:=by
 have cA:=so.lt;refine zA.gh ?_;refine zD mix Tryz.func67 ?_;simp only[Z3,seval,-ae];generalize hH:σ.new [PV.fz true AV.nils 0 [],PV.fz true AV.nils 0 [],PV.fz true AV.nils 0 []]=H;have eX:H.next=σ.next+1:=by rw[<-hH];rfl
 have cV:s0<H.next:=by omega
 have dB:H.obj σ.next=some nil3:=by rw[<-hH];simp only[Z3,seval,-ae]
 have nH:KM σ s0 H:=by rw[<-hH];exact so.kmK (zC _ _)
 have jT:So H s0 vS bs:=by rw[<-hH];exact so.keep (zC _ _)
 clear hH;have fin:∀{g:PHeap} {A D l:PV} {O:V1} {P:V2} {C:V3},KM H s0 g->So g s0 vS bs->IsPr A D l O P C->SmP O P C->
   A.one=true/\D.one=true/\l.one=true/\g.wr σ.next 0 [A,D,l]=some (g.set σ.next [A,D,l])/\(g.set σ.next [A,D,l]).rd σ.next 0 3=some [A,D,l]/\Gh σ K (.agg [A,D,l]) (g.set σ.next [A,D,l]):=λ{g A D l O P C} km bW G fm=>
  zMv cA hk (nH.trans cA km) bW (by rw[km.obj (by omega) (by omega)];exact dB) G fm
 have AZ:∀{g:PHeap} {K':PV->PHeap->Prop},KM H s0 g->So g s0 vS bs->(∀p n vP vB W B g2,isP p->ipow p n<=729->OkF p n W B->IsR vP vB W B->KM H s0 g2->So g2 s0 vS bs->K' (.agg [.int .i64 p,vP,vB]) g2)->zA Tryz.prog 112 [.ptr s0 0] g K':=λ{g K'} km bW bA=>
  zLt bW λp n vP vB W B g2 V X Q G m2 Y=>bA p n vP vB W B g2 V X Q G (km.mv cV m2) Y
 have Je:∀{g:PHeap} {K':PV->PHeap->Prop} {p:Int} {n:Nat} {vP vB:PV} {W:V2} {B:V3},isP p->ipow p n<=729->OkF p n W B->IsR vP vB W B->(∀A D l O P C,IsPr A D l O P C->Shl O P C->K' (.agg [A,D,l]) g)->zA Tryz.prog 62 [.agg [.int .i64 p,vP,vB]] g K':=λ{g K' p n vP vB W B} V X Q G bA=>
  zJ8 Q.w Q.b X V G λvO vQ vC Ps Cs I J M sh=>bA vO vQ vC _ Ps Cs ⟨I,J,M⟩ (sh.shl V Q.w.le)
 refine zV (n:=12) jT (by decide) λx g1 hx m1 dh=>?_;have eQ:=jT.km.mv cV m1;by_cases e0:x=0
 .subst e0;simp only[Z3,seval,-ae];refine zL2 dh λuO uP uC O' P' C' g4 du sm m4 dK=>?_;obtain⟨I,J,M,Z,f5,f6⟩:=fin (eQ.mv cV m4) dK du sm;simp only[Z3,seval,-ae,I,J,M,Z,f5];exact f6
 by_cases e1:x=1
 .subst e1;simp only[Z3,seval,-ae];refine AZ eQ dh λp n vP vB W B g2 V X Q G bZ Y=>?_;have r1:=G.P.one;have r2:=G.B.one;simp only[Z3,seval,-ae,r1,r2];refine Je V X Q G λA D l O P C vT sh=>?_;have o1:=vT.O.one;have o2:=vT.P.one;have o3:=vT.C.one;simp only[Z3,seval,-ae,o1,o2,o3];refine zF5 Y vT sh λuO uP uC P' C' g4 du hq m4 dK=>?_;obtain⟨I,J,M,Z,f5,f6⟩:=fin (bZ.mv cV m4) dK du (PQ3.smL sh hq);simp only[Z3,seval,-ae,I,J,M,Z,f5];exact f6
 by_cases e2:x=2
 .subst e2;simp only[Z3,seval,-ae];have Y:So (g1.new [.int .i64 2,.int .i64 3,.int .i64 5,.int .i64 7]) s0 vS bs:=dh.keep (zC _ _);refine QU Y (xs:=[2,3,5,7]) (t:=g1.next) (by have:=m1.next;omega) (by rw[zH,if_pos rfl];rfl) (by decide) λq g3 hq m3 cQ=>?_;have c9:=(eQ.new [.int .i64 2,.int .i64 3,.int .i64 5,.int .i64 7]).mv cV m3;have MC:2<=q/\q<=7:=by simp only[YH,Yp,or_false]at hq;omega
  simp only[Z3,seval,-ae];refine zBl cQ MC λuO uP uC O' P' C' g4 du fm m4 dK=>?_;obtain⟨I,J,M,Z,f5,f6⟩:=fin (c9.mv cV m4) dK du (fm.sm (by decide));simp only[Z3,seval,-ae,I,J,M,Z,f5];exact f6
 simp only[Z3,seval,-ae,e0,e1,e2];refine AZ eQ dh λp n vP vB W B g2 V X Q G bZ Y=>?_;have r1:=G.P.one;have r2:=G.B.one;simp only[Z3,seval,-ae,r1,r2];refine Je V X Q G λA D l O P C vT sh=>?_;obtain⟨I,J,M,Z,f5,f6⟩:=fin bZ Y vT sh.sm;simp only[Z3,seval,-ae,I,J,M,Z,f5];exact f6
end
section
variable{s:Nat}
theorem KM.keepOf(k:KM σ s h)(l:Keep σ0 σ)(hs:σ0.next<=s):Keep σ0 h:=by
 obtain⟨σ',⟨A,D,G,H,rfl⟩,q⟩:=k;exact(l.set hs _).trans q
end
section
open Go.Grp
theorem zLs(hb:FB vC bs)(hB:Byt bs)(hk:∀A D l O P C V x X y,IsPr A D l O P C->SmP O P C->FI V x->x.length<=65->FI X y->y.length<=65->K (.tup [.agg [A,D,l],V,X]) σ):zA Tryz.prog 39 [vC] σ K:=by
 refine zA.gh ?_;generalize M:σ.new nil3=T;have cZ:T.next=σ.next+1:=by rw[<-M];rfl
 have fB:Keep σ T:=by rw[<-M];exact zC σ _
 have uR:T.obj σ.next=some nil3:=by rw[<-M,zH,if_pos rfl]
 refine zD mix Tryz.func39 ?_;simp only[Z3,seval,-ae,hb.one];rw[M];refine zL9 hb hB λJ yr=>?_;have dh:So (T.new (srcC vC 0 J)) T.next vC bs:=⟨0,J,by rw[zH,if_pos rfl],YP _,hb,hB,YW _,yr⟩
 have eQ:KM (T.new (srcC vC 0 J)) T.next (T.new (srcC vC 0 J)):=dh.km;have LP:Keep T (T.new (srcC vC 0 J)):=zC _ _;have dx:T.next<(T.new (srcC vC 0 J)).next:=YP _;generalize hU:T.new (srcC vC 0 J)=U at *
 have Sp:U.next=T.next+1:=by rw[<-hU];rfl
 simp only[Z3,seval,-ae];refine zIV dh λA D l O P C H G sm m2 bu=>?_;have bZ:=eQ.mv dx m2;have g1:=G.O.one;have g2:=G.P.one;have g3:=G.C.one;have vi:=m2.next;have Lj:(H.new [A,D,l]).obj H.next=some [A,D,l]:=by rw[zH,if_pos rfl]
 have LC:KM U T.next (H.new [A,D,l]):=bZ.new _;have Y:So (H.new [A,D,l]) T.next vC bs:=bu.keep (zC _ _);have Su:(H.new [A,D,l]).next=H.next+1:=rfl;simp only[Z3,seval,-ae,g1,g2,g3];generalize H.new [A,D,l]=Q at *
 generalize H.next=t at *
 have yu:T.next<Q.next:=by omega
 have rQ:∀{g:PHeap},KM Q T.next g->g.rd t 0 3=some [A,D,l]:=λ{g} km=>by rw[zZ (by rw[km.obj (by omega) (by omega)];exact Lj)];rfl
 have r0:=rQ Y.km;simp only[Z3,seval,-ae,r0];refine zDD Y G sm λV x h4 hx bp m4 dK=>?_;have fW:=Y.km.mv yu m4;have x1:=hx.one;have r4:=rQ fW;simp only[Z3,seval,-ae,x1,r4];refine zDD dK G sm λX y I hy eZ m5 fR=>?_;have gA:=fW.mv yu m5;have y1:=hy.one;have r5:=rQ gA;have Z:Keep T I:=(LC.trans dx gA).keepOf LP (na _);have fY:=Z.next;have aX:I.obj σ.next=some nil3:=by rw[Z.obj _ (by omega)];exact uR
 have n1:¬σ.next=I.next:=by omega
 have w:I.wr σ.next 0 [A,D,l]=some (I.set σ.next [A,D,l]):=by rw[zT aX,if_pos ⟨by simp[nil3],by simp[g1,g2,g3]⟩];rfl
 have r:(I.set σ.next [A,D,l]).rd σ.next 0 3=some [A,D,l]:=by rw[qH,if_pos rfl];rfl
 have kk:Keep σ (I.set σ.next [A,D,l]):=(fB.trans Z).set (na _) _;simp only[Z3,seval,-ae,g1,g2,g3,x1,y1,r5,w,r];exact Gh.fin0 kk ⟨⟨G.O.bel _,G.P.bel _,G.C.bel _,trivial⟩,hx.bel _,hy.bel _,trivial⟩ (hk A D l O P C V x X y G sm hx bp hy eZ)
theorem zGU(Q:FB vC bs)(hB:Byt bs)(hk:∀H I G O P C A x D y,IsPr H I G O P C->SmP O P C->FI A x->x.length<=65->FI D y->y.length<=65->K (.tup [.agg [H,I,G],A,D]) σ):zA Tryz.prog 7 [vC] σ K:=by
 refine zA.gh ?_;have aX:(σ.new nil3).obj σ.next=some nil3:=by rw[zH,if_pos rfl]
 refine zD mix Tryz.func7 ?_;simp only[Z3,seval,-ae,Q.one];refine zLs Q hB λH I G O P C A x D y l sm J V M X=>?_;have Y:=l.O.one;have Z:=l.P.one;have g3:=l.C.one;simp only[Z3,seval,-ae,Y,Z,g3,J.one,M.one];exact Gh.fin0 (zC σ _) ⟨⟨l.O.bel _,l.P.bel _,l.C.bel _,trivial⟩,J.bel _,M.bel _,trivial⟩ (hk H I G O P C A x D y l sm J V M X)
end
end Go.Proofs
namespace Go.Grp
variable{N h t:Nat}
section
open Go.Im
section
variable{α:Type}[Inhabited α]{S:α->Prop}{m:α->α->α}{e:α}{a b x y z:α}
def Gam(S:α->Prop)(m:α->α->α)(e:α)(a:α):Prop:=∀N,GSub S m e N->(∀x y,S x->S y->N (com S m e x y))->N a
theorem Gam.sub(G:Gp S m e):GSub S m e (Gam S m e) where
 inS h:=h S G.wholeB λx y l A=>G.com_in l A
 one N hN _:=hN.one
 cl ha hb N hN hc:=hN.cl (ha N hN hc) (hb N hN hc)
 inv ha N hN hc:=hN.inv (ha N hN hc)
theorem Gam.com(A:S x)(D:S y):Gam S m e (com S m e x y):=λN _ l=>l x y A D
def C3(S:α->Prop)(m:α->α->α)(e:α):Prop:=∀x y z,S x->S y->S z->Cm S m (Grp.com S m e (Grp.com S m e x y) z)
theorem Gp.cnj_id(G:Gp S m e)(l:Cm S m a)(A:S x):cnj S m e a x=a:=(G.cnj_eq l.1 A l.1 (l.2 _ A).symm).symm
theorem Gp.cm_e(G:Gp S m e):Cm S m e:=⟨G.one,λz l=>by rw[G.l1 l,G.r1 l]⟩
theorem Gp.cm_cl(G:Gp S m e)(l:Cm S m a)(A:Cm S m b):Cm S m (m a b):=⟨G.cl l.1 A.1,λz D=>by rw[G.as l.1 A.1 D,A.2 z D,<-G.as l.1 D A.1,l.2 z D,G.as D l.1 A.1]⟩
theorem Gp.cm_inv(G:Gp S m e)(l:Cm S m a):Cm S m (ginv S m e a):=by
 have D:=(G.inv_in l.1).1;refine⟨D,λz A=>?_⟩;refine G.cancel l.1 (G.cl D A) (G.cl A D) ?_;rw[<-G.as l.1 D A,G.inv_r l.1,G.l1 A,<-G.as l.1 A D,l.2 z A,G.as A l.1 D,G.inv_r l.1,G.r1 A]
theorem Gam.cen(G:Gp S m e)(I:C3 S m e)(A:Gam S m e a):∀x,S x->Cm S m (Grp.com S m e a x):=by
 refine(A (λa=>S a/\∀x,S x->Cm S m (Grp.com S m e a x)) ⟨λh=>h.1,⟨G.one,λx l=>by rw[G.com_one l];exact G.cm_e⟩,λ{a b} A D=>⟨G.cl A.1 D.1,λx l=>?_⟩,λ{a} A=>⟨(G.inv_in A.1).1,λx l=>?_⟩⟩ λx y l H=>⟨G.com_in l H,λz J=>I x y z l H J⟩).2
 .rw[G.com_mul A.1 D.1 l,G.cnj_id (A.2 x l) D.1];exact G.cm_cl (A.2 x l) (D.2 x l)
 .rw[G.com_inv A.1 l (A.2 x l)];exact G.cm_inv (A.2 x l)
end
end
section
open Go.Im
variable{α:Type}[Inhabited α]{S:α->Prop}{m:α->α->α}{e:α}{a b x y:α}
structure NH(S:α->Prop)(m:α->α->α)(e:α)(N h t:Nat):Prop where
 G:Gp S m e
 h3:C3 S m e
 ex:∀x,S x->Grp.pw m e x N=e
 half:∀a,Gam S m e a->Grp.pw m e a (2*h)=a
 tw:(∀a x,Gam S m e a->S x->com S m e a x=e)\/∀a,Gam S m e a->Grp.pw m e a (12*t)=a
theorem Gp.com_cm_e(G:Gp S m e)(l:Cm S m a)(A:S x):com S m e a x=e:=(G.com_eq l.1 A G.one (by rw[G.r1 (G.cl A l.1),l.2 _ A])).symm
theorem zPM(G:Gp S m e)(J:C3 S m e)(H:Gam S m e a)(M:Gam S m e b):m a b=m b a:=by
 have g:=Gam.sub (S:=S) (m:=m) (e:=e) G;have D:=g.inS H;have I:∀{x y},S x->S y->com S m e a (m x y)=m (com S m e a x) (com S m e a y):=λ{x y} l A=>by
  have cx:=Gam.cen G J H x l;have cy:=Gam.cen G J H y A;rw[G.com_mul2 D l A,G.cnj_id cx A,cx.2 _ cy.1]
 have key:S b/\com S m e a b=e:=by
  refine M (λb=>S b/\com S m e a b=e) ⟨λh=>h.1,⟨G.one,G.com_one2 D⟩,λ{x y} l A=>⟨G.cl l.1 A.1,?_⟩,λ{x} l=>⟨(G.inv_in l.1).1,?_⟩⟩ λx y l A=>⟨G.com_in l A,?_⟩
  .rw[I l.1 A.1,l.2,A.2,G.l1 G.one]
  .have hi:=(G.inv_in l.1).1;have h:=I l.1 hi;rw[G.inv_r l.1,G.com_one2 D,l.2,G.l1 (G.com_in D hi)]at h;exact h.symm
  .have hc:=G.com_in l A;have h:=congrArg (com S m e a) (G.com_spec l A);have cx:=Gam.cen G J H x l;have cy:=Gam.cen G J H y A;rw[I (G.cl A l) hc,I A l,I l A,cx.2 _ cy.1]at h
   have:m (m (com S m e a y) (com S m e a x)) (com S m e a (com S m e x y))=m (m (com S m e a y) (com S m e a x)) e:=by rw[h,G.r1 (G.cl cy.1 cx.1)]
   exact G.cancel (G.cl cy.1 cx.1) (G.com_in D hc) G.one this
 have h:=G.com_spec D key.1;rw[key.2,G.r1 (G.cl key.1 D)]at h;exact h.symm
theorem Mon.pw_cm(M:Mon S m e)(l:S a)(A:S b)(h:m a b=m b a):∀k,Grp.pw m e (m a b) k=m (Grp.pw m e a k) (Grp.pw m e b k)
 |0=>(M.l1 M.one).symm
 |k+1=>by
  have G:=M.pw l k;have D:=M.pw A k;have H:∀k,m (Grp.pw m e b k) a=m a (Grp.pw m e b k):=λk=>by
   induction k with
   |zero=>show m e a=m a e;rw[M.l1 l,M.r1 l]
   |succ k ih=>
    show m (m (Grp.pw m e b k) b) a=m a (m (Grp.pw m e b k) b);have D:=M.pw A k;rw[M.as D A l,<-h,<-M.as D l A,ih,M.as l D A]
  show m (Grp.pw m e (m a b) k) (m a b)=m (m (Grp.pw m e a k) a) (m (Grp.pw m e b k) b);rw[M.pw_cm l A h k,M.as G D (M.cl l A),<-M.as D l A,H,M.as G l (M.cl D A),M.as l D A]
def GT(S:α->Prop):Type:={x:α // S x}
def AT(S:α->Prop)(m:α->α->α)(e:α):Type:={x:α // Gam S m e x}
section
variable{N h t:Nat}
theorem NH.gs(n:NH S m e N h t):GSub S m e (Gam S m e):=Gam.sub n.G
theorem NH.inS(n:NH S m e N h t)(l:Gam S m e a):S a:=n.gs.inS l
theorem NH.cmi(n:NH S m e N h t)(l:Gam S m e a)(A:S x):Gam S m e (Grp.com S m e a x):=Gam.com (n.inS l) A
theorem NH.pmod(n:NH S m e N h t)(l:S x){j k:Nat}(A:j % N=k % N):Grp.pw m e x j=Grp.pw m e x k:=by
 rw[n.G.toMon.pw_mod l (n.ex x l) (a:=j),n.G.toMon.pw_mod l (n.ex x l) (a:=k),A]
def zs(m:α->α->α)(e:α)(N:Nat)(k:Int)(x:α):α:=Grp.pw m e x (k % N).toNat
theorem NH.zs_nat(n:NH S m e N h t)(hN:0<N)(l:S x)(k:Nat):zs m e N k x=Grp.pw m e x k:=by
 unfold zs;refine n.pmod l ?_;rw[show((k:Int) % (N:Int)).toNat=k % N by rw[<-Int.natCast_emod];rfl,Nat.mod_mod]
theorem NH.zs_add(n:NH S m e N h t)(hN:0<N)(l:S x)(j k:Int):zs m e N (j+k) x=m (zs m e N j x) (zs m e N k x):=by
 unfold zs;rw[<-n.G.toMon.pw_add l];refine n.pmod l ?_;have A:=Ya j (show(N:Int)≠0 by omega);have D:=Ya k (show(N:Int)≠0 by omega);have G:=Ya (j+k) (show(N:Int)≠0 by omega);have e:=UX (j+k) (UO (N:Int));apply Int.ofNat.inj
 show(((((j+k) % (N:Int)).toNat % N:Nat)):Int)=(((((j % (N:Int)).toNat+(k % (N:Int)).toNat) % N:Nat)):Int)
 rw[Int.natCast_emod,Int.natCast_emod,Int.natCast_add,YI A,YI D,YI G,UX _ (UO _),<-Int.add_emod]
end
end
section
open Go.Im
variable{α:Type}[Inhabited α]{S:α->Prop}{m:α->α->α}{e:α}{a b c x y z:α}
theorem NH.cmA(n:NH S m e N h t)(l:Gam S m e a)(A:Gam S m e b):m a b=m b a:=zPM n.G n.h3 l A
theorem NH.zsA(n:NH S m e N h t)(l:Gam S m e a)(k:Int):Gam S m e (zs m e N k a):=n.gs.pw l _
@[instance_reducible] noncomputable def NH.part (n:NH S m e N h t) (hN:0<N):IMod (AT S m e) where
 zero:=⟨e,n.gs.one⟩
 add a b:=⟨m a.1 b.1,n.gs.cl a.2 b.2⟩
 add_zero a:=Subtype.ext (n.G.r1 (n.inS a.2))
 add_comm a b:=Subtype.ext (n.cmA a.2 b.2)
 add_assoc a b c:=Subtype.ext (n.G.as (n.inS a.2) (n.inS b.2) (n.inS c.2))
 neg a:=⟨ginv S m e a.1,n.gs.inv a.2⟩
 sub a b:=⟨m a.1 (ginv S m e b.1),n.gs.cl a.2 (n.gs.inv b.2)⟩
 neg_add_cancel a:=Subtype.ext (n.G.inv_l (n.inS a.2))
 sub_eq_add_neg a b:=rfl
 smul k a:=⟨zs m e N k a.1,n.zsA a.2 _⟩
 zero_zsmul a:=Subtype.ext (by show zs m e N ((0:Nat):Int) a.1=e;rw[n.zs_nat hN (n.inS a.2)];rfl)
 one_zsmul a:=Subtype.ext (by show zs m e N ((1:Nat):Int) a.1=a.1;rw[n.zs_nat hN (n.inS a.2),n.G.toMon.pw_one (n.inS a.2)])
 add_zsmul j k a:=Subtype.ext (n.zs_add hN (n.inS a.2) j k)
section
variable(n:NH S m e N h t)
include n
theorem NH.cnj_A(l:Gam S m e a)(A:S x):cnj S m e a x=m a (com S m e a x):=(n.G.cnj_com (n.inS l) A).symm
theorem NH.cen(l:Gam S m e a)(A:S x):Cm S m (com S m e a x):=Gam.cen n.G n.h3 l x A
theorem NH.com_A(l:Gam S m e a)(A:Gam S m e b)(D:S x):com S m e (m a b) x=m (com S m e a x) (com S m e b x):=by
 rw[n.G.com_mul (n.inS l) (n.inS A) D,n.G.cnj_id (n.cen l D) (n.inS A)]
theorem NH.com_B(l:Gam S m e a)(A:S x)(D:S y):com S m e a (m x y)=m (com S m e a x) (com S m e a y):=by
 rw[n.G.com_mul2 (n.inS l) A D,n.G.cnj_id (n.cen l A) D,(n.cen l A).2 _ (n.cen l D).1]
theorem NH.com_pw(l:Gam S m e a)(A:S x):∀k,com S m e (Grp.pw m e a k) x=Grp.pw m e (com S m e a x) k
 |0=>n.G.com_one A
 |k+1=>by
  show com S m e (m (Grp.pw m e a k) a) x=m (Grp.pw m e (com S m e a x) k) (com S m e a x);rw[n.com_A (n.gs.pw l k) l A,NH.com_pw l A k]
theorem NH.com0(l:Gam S m e a)(A:Gam S m e b):com S m e a b=e:=(n.G.com_eq (n.inS l) (n.inS A) n.G.one (by rw[n.G.r1 (n.G.cl (n.inS A) (n.inS l)),n.cmA l A])).symm
theorem NH.com3(l:S x)(A:S y)(D:S z):com S m e (m x y) z=m (m (com S m e x z) (com S m e (com S m e x z) y)) (com S m e y z):=by
 rw[n.G.com_mul l A D,n.cnj_A (Gam.com l D) A]
theorem NH.half2(l:Gam S m e a):m (Grp.pw m e a h) (Grp.pw m e a h)=a:=by
 have A:=n.inS l;rw[<-n.G.toMon.pw_add A,<-Nat.two_mul,n.half a l]
theorem NH.half_inj(l:Gam S m e a)(A:Gam S m e b)(D:m a a=m b b):a=b:=by
 have H:=n.inS l;have I:=n.inS A;have q:∀{a},Gam S m e a->Grp.pw m e (m a a) h=a:=λ{a} l=>by
  have:=n.half a l
  rw[n.G.toMon.pw_mul (n.inS l)]at this;have G:Grp.pw m e a 2=m a a:=by show m (m e a) a=_;rw[n.G.l1 (n.inS l)]
  rwa[G]at this
 rw[<-q l,D,q A]
theorem NH.tw12(l:Gam S m e a)(A:S x):Grp.pw m e (com S m e a x) (12*t)=com S m e a x:=by
 rcases n.tw with h|h
 .rw[h a x l A,n.G.toMon.pw_e]
 .exact h _ (n.cmi l A)
end
def AT.mk(x:α)(h:Gam S m e x):AT S m e:=⟨x,h⟩
theorem GT.eq{x y:GT S}(h:x.1=y.1):x=y:=Subtype.ext h
theorem AT.eq{x y:AT S m e}(h:x.1=y.1):x=y:=Subtype.ext h
noncomputable def NH.nil3(n:NH S m e N h t)(hN:0<N):letI:=n.part hN;Go.Nl.Nil3 (GT S) (AT S m e):=
 letI:=n.part hN
 have sm:∀(k:Nat) (a:AT S m e),((k:Int) • a).1=Grp.pw m e a.1 k:=λk a=>n.zs_nat hN (n.inS a.2) k;have sk:∀(k:Nat) (x:α) (A:Gam S m e x),((k:Int) • AT.mk x A).1=Grp.pw m e x k:=λk x A=>n.zs_nat hN (n.inS A) k;have Z:∀a b:AT S m e,(a+b).1=m a.1 b.1:=λa b=>rfl;have neg1:∀a:AT S m e,(-a).1=ginv S m e a.1:=λa=>rfl;have zero1:(0:AT S m e).1=e:=rfl;have Q:∀{x y:α},S x->S y->Gam S m e (Grp.pw m e (com S m e x y) h):=λA Y=>n.gs.pw (Gam.com A Y) h
 have M:∀{a x:α},Gam S m e a->S x->Grp.pw m e (Grp.pw m e (com S m e a x) t) 12=com S m e a x:=λ{a x} D A=>by
  rw[<-n.G.toMon.pw_mul (n.inS (n.cmi D A)),Nat.mul_comm t 12,n.tw12 D A]
 {mul:=λx y=>⟨m x.1 y.1,n.G.cl x.2 y.2⟩
  one:=⟨e,n.G.one⟩
  inv:=λx=>⟨ginv S m e x.1,(n.G.inv_in x.2).1⟩
  i:=λa=>⟨a.1,n.inS a.2⟩
  H:=λx y=>⟨Grp.pw m e (com S m e x.1 y.1) h,Q x.2 y.2⟩
  E:=λx a=>⟨Grp.pw m e (com S m e a.1 x.1) t,n.gs.pw (n.cmi a.2 x.2) t⟩
  ac_:=λx y z=>GT.eq (n.G.as x.2 y.2 z.2)
  l1:=λx=>GT.eq (n.G.l1 x.2)
  r1:=λx=>GT.eq (n.G.r1 x.2)
  il:=λx=>GT.eq (n.G.inv_l x.2)
  ir:=λx=>GT.eq (n.G.inv_r x.2)
  i_add:=λa b=>rfl
  E_add:=λx a b=>AT.eq (by
   show Grp.pw m e (com S m e (m a.1 b.1) x.1) t=m (Grp.pw m e (com S m e a.1 x.1) t) (Grp.pw m e (com S m e b.1 x.1) t);rw[n.com_A a.2 b.2 x.2,n.G.toMon.pw_cm (n.cen a.2 x.2).1 (n.cen b.2 x.2).1 ((n.cen a.2 x.2).2 _ (n.cen b.2 x.2).1)])
  E_mul:=λx y a=>AT.eq (by
   show Grp.pw m e (com S m e a.1 (m x.1 y.1)) t=m (Grp.pw m e (com S m e a.1 x.1) t) (Grp.pw m e (com S m e a.1 y.1) t);rw[n.com_B a.2 x.2 y.2,n.G.toMon.pw_cm (n.cen a.2 x.2).1 (n.cen a.2 y.2).1 ((n.cen a.2 x.2).2 _ (n.cen a.2 y.2).1)])
  E_E:=λx y a=>AT.eq (by
   show Grp.pw m e (com S m e (Grp.pw m e (com S m e a.1 y.1) t) x.1) t=e;rw[n.G.com_cm_e (n.G.cm_pw (n.cen a.2 y.2) t) x.2,n.G.toMon.pw_e])
  E_i:=λa b=>AT.eq (by
   show Grp.pw m e (com S m e b.1 a.1) t=e;rw[n.com0 b.2 a.2,n.G.toMon.pw_e])
  H_l:=λx y z=>AT.eq (by
   show Grp.pw m e (com S m e (m x.1 y.1) z.1) h=m (m (Grp.pw m e (com S m e x.1 z.1) h) (((12:Nat):Int) • AT.mk (Grp.pw m e (com S m e (Grp.pw m e (com S m e x.1 z.1) h) y.1) t) (n.gs.pw (n.cmi (Q x.2 z.2) y.2) t)).1) (Grp.pw m e (com S m e y.1 z.1) h);have l:=Gam.com (S:=S) (m:=m) (e:=e) x.2 z.2;have J:=n.cmi l y.2;have V:=Gam.com (S:=S) (m:=m) (e:=e) y.2 z.2;rw[sk,M (n.gs.pw l h) y.2,n.com_pw l y.2,n.com3 x.2 y.2 z.2,n.G.toMon.pw_cm (n.inS (n.gs.cl l J)) (n.inS V) (n.cmA (n.gs.cl l J) V),n.G.toMon.pw_cm (n.inS l) (n.inS J) (n.cmA l J)])
  H_swap:=λx y=>AT.eq (by
   show Grp.pw m e (com S m e y.1 x.1) h=ginv S m e (Grp.pw m e (com S m e x.1 y.1) h);rw[n.G.com_swap x.2 y.2,n.G.pw_inv (n.G.com_in x.2 y.2)])
  H_i:=λa y=>AT.eq (by
   show Grp.pw m e (com S m e a.1 y.1) h=(((6:Nat):Int) • AT.mk (Grp.pw m e (com S m e a.1 y.1) t) (n.gs.pw (n.cmi a.2 y.2) t)).1;have c:=n.cmi a.2 y.2;have X:=n.gs.pw c t;rw[sk];refine n.half_inj (n.gs.pw c h) (n.gs.pw X 6) ?_;rw[n.half2 c,<-n.G.toMon.pw_add (n.inS X),M a.2 y.2])
  cm:=λx y=>GT.eq (by
   show m x.1 y.1=m (m y.1 x.1) (((2:Nat):Int) • AT.mk (Grp.pw m e (com S m e x.1 y.1) h) (Q x.2 y.2)).1;have l:=Gam.com (S:=S) (m:=m) (e:=e) x.2 y.2;rw[sk,<-n.G.toMon.pw_mul (n.inS l),Nat.mul_comm,n.half _ l,n.G.com_spec x.2 y.2])
  past:=λa x=>GT.eq (by
   show m a.1 x.1=m x.1 (m a.1 (((12:Nat):Int) • AT.mk (Grp.pw m e (com S m e a.1 x.1) t) (n.gs.pw (n.cmi a.2 x.2) t)).1);rw[sk,M a.2 x.2,<-n.G.as x.2 (n.inS a.2) (n.inS (n.cmi a.2 x.2)),n.G.com_spec (n.inS a.2) x.2])
  t2:=λa D=>AT.eq (by
   have G:(((2:Nat):Int) • a).1=e:=congrArg Subtype.val D;rw[sm]at G;have I:=n.half a.1 a.2;rw[n.G.toMon.pw_mul (n.inS a.2),G,n.G.toMon.pw_e]at I;exact I.symm)
  t3:=by
   rcases n.tw with w|w
   .exact .inr λx a=>AT.eq (by
     show Grp.pw m e (com S m e a.1 x.1) t=e;rw[w _ _ a.2 x.2,n.G.toMon.pw_e])
   .exact .inl λa D=>AT.eq (by
     have G:(((3:Nat):Int) • a).1=e:=congrArg Subtype.val D;rw[sm]at G;have I:=w a.1 a.2;rw[show 12*t=3*(4*t) by omega,n.G.toMon.pw_mul (n.inS a.2),G,n.G.toMon.pw_e]at I;exact I.symm) }
end
section
variable{α:Type}[Inhabited α]{S:α->Prop}{m:α->α->α}{e:α}{a b x y z:α}
theorem gam_e(G:Gp S m e)(h:∀x y,S x->S y->com S m e x y=e)(D:Gam S m e a):a=e:=by
 refine D (λa=>a=e) ⟨λh=>by rw[h];exact G.one,rfl,λ{x y} l A=>by rw[l,A,G.l1 G.one],λ{x} l=>by rw[l];exact G.inv_one⟩ λx y l A=>h x y l A
theorem gam_c(G:Gp S m e)(h:∀x y z,S x->S y->S z->com S m e (com S m e x y) z=e)(A:Gam S m e a)(l:S x):com S m e a x=e:=by
 have key:S a/\∀x,S x->com S m e a x=e:=by
  refine A (λa=>S a/\∀x,S x->com S m e a x=e) ⟨λh=>h.1,⟨G.one,λx l=>G.com_one l⟩,λ{a b} A D=>⟨G.cl A.1 D.1,λx l=>?_⟩,λ{a} A=>⟨(G.inv_in A.1).1,λx l=>?_⟩⟩ λx y l H=>⟨G.com_in l H,λz I=>h x y z l H I⟩
  .rw[G.com_mul A.1 D.1 l,A.2 x l,G.cnj_one D.1,D.2 x l,G.l1 G.one]
  .rw[G.com_inv A.1 l (by rw[A.2 x l];exact G.cm_e),A.2 x l,G.inv_one]
 exact key.2 x l
end
end Go.Grp
namespace Go.Proofs
open Go.Ab Go.Lie Go.Grp
variable{O x y z:V1}{P:V2}{C:V3}
theorem LG.expo(g:LG O P C):∃N:Nat,0<N/\(∀x,gS O x->Grp.pw (gm O P C) (zv O) x N=zv O)/\(0<O.length->(N:Int)=at_ O 0 ^ O.length):=by
 rcases YG 0 O.length with h0|h0
 .have hp:=(g.isp h0).bd;have G:=g.bound h0 (na O.length);have H:(((at_ O 0).toNat ^ O.length:Nat):Int)=at_ O 0 ^ O.length:=by
   rw[Int.natCast_pow,YI (by omega)]
  refine⟨(at_ O 0).toNat ^ O.length,?_,λx l=>?_,λ_=>H⟩
  .have:=G.1
   omega
  .have eJ:∀i,i<=O.length->TT O i (Grp.pw (gm O P C) (zv O) x ((at_ O 0).toNat ^ i)):=by
    intro i I
    induction i with
    |zero=>rw[Nat.pow_zero,g.F.g.toMon.pw_one l];exact l
    |succ i ih=>
     have:=Q5 g.s g.F g.cent (show i<O.length by omega) (ih (by omega))
     rw[g.eq (show i<O.length by omega),<-g.F.g.toMon.pw_mul l]at this;rw[Nat.pow_succ];exact this
   exact(eJ _ (na _)).ext (g.s.zv _) λj A D=>by omega
 .refine⟨1,by omega,λx l=>?_,λh=>by omega⟩;rw[g.F.g.toMon.pw_one l];exact l.ext (g.s.zv _) λj A D=>by omega
theorem LG.nh(g:LG O P C)(k:clsOk O P C):∃N h t:Nat,0<N/\NH (gS O) (gm O P C) (zv O) N h t:=by
 have G:=g.F.g;obtain⟨N,hN,hex,X⟩:=g.expo;have J:Grp.C3 (gS O) (gm O P C) (zv O):=λx y z A D Q=>zAW g k A D Q;have triv:(∀x y,gS O x->gS O y->gcom O P C x y=zv O)->∃N h t:Nat,0<N/\NH (gS O) (gm O P C) (zv O) N h t:=λh=>
  ⟨N,0,0,hN,G,J,hex,λa l=>(gam_e G h l).symm,.inl λa x l A=>by rw[gam_e G h l];exact G.com_one A⟩
 have H:∀{a},Gam (gS O) (gm O P C) (zv O) a->gS O a:=λh=>(Gam.sub G).inS h;rcases YG 0 O.length with h0|h0
 .have hn:=X h0;have hb:=(g.bound h0 (na O.length)).2;have inv:∀{c:Int},OkC (at_ O 0) c->(c=2\/c=12)->∃y:Nat,∀a,gS O a->Grp.pw (gm O P C) (zv O) a (c.toNat*y)=a:=λ{c} hc cY=>by
   obtain⟨Y,Z⟩:=zCh hc hn (by omega) (c:=c) (by omega);have b1:=Ya Y (show(N:Int)≠0 by omega);refine⟨(Y % (N:Int)).toNat,λa l=>(zBN g.F l (hex a l) ?_).trans (G.toMon.pw_one l)⟩;rw[UA,YI b1,YI (by omega:0<=c),Uq,UX _ (UO _),<-Uq];exact Z
  rcases k with k|⟨k,k1,V⟩
  .rw[k]at h0;simp at h0
  .rcases g.isp h0 with e|e|e|e
   .exact triv λx y A D=>QW g.s g.F V (by omega) A D
   .obtain⟨h,I⟩:=inv (.inr (.inr ⟨e,.inl rfl⟩)) (.inl rfl);exact⟨N,h,0,hN,G,J,hex,λa l=>I a (H l),.inl λa x l A=>gam_c G (λx y z A D Q=>zB9 g.s g.F V (by omega) A D Q) l A⟩
   .obtain⟨h,I⟩:=inv (.inl e) (.inl rfl);obtain⟨t,M⟩:=inv (.inl e) (.inr rfl);exact⟨N,h,t,hN,G,J,hex,λa l=>I a (H l),.inr λa l=>M a (H l)⟩
   .obtain⟨h,I⟩:=inv (.inr (.inl e)) (.inl rfl);obtain⟨t,M⟩:=inv (.inr (.inl e)) (.inr rfl);exact⟨N,h,t,hN,G,J,hex,λa l=>I a (H l),.inr λa l=>M a (H l)⟩
 .exact triv λx y A D=>(G.com_in A D).ext (g.s.zv _) λj h1 h2=>by omega
end Go.Proofs
namespace Go.Grp
open Go.Im
variable{N h t:Nat}
section
variable{α:Type}[Inhabited α]{S:α->Prop}{m:α->α->α}{e:α}{a b x y:α}
section
variable(n:NH S m e N h t)(hN:0<N)
include n
theorem NH.sk(k:Nat)(x:α)(l:Gam S m e x):letI:=n.part hN;((k:Int) • AT.mk x l).1=Grp.pw m e x k:=n.zs_nat hN (n.inS l) k
theorem NH.com_same(l:S x)(A:S y)(D:m x y=m y x):com S m e x y=e:=(n.G.com_eq l A n.G.one (by rw[n.G.r1 (n.G.cl A l),D])).symm
theorem NH.add_one_(x y:GT S)(l:m x.1 y.1=m y.1 x.1):letI:=n.part hN;((n.nil3 hN).add x y).1=m x.1 y.1:=by
 letI:=n.part hN
 have A:(n.nil3 hN).H x y=0:=AT.eq (by
  show Grp.pw m e (com S m e x.1 y.1) h=e;rw[n.com_same x.2 y.2 l,n.G.toMon.pw_e])
 have D:(n.nil3 hN).f x y=0:=by
  unfold Go.Nl.Nil3.f;rw[A,Go.Nl.Nil3.E_zero,Go.Nl.Nil3.E_zero];exact Go.Im.mlin []
 unfold Go.Nl.Nil3.add;rw[D];exact n.G.r1 (n.G.cl x.2 y.2)
@[instance_reducible] noncomputable def NH.ring:IMod (GT S):=
 letI:=n.part hN
 {zero:=(n.nil3 hN).one
  add:=(n.nil3 hN).add
  add_zero:=(n.nil3 hN).add_one
  add_comm:=(n.nil3 hN).add_comm
  add_assoc:=(n.nil3 hN).add_assoc
  neg:=(n.nil3 hN).inv
  sub:=λa b=>(n.nil3 hN).add a ((n.nil3 hN).inv b)
  neg_add_cancel:=λa=>((n.nil3 hN).add_comm _ _).trans ((n.nil3 hN).add_inv a)
  sub_eq_add_neg:=λa b=>rfl
  smul:=λk a=>⟨zs m e N k a.1,n.G.toMon.pw a.2 _⟩
  zero_zsmul:=λa=>GT.eq (by show zs m e N ((0:Nat):Int) a.1=e;rw[n.zs_nat hN a.2];rfl)
  one_zsmul:=λa=>GT.eq (by show zs m e N ((1:Nat):Int) a.1=a.1;rw[n.zs_nat hN a.2,n.G.toMon.pw_one a.2])
  add_zsmul:=λj k a=>GT.eq (by
   have l:=n.add_one_ hN ⟨zs m e N j a.1,n.G.toMon.pw a.2 _⟩ ⟨zs m e N k a.1,n.G.toMon.pw a.2 _⟩ (by
    show m (zs m e N j a.1) (zs m e N k a.1)=m (zs m e N k a.1) (zs m e N j a.1);rw[<-n.zs_add hN a.2,<-n.zs_add hN a.2,Int.add_comm])
   refine Eq.trans ?_ l.symm;exact n.zs_add hN a.2 j k) }
end
end
end Go.Grp
namespace Go.Proofs
open Go.Ab Go.Lie Go.Grp
variable{N h t:Nat}{O x y z:V1}{P:V2}{C:V3}
section
variable{w:V1}
theorem rts12(F:Full O P C O.length)(l:gS O z)(h:Rt O P C z 12 w):Grp.pw (gm O P C) (zv O) w 12=z:=by
 have G:=F.g;rcases h with ⟨rfl,rfl⟩|⟨H,j,y,n,I,A,D,rfl⟩
 .exact G.toMon.pw_e _
 .rw[<-G.toMon.pw_mul l];refine(zBN F l A ?_).trans (G.toMon.pw_one l);rw[show((y*12:Nat):Int)=12*y by omega,D];rfl
section
variable(g:LG O P C)(k:clsOk O P C)(n:NH (gS O) (gm O P C) (zv O) N h t)(hN:0<N)
include g n
theorem zKi(l:Gam (gS O) (gm O P C) (zv O) z)(A:Rt O P C z 2 (rt O P C z 2)):rt O P C z 2=Grp.pw (gm O P C) (zv O) z h:=by
 have D:=n.inS l;obtain⟨j,G⟩:=rtp g.F D A;have H:Gam (gS O) (gm O P C) (zv O) (rt O P C z 2):=by rw[G];exact n.gs.pw l j
 exact n.half_inj H (n.gs.pw l h) (by rw[rts g.F D A,n.half2 l])
theorem rt_12(D:Gam (gS O) (gm O P C) (zv O) z)(X:Gam (gS O) (gm O P C) (zv O) y)(V:gS O x)(M:z=gcom O P C y x)(A:Rt O P C z 12 (rt O P C z 12)):rt O P C z 12=Grp.pw (gm O P C) (zv O) z t:=by
 have I:=n.inS D;have G:=n.G;obtain⟨j,Q⟩:=rtp g.F I A;have H:Gam (gS O) (gm O P C) (zv O) (rt O P C z 12):=by rw[Q];exact n.gs.pw D j
 have J:=rts12 g.F I A;rcases n.tw with h1|h1
 .have z0:z=zv O:=by rw[M];exact h1 y x X V
  rcases A with ⟨_,l⟩|⟨l,_⟩
  .rw[l,z0,G.toMon.pw_e]
  .exact absurd z0 l
 .have l:=h1 _ H;rw[G.toMon.pw_mul (n.inS H),J]at l;exact l.symm
include k
theorem zQS(x y:GT (gS O)):letI:=n.part hN;((n.nil3 hN).add x y).1=gsum O P C x.1 y.1:=by
 letI:=n.part hN
 have G:=n.G;have l:=Gam.com (S:=gS O) (m:=gm O P C) (e:=zv O) x.2 y.2;have A:=n.inS l;have J:=zAW g k x.2 y.2 x.2;have M:=zAW g k x.2 y.2 y.2;have r1:=zKi g n l (rt_R g A (ok2 g k x.2 y.2 (.inl rfl)) (.inl rfl));have r2:=rt_12 g n (n.cmi l x.2) l x.2 rfl (rt_R g J.1 (ok12 g k x.2 y.2 x.2) (.inr rfl));have r3:=rt_12 g n (n.cmi l y.2) l y.2 rfl (rt_R g M.1 (ok12 g k x.2 y.2 y.2) (.inr rfl));have Y:(n.nil3 hN).f x y=- (n.nil3 hN).H x y+(n.nil3 hN).E x (AT.mk _ l)-(n.nil3 hN).E y (AT.mk _ l):=by
  have X:(2:Int) • (n.nil3 hN).H x y=AT.mk _ l:=AT.eq (by
   show(((2:Nat):Int) • AT.mk (Grp.pw (gm O P C) (zv O) (gcom O P C x.1 y.1) h) (n.gs.pw l h)).1=gcom O P C x.1 y.1
   rw[n.sk hN,<-G.toMon.pw_mul A,Nat.mul_comm,n.half _ l])
  rw[<-X,(n.nil3 hN).E_two,(n.nil3 hN).E_two];rfl
 unfold gsum Go.Nl.Nil3.add;rw[Y,r1,r2,r3];have Z:=n.gs.pw l h;have D:=n.gs.pw (n.cmi l x.2) t;have Q:=n.gs.pw (n.cmi l y.2) t;have H:=n.gs.inv Z;have V:=n.gs.inv Q;show gm O P C (gm O P C x.1 y.1) (gm O P C (gm O P C (gi_ O P C (Grp.pw (gm O P C) (zv O) (gcom O P C x.1 y.1) h)) (Grp.pw (gm O P C) (zv O) (gcom O P C (gcom O P C x.1 y.1) x.1) t)) (gi_ O P C (Grp.pw (gm O P C) (zv O) (gcom O P C (gcom O P C x.1 y.1) y.1) t)))=_;have I:=G.cl x.2 y.2;rw[<-G.as I (n.inS (n.gs.cl H D)) (n.inS V),<-G.as I (n.inS H) (n.inS D)]
theorem zRL(x y:GT (gS O)):letI:=n.part hN;((n.nil3 hN).i ((n.nil3 hN).br x y)).1=gbr O P C x.1 y.1:=by
 letI:=n.part hN
 have G:=n.G;have l:=Gam.com (S:=gS O) (m:=gm O P C) (e:=zv O) x.2 y.2;have H:=n.inS l;have V:=zAW g k x.2 y.2 x.2;have X:=zAW g k x.2 y.2 y.2;have A:(2:Int) • (n.nil3 hN).H x y=AT.mk _ l:=AT.eq (by
  show(((2:Nat):Int) • AT.mk (Grp.pw (gm O P C) (zv O) (gcom O P C x.1 y.1) h) (n.gs.pw l h)).1=gcom O P C x.1 y.1
  rw[n.sk hN,<-G.toMon.pw_mul H,Nat.mul_comm,n.half _ l])
 have r:∀w:GT (gS O),rt O P C (gcom O P C (gcom O P C x.1 y.1) w.1) 2=((12:Int) • (n.nil3 hN).E w ((n.nil3 hN).H x y)).1:=λw=>by
  have hw:=n.cmi l w.2;have Q:=zKi g n hw (rt_R g (n.inS hw) (λD=>by
   rcases k with k|⟨k,Z,M⟩
   .exact absurd (hw |> n.inS |> λh=>h.ext (g.s.zv _) λj Y A=>by rw[k]at A;simp at A) D
   .have h9:=Zf (n.inS hw) D;rcases g.isp h9 with e|e|e|e
    .exact absurd (QW g.s g.F M (by omega) H w.2) D
    .exact .inr (.inr ⟨e,.inl rfl⟩)
    .exact .inl e
    .exact .inr (.inl e)) (.inl rfl))
  rw[Q];have I:(2:Int) • (12:Int) • (n.nil3 hN).E w ((n.nil3 hN).H x y)=AT.mk _ hw:=by
   rw[show(2:Int) • (12:Int) • (n.nil3 hN).E w ((n.nil3 hN).H x y)=(12:Int) • (2:Int) • (n.nil3 hN).E w ((n.nil3 hN).H x y) by exact Go.Im.mlin [(n.nil3 hN).E w ((n.nil3 hN).H x y)],<-(n.nil3 hN).E_two,A];refine AT.eq ?_
   show(((12:Nat):Int) • AT.mk (Grp.pw (gm O P C) (zv O) (gcom O P C (gcom O P C x.1 y.1) w.1) t) (n.gs.pw hw t)).1=_
   rw[n.sk hN,<-G.toMon.pw_mul (n.inS hw),Nat.mul_comm,n.tw12 l w.2];rfl
  have J:=((12:Int) • (n.nil3 hN).E w ((n.nil3 hN).H x y)).2;refine n.half_inj (n.gs.pw hw h) J ?_;rw[n.half2 hw]
  have:=congrArg Subtype.val I
  refine this.symm.trans ?_;rw[show(2:Int) • (12:Int) • (n.nil3 hN).E w ((n.nil3 hN).H x y)=(12:Int) • (n.nil3 hN).E w ((n.nil3 hN).H x y)+(12:Int) • (n.nil3 hN).E w ((n.nil3 hN).H x y) by exact Go.Im.mlin [(n.nil3 hN).E w ((n.nil3 hN).H x y)]];rfl
 unfold gbr Go.Nl.Nil3.br;rw[r x,r y,A];rfl
end
end
section
open Go.Im
structure LieOf(O:V1)(P:V2)(C:V3)[IMod (GT (gS O))](β:GT (gS O)->GT (gS O)->GT (gS O)):Prop where
 sum1:∀x y:GT (gS O),(x+y).1=gsum O P C x.1 y.1
 br1:∀x y,(β x y).1=gbr O P C x.1 y.1
 nat1:∀(k:Nat) (x:GT (gS O)),((k:Int) • x).1=Grp.pw (gm O P C) (zv O) x.1 k
 neg1:∀x:GT (gS O),(-x).1=gi_ O P C x.1
 zero1:(0:GT (gS O)).1=zv O
 add_l:∀x y z,β (x+y) z=β x z+β y z
 swap:∀x y,β y x=- β x y
 self_:∀x,β x x=0
 jac:∀x y z,β (β x y) z+β (β y z) x+β (β z x) y=0
 b4:∀x y z w,β (β (β x y) z) w=0
 b3:at_ O 0=3->∀x y z,β (β x y) z=0
 b2:at_ O 0=2->∀x y,β x y=0
 mul:∀(x y:GT (gS O)) (j l:Int),(2:Int) • j • β x y=β x y->(12:Int) • l • (β x (β x y)+β y (β y x))=β x (β x y)+β y (β y x)->gm O P C x.1 y.1=(x+y+j • β x y+l • (β x (β x y)+β y (β y x))).1
variable{O:V1}{P:V2}{C:V3}{N h t:Nat}
theorem LG.lie(g:LG O P C)(k:clsOk O P C):∃(a0:IMod (GT (gS O))) (β:GT (gS O)->GT (gS O)->GT (gS O)),LieOf O P C β:=by
 obtain⟨N,h,t,hN,n⟩:=g.nh k;have G:=n.G
 letI A:=n.part hN
 letI a0:=n.ring hN
 have I:(n.nil3 hN).i 0=(0:GT (gS O)):=(n.nil3 hN).i_zero;have H:∀a b,(n.nil3 hN).i a+(n.nil3 hN).i b=(n.nil3 hN).i (a+b):=λa b=>(n.nil3 hN).add_ii a b;have D8:∀a,(n.nil3 hN).i (-a)=- (n.nil3 hN).i a:=λa=>by
  have D:=H a (-a);rw[show a + -a=0 by exact mlin [a],I]at D;exact mlinh [(n.nil3 hN).i (-a),(n.nil3 hN).i a] D
 have J:∀(j:Int) a,(n.nil3 hN).i (j • a)=j • (n.nil3 hN).i a:=λj a=>rfl;refine⟨a0,λx y=>(n.nil3 hN).i ((n.nil3 hN).br x y),zQS g k n hN,zRL g k n hN,λj x=>n.zs_nat hN x.2 j,λx=>rfl,rfl,λx y z=>?_,λx y=>?_,λx=>?_,λx y z=>?_,λx y z w=>?_,λe x y z=>?_,λe x y=>?_,λx y j l D V=>?_⟩
 .rw[show(n.nil3 hN).br (x+y) z=(n.nil3 hN).br x z+(n.nil3 hN).br y z from(n.nil3 hN).br_add x y z,H]
 .rw[(n.nil3 hN).br_swap,D8]
 .rw[(n.nil3 hN).br_self,I]
 .rw[H,H,(n.nil3 hN).jacobi,I]
 .show(n.nil3 hN).i ((n.nil3 hN).br ((n.nil3 hN).i ((n.nil3 hN).br ((n.nil3 hN).i _) z)) w)=_
  rw[(n.nil3 hN).br3,I]
 .refine GT.eq ?_
  show((n.nil3 hN).i ((n.nil3 hN).br ((n.nil3 hN).i ((n.nil3 hN).br x y)) z)).1=zv O
  rcases YG 0 O.length with h0|h0
  .rcases k with k|⟨k,k1,Z⟩
   .rw[k]at h0;simp at h0
   .rw[(n.nil3 hN).br_i];have Q:=((n.nil3 hN).br x y).2;have ce:gcom O P C ((n.nil3 hN).br x y).1 z.1=zv O:=gam_c G (λx y z X Y hz=>zB9 g.s g.F Z (by omega) X Y hz) Q z.2;have e0:(n.nil3 hN).E z ((n.nil3 hN).br x y)=0:=AT.eq (by
     show Grp.pw (gm O P C) (zv O) (gcom O P C ((n.nil3 hN).br x y).1 z.1) t=zv O;rw[ce,G.toMon.pw_e])
    rw[e0,show(12:Int) • (0:AT (gS O) (gm O P C) (zv O))=0 by exact mlin [],I];rfl
  .exact(Subtype.property _:gS O _).ext (g.s.zv _) λj D V=>by omega
 .refine GT.eq ?_;have Q:=((n.nil3 hN).br x y).2
  show((n.nil3 hN).br x y).1=zv O
  rcases YG 0 O.length with h0|h0
  .rcases k with k|⟨k,k1,Z⟩
   .rw[k]at h0;simp at h0
   .exact gam_e G (λx y X Y=>QW g.s g.F Z (by omega) X Y) Q
  .exact(n.inS Q).ext (g.s.zv _) λj D V=>by omega
 .have q:=(n.nil3 hN).mul_eq x y (h:=j • (n.nil3 hN).br x y) (t:=l • ((n.nil3 hN).br x ((n.nil3 hN).i ((n.nil3 hN).br x y))+(n.nil3 hN).br y ((n.nil3 hN).i ((n.nil3 hN).br y x)))) (by rw[<-J,<-J]at D;have M:=congrArg Subtype.val D;exact AT.eq M) (AT.eq ?_) (λh0=>by rw[h0];exact Go.Im.zsmul_zero _)
  .refine(congrArg Subtype.val q).trans ?_;rw[H,<-J,<-J];rfl
  .have M:=congrArg Subtype.val V;simp only[H,<-J]at M;exact M
end
section
variable{w:V1}
theorem LG.head(g:LG O P C)(l:t<O.length)(A:TT O t x)(D:TT O t y):TT O t (gm O P C x y)/\at_ (gm O P C x y) t=(at_ x t+at_ y t) % at_ O t:=by
 refine⟨tt_cl g.s g.F g.cent (Y8 l) A D,?_⟩;have G:=zEJ g.s g.cent (d:=O.length) (na _) (by omega) l A (by rw[Yv];exact D.mono (YW _));refine G.2.trans ?_;exact zC6 (A.bd t l) (D.bd t l)
theorem LG.deep(g:LG O P C)(A:t<O.length)(D:TT O t x)(G:TT O (t+1) y):TT O t (gm O P C x y)/\at_ (gm O P C x y) t=at_ x t:=by
 obtain⟨H,I⟩:=g.head A D (G.mono (UQ t));refine⟨H,?_⟩;have l:=D.bd t A;rw[I,G.zero t (YP t),Uy,Yc l.1 l.2]
theorem LG.rt_tt(g:LG O P C)(G:t<=O.length)(l:TT O t z){c:Int}(D:Rt O P C z c (rt O P C z c)):TT O t (rt O P C z c):=by
 obtain⟨j,A⟩:=rtp g.F (l.mono (YW _)) D;rw[A];exact NSub.pw (zCS g.s g.F g.cent G) l j
theorem LG.gsum_head(g:LG O P C)(k:clsOk O P C)(D:t<O.length)(H:TT O t x)(I:TT O t y):TT O t (gsum O P C x y)/\at_ (gsum O P C x y) t=(at_ x t+at_ y t) % at_ O t:=by
 have A:=H.mono (YW t);have l:=I.mono (YW t);have G:=QX g.s g.F g.cent D H l;have V:=G.mono (YW _);have hN:=zCS g.s g.F g.cent (show t+1<=O.length by omega);have J:=hN.com_in g.F.g G A;have b1:=hN.com_in g.F.g G l;have M:=zAW g k A l A;have Q:=zAW g k A l l;have r1:=g.rt_tt (by omega) G (rt_R g V (ok2 g k A l (.inl rfl)) (.inl rfl));have r2:=g.rt_tt (by omega) J (rt_R g M.1 (ok12 g k A l A) (.inr rfl) (c:=12));have r3:=g.rt_tt (by omega) b1 (rt_R g Q.1 (ok12 g k A l l) (.inr rfl) (c:=12));obtain⟨h0,X⟩:=g.head D H I;obtain⟨h1,Y⟩:=g.deep D h0 (hN.inv r1);obtain⟨h2,Z⟩:=g.deep D h1 r2;obtain⟨h3,e3⟩:=g.deep D h2 (hN.inv r3);exact⟨h3,by rw[<-X,<-Y,<-Z,<-e3];rfl⟩
theorem LG.gbr_tt(g:LG O P C)(k:clsOk O P C)(V:t<O.length)(J:TT O t x)(D:gS O y):TT O (t+1) (gbr O P C x y):=by
 have Q:=J.mono (YW t);have l:=QX g.s g.F g.cent V J D;have H:=l.mono (YW _);have hN:=zCS g.s g.F g.cent (show t+1<=O.length by omega);have G:=hN.com_in g.F.g l Q;have b1:=hN.com_in g.F.g l D;have ok:∀{w},gS O w->(gcom O P C (gcom O P C x y) w≠zv O->OkC (at_ O 0) 2):=λ{w} M I=>by
  have A:=Zf (g.F.g.com_in H M) I;rcases k with k|⟨k,Y,X⟩
  .rw[k]at A;simp at A
  .rcases g.isp A with e|e|e|e
   .exact absurd (QW g.s g.F X (by omega) H M) I
   .exact .inr (.inr ⟨e,.inl rfl⟩)
   .exact .inl e
   .exact .inr (.inl e)
 have r2:=g.rt_tt (by omega) G (rt_R g (G.mono (YW _)) (ok Q) (.inl rfl));have r3:=g.rt_tt (by omega) b1 (rt_R g (b1.mono (YW _)) (ok D) (.inl rfl));exact hN.cl (hN.cl l (hN.inv r2)) (hN.inv r3)
end
section
open Go.Im
section
variable{T:Type}[IMod T]{β:T->T->T}{U:Nat->T}{p:Int}{n:Nat}{W:V2}{B:V3}{x y:V1}{f g:Vec}
def psum:Nat->(Nat->T)->T
 |0,_=>0
 |m+1,F=>psum m F+F m
theorem Qh:∀{m:Nat} {F F':Nat->T},(∀i,i<m->F i=F' i)->psum m F=psum m F'
 |0,_,_,_=>rfl
 |m+1,F,F',h=>by rw[psum,psum,Qh λi l=>h i (by omega),h m (by omega)]
theorem zH7:∀(m:Nat) (F F':Nat->T),psum m (λi=>F i+F' i)=psum m F+psum m F'
 |0,_,_=>by simp only[psum];exact mlin []
 |m+1,F,F'=>by simp only[psum];rw[zH7 m];exact mlin [psum m F,psum m F',F m,F' m]
theorem zDT(k:Int):∀(m:Nat) (F:Nat->T),psum m (λi=>k • F i)=k • psum m F
 |0,_=>by simp only[psum];exact(Go.Im.zsmul_zero k).symm
 |m+1,F=>by simp only[psum];rw[zDT k m,Go.Im.zsmul_add]
theorem zBx:∀(m:Nat) {F:Nat->T},(∀i,i<m->F i=0)->psum m F=0
 |0,_,_=>rfl
 |m+1,F,h=>by rw[psum,zBx m λi l=>h i (by omega),h m (by omega)];exact mlin []
theorem zOd{m k:Nat}(A:k<m){F:Nat->T}(h:∀i,i<m->i≠k->F i=0):psum m F=F k:=by
 induction m with
 |zero=>omega
 |succ m ih=>
  simp only[psum];by_cases e:k=m
  .subst e;rw[zBx _ λi l=>h i (by omega) (by omega)];exact mlin [F k]
  .rw[ih (by omega) λi l=>h i (by omega),h m (by omega) (by omega)];exact mlin [F k]
def pval(U:Nat->T)(n:Nat)(f:Vec):T:=psum n λi=>f i • U i
theorem Ze(h:∀i,i<n->f i=g i):pval U n f=pval U n g:=Qh λi l=>by rw[h i l]
theorem Qy(f g:Vec):pval U n (λj=>f j+g j)=pval U n f+pval U n g:=by
 unfold pval;rw[<-zH7];exact Qh λi _=>Go.Im.add_zsmul _ _ _
theorem ZX(k:Int)(f:Vec):pval U n (λj=>k*f j)=k • pval U n f:=by
 unfold pval;rw[<-zDT];exact Qh λi _=>(Go.Im.mul_zsmul k (f i) (U i))
theorem Zt(h:∀i,i<n->f i=0):pval U n f=0:=zBx n λi l=>by rw[h i l,Go.Im.zero_zsmul]
theorem zCu:∀(m:Nat) (F:Nat->Vec),pval U n (λj=>sumN m λk=>F k j)=psum m λk=>pval U n (F k)
 |0,F=>Zt λi _=>rfl
 |m+1,F=>by
  show pval U n (λj=>(sumN m λk=>F k j)+F m j)=_;rw[Qy,zCu m F];rfl
theorem zBw{k:Nat}(l:k<n):pval U n (at_ (unitL n k))=U k:=by
 unfold pval;rw[zOd l λi _ A=>by rw[zb l,if_neg A,Go.Im.zero_zsmul],zb l,if_pos rfl,Go.Im.one_zsmul]
structure Vals(β:T->T->T)(U:Nat->T)(p:Int)(n:Nat)(W:V2)(B:V3):Prop where
 o:OkW p n W
 q:OkB p n B
 add_l:∀x y z,β (x+y) z=β x z+β y z
 swap:∀x y,β y x=- β x y
 self_:∀x,β x x=0
 W1:∀i,i<n->pval U n (at_ (W.getD i []))=p • U i
 B1:∀i j,i<n->i+1+j<n->pval U n (at_ ((B.getD i []).getD j []))=β (U i) (U (i+1+j))
variable(v:Vals β U p n W B)
include v
theorem Vals.rel{i:Nat}(l:i<n):pval U n (Go.Lie.rel p W i)=0:=by
 have h:=v.W1 i l;have e:pval U n (at_ (W.getD i []))=pval U n (Go.Lie.rel p W i)+p • U i:=by
  rw[<-zBw (U:=U) l,<-ZX,<-Qy];refine Ze λj A=>?_;show w_ W i j=(w_ W i j-if j=i then p else 0)+p*at_ (unitL n i) j;rw[zb l];split<;>grind
 rw[e]at h;exact mlinh [pval U n (Lie.rel p W i),p • U i] h
theorem Vals.eqv(h:Eqv p n W f g):pval U n f=pval U n g:=by
 obtain⟨c,l⟩:=h;rw[Ze (f:=f) (g:=λj=>g j+sumN n λi=>c i*Go.Lie.rel p W i j) λj _=>l j,Qy,zCu,zBx n λi A=>?_]
 .exact mlin [pval U n g]
 .rw[ZX,v.rel A,Go.Im.zsmul_zero]
theorem Vals.norm{a:V1}(l:a.length=n):pval U n (at_ (Go.Lie.norm p W a))=pval U n (at_ a):=v.eqv (qN v.o l)
theorem Vals.add{a b:V1}(l:El p n a)(A:El p n b):pval U n (at_ (ladd p W a b))=pval U n (at_ a)+pval U n (at_ b):=by
 rw[v.eqv (zIU v.o l A),Qy]
theorem Vals.mul{a:V1}(l:El p n a)(k:Int):pval U n (at_ (lmul p W k a))=k • pval U n (at_ a):=by
 rw[v.eqv (zFE v.o l k),ZX]
theorem Vals.z_l(y:T):β 0 y=0:=by
 have:=v.add_l 0 0 y
 rw[show(0:T)+0=0 by exact mlin []]at this;exact mlinh [β 0 y] this.symm
theorem Vals.neg_l(x y:T):β (-x) y=- β x y:=by
 have:=v.add_l x (-x) y
 rw[show x + -x=0 by exact mlin [x],v.z_l]at this;exact mlinh [β (-x) y,β x y] this.symm
theorem Vals.nat_l(x y:T):∀k:Nat,β ((k:Int) • x) y=(k:Int) • β x y
 |0=>by
  show β ((0:Int) • x) y=(0:Int) • β x y;rw[Go.Im.zero_zsmul,Go.Im.zero_zsmul,v.z_l]
 |k+1=>by
  rw[Ub,Go.Im.add_zsmul,Go.Im.add_zsmul,v.add_l,Vals.nat_l x y k,Go.Im.one_zsmul,Go.Im.one_zsmul]
theorem Vals.smul_l(k:Int)(x y:T):β (k • x) y=k • β x y:=by
 rcases Int.eq_nat_or_neg k with ⟨m,rfl|rfl⟩
 .exact v.nat_l x y m
 .rw[Go.Im.neg_zsmul,Go.Im.neg_zsmul,v.neg_l,v.nat_l]
theorem Vals.smul_r(k:Int)(x y:T):β x (k • y)=k • β x y:=by
 rw[v.swap (k • y) x,v.smul_l,v.swap x y,Go.Im.zsmul_neg];exact mlin [k • β x y]
theorem Vals.sum_l(y:T):∀(m:Nat) (F:Nat->T),β (psum m F) y=psum m λk=>β (F k) y
 |0,_=>v.z_l y
 |m+1,F=>by simp only[psum];rw[v.add_l,Vals.sum_l y m F]
theorem Vals.sum_r(y:T)(m:Nat)(F:Nat->T):β y (psum m F)=psum m λk=>β y (F k):=by
 rw[v.swap (psum m F) y,v.sum_l,show(λk=>β y (F k))=λk=>(-1:Int) • β (F k) y by funext k;rw[v.swap (F k) y];exact mlin [β (F k) y],zDT];exact mlin [psum m λk=>β (F k) y]
end
end
section
open Go.Im
section
variable{T:Type}[IMod T]{β:T->T->T}{U:Nat->T}{p:Int}{n:Nat}{W:V2}{B:V3}{x y:V1}{f g:Vec}
theorem zRW{k l:Nat}(H:k+1+l<n)(t:Nat):brv B n (at_ (unitL n k)) (at_ (unitL n (k+1+l))) t=at_ ((B.getD k []).getD l []) t:=by
 unfold brv;rw[QR (k:=k) (by omega) λi G A=>ZG _ λj D=>?_,QR (k:=l) (by omega) λj D A=>?_]
 .rw[zb (by omega),zb (by omega),zb (by omega),zb (by omega),if_pos rfl,if_pos rfl,if_neg (by omega)];grind
 .rw[zb (by omega),zb (by omega),zb (by omega),zb (by omega),if_pos rfl,if_neg (by omega),if_neg (by omega)];grind
 .rw[zb (by omega),zb (by omega),zb (by omega),zb (by omega),if_neg A];by_cases e:i+1+j=k
  .rw[if_pos e,if_neg (show ¬i=k+1+l by omega)];grind
  .rw[if_neg e];grind
variable(v:Vals β U p n W B)
include v
theorem Vals.uu{k l:Nat}(D:k<n)(G:l<n):pval U n (brv B n (at_ (unitL n k)) (at_ (unitL n l)))=β (U k) (U l):=by
 have lt:∀{k l},k<l->l<n->pval U n (brv B n (at_ (unitL n k)) (at_ (unitL n l)))=β (U k) (U l):=λ{k l} H A=>by
  obtain⟨j,rfl⟩:∃j,l=k+1+j:=⟨l-k-1,by omega⟩
  rw[<-v.B1 k j (by omega) A];exact Ze λt _=>zRW A t
 rcases Nat.lt_trichotomy k l with h|rfl|h
 .exact lt h G
 .rw[v.self_];refine Zt λt _=>?_
  have:=ZA (B:=B) (n:=n) (at_ (unitL n k)) (at_ (unitL n k)) t
  omega
 .rw[v.swap (U l) (U k),<-lt h D,Ze (g:=λt=>-1*brv B n (at_ (unitL n l)) (at_ (unitL n k)) t) λt _=>ZA _ _ t,ZX];exact mlin [pval U n (brv B n (at_ (unitL n l)) (at_ (unitL n k)))]
theorem Vals.brv(f g:Vec):pval U n (Go.Proofs.brv B n f g)=β (pval U n f) (pval U n g):=by
 have G:∀k,k<n->pval U n (Go.Proofs.brv B n (at_ (unitL n k)) g)=β (U k) (pval U n g):=λk A=>by
  rw[Ze (g:=λt=>sumN n λl=>g l*Go.Proofs.brv B n (at_ (unitL n k)) (at_ (unitL n l)) t) λt _=>zD2 _ _ t,zCu];unfold pval;rw[v.sum_r];refine Qh λl H=>?_
  have:=ZX (U:=U) (n:=n) (g l) (Go.Proofs.brv B n (at_ (unitL n k)) (at_ (unitL n l)))
  unfold pval at this;rw[this,v.smul_r];have D:=v.uu A H;unfold pval at D;rw[D]
 rw[Ze (g:=λt=>sumN n λk=>f k*Go.Proofs.brv B n (at_ (unitL n k)) g t) λt _=>zMM _ _ t,zCu]
 conv=>rhs;rw[pval]
 rw[v.sum_l];refine Qh λk A=>?_;rw[ZX,v.smul_l,G k A]
theorem Vals.br(a b:V1):pval U n (at_ (Go.Proofs.br p W B n a b))=β (pval U n (at_ a)) (pval U n (at_ b)):=by
 rw[v.norm (qf v.q),<-v.brv];exact Ze λt _=>zC5 v.q a b t
variable(inj:∀x y:V1,El p n x->El p n y->pval U n (at_ x)=pval U n (at_ y)->x=y)
include inj
theorem Vals.zero(l:El p n x)(h:pval U n (at_ x)=0):isZ x:=by
 have e:=inj x (List.replicate n 0) l (zCX v.o.pr) (by rw[h,Zt λi _=>qF n i]);rw[e];intro y A;exact Y9 A
theorem Vals.noFault(jac:∀x y z,β (β x y) z+β (β y z) x+β (β z x) y=0):Zc p W B n:=by
 refine⟨λi j D G=>?_,λi j k I J H=>?_⟩
 .have h1:=br_el (a:=unitL n i) (b:=unitL n j) v.o v.q;refine inj _ _ (zP v.o h1 h1) (br_el v.o v.q) ?_;rw[v.mul h1,v.br,v.br,v.W1 i D,v.smul_l,zBw D]
 .have e1:=br_el (B:=B) (a:=Go.Proofs.br p W B n (unitL n i) (unitL n j)) (b:=unitL n k) v.o v.q;have l:=br_el (B:=B) (a:=Go.Proofs.br p W B n (unitL n j) (unitL n k)) (b:=unitL n i) v.o v.q;have A:=br_el (B:=B) (a:=Go.Proofs.br p W B n (unitL n k) (unitL n i)) (b:=unitL n j) v.o v.q;refine v.zero inj (zP v.o (zP v.o e1 l) A) ?_;rw[v.add (zP v.o e1 l) A,v.add e1 l,v.br,v.br,v.br,v.br,v.br,v.br];exact jac _ _ _
end
end
end Go.Proofs
namespace Go.Lie
open Go.Ab
variable{p:Int}{n:Nat}{x:V1}{L W u:V2}
theorem zIl(l:Gen p n W L (at_ x))(f:Vec):Gen p n W (x::L) f↔Gen p n W L f:=
 ⟨ZK λv hv=>by
  rcases YH.1 hv with rfl|hv
  .exact l
  .exact zX hv,zY λv hv=>Yl _ hv⟩
theorem zI6(o:OkW p n W)(l:Canon p n W L u)(A:Gen p n W L (at_ x)):∃out,Canon p n W (x::L) out:=⟨u,l.trans λf=>zIl A f⟩
theorem zHH(o:OkW p n W)(G:p=2\/p=3\/p=5\/p=7)(H:Canon p n W L u):∀(j:Nat) {x:V1},El p n x->Gen p n W L (λi=>pw_ p j*at_ x i)->∃out,Canon p n W (x::L) out
 |0,x,hx,h=>zI6 o H ((zM L).eqv _ _ (Eqv.of_eq λi=>by show at_ x i=1*at_ x i;omega) h)
 |j+1,x,hx,h=>by
  obtain⟨I,l⟩:=ZR o hx p;generalize Go.Lie.norm p W (lmix p x 0 x)=y at I l;obtain⟨out,A⟩:=zHH o G H j I ((zM L).eqv _ _ ((l.mul (pw_ p j)).trans (Eqv.of_eq λi=>by show pw_ p j*(p*at_ x i)=p*pw_ p j*at_ x i;grind)) h);have J:Gen p n W (y::L) λi=>p*at_ x i:=(zM _).eqv _ _ l.symm (zX (by simp));have key:∃out,Canon p n W (x::y::L) out:=by
   by_cases D:∀i,at_ (redL p W out x) i=0
   .exact zI6 o A ((A.gen _).2 ((zKj o A.base hx).1 D))
   .obtain⟨w,hw,_⟩:=zOR o G A hx J D;exact⟨w,hw⟩
  obtain⟨w,hw⟩:=key;refine⟨w,hw.trans λf=>⟨zY λv hv=>?_,ZK λv hv=>?_⟩⟩
  .rcases YH.1 hv with rfl|hv
   .simp
   .simp[hv]
  .rcases YH.1 hv with rfl|hv
   .exact zX (by simp)
   .rcases YH.1 hv with rfl|hv
    .exact(zM _).eqv _ _ l ((zM _).mul p _ (zX (by simp)))
    .exact zX (by simp[hv])
theorem zHJ(o:OkW p n W)(l:p=2\/p=3\/p=5\/p=7):∀{L:V2},(∀v∈L,El p n v)->∃u,Canon p n W L u
 |[],_=>⟨[],.nil,List.Pairwise.nil,λf=>Iff.rfl⟩
 |x::L,h=>by
  obtain⟨u,G⟩:=zHJ o l λv H=>h v (Yl _ H);have A:=h x (by simp);exact zHH o l G n A ((zM L).eqv _ _ (zAk o λj D=>A.beyond D) (zM L).zero)
end Go.Lie
namespace Go.Proofs
open Go.Ab Go.Lie Go.Grp
variable{p:Int}{c n t:Nat}{h σ:PHeap}{vB vC vO vP vQ:PV}{K:PV->PHeap->Prop}{O x y:V1}{P W:V2}{B C:V3}
section
open Go.Im
variable{f g:Vec}
theorem zIR(o:OkW p n W)(q:OkB p n B)(l:isP p):∀k,∃u,Low p n W B k u
 |0=>⟨_,.zero⟩
 |k+1=>by
  obtain⟨u,A⟩:=zIR o q l k;obtain⟨v,D⟩:=zHJ o l (zEV o q u (units n));exact⟨v,.succ A D⟩
theorem zRU(o:OkW p n W)(q:OkB p n B)(H:isP p):∃c,Cls p n W B c:=by
 have hex:∃k,Low p n W B k []:=by
  obtain⟨u,l⟩:=zIR o q H (n+1)
  have:u=[]:=Classical.byContradiction λh=>by have:=l.le o q h;omega
  exact⟨_,this ▸ l⟩
 have least:∀m k,k<=m->Low p n W B k []->∃c,Cls p n W B c:=by
  intro m
  induction m with
  |zero=>
   intro k A h
   have:k=0:=by omega
   subst this;exact⟨0,h,λk u A=>by omega⟩
  |succ m ih=>
   intro k A h;by_cases hs:∃j,j<k/\Low p n W B j []
   .obtain⟨j,I,D⟩:=hs;exact ih j (by omega) D
   .exact⟨k,h,λj u G l e=>hs ⟨j,G,e ▸ l⟩⟩
 obtain⟨k,h⟩:=hex;exact least k k (na _) h
theorem Cls.le_of{c k:Nat}(h:Cls p n W B c)(l:Low p n W B k []):c<=k:=by
 rcases YG k c with x|x
 .exact absurd rfl (h.2 k _ x l)
 .exact x
section
variable{T:Type}[IMod T]{β:T->T->T}{U:Nat->T}
def RZ(β:T->T->T):Nat->T->Prop
 |0,a=>a=0
 |m+1,a=>∀y,RZ β m (β a y)
variable(v:Vals β U p n W B)
include v
theorem Vals.rz_add:∀(m:Nat) {a b:T},RZ β m a->RZ β m b->RZ β m (a+b)
 |0,a,b,ha,hb=>by show a+b=0;rw[show a=0 from ha,show b=0 from hb];exact mlin []
 |m+1,a,b,ha,hb=>λy=>by rw[v.add_l];exact Vals.rz_add m (ha y) (hb y)
theorem Vals.rz_mul(k:Int):∀(m:Nat) {a:T},RZ β m a->RZ β m (k • a)
 |0,a,ha=>by show k • a=0;rw[show a=0 from ha,Go.Im.zsmul_zero]
 |m+1,a,ha=>λy=>by rw[v.smul_l];exact Vals.rz_mul k m (ha y)
theorem Vals.rz_zero:∀m,RZ β m 0
 |0=>rfl
 |m+1=>λy=>by rw[v.z_l];exact Vals.rz_zero m
theorem Vals.rz_sub(m:Nat):IsSub p n W λf=>RZ β m (pval U n f) where
 zero:=by rw[Zt λi _=>rfl];exact v.rz_zero m
 add f g hf hg:=by rw[Qy];exact v.rz_add m hf hg
 mul k f hf:=by rw[ZX];exact v.rz_mul k m hf
 eqv f g h hg:=by rw[v.eqv h];exact hg
theorem Vals.low{m:Nat}(A:∀a,RZ β m a):∀{k:Nat} {u:V2},k<=m->Low p n W B k u->∀x∈u,RZ β (m-k) (pval U n (at_ x))
 |0,_,_,h=>λx _=>A _
 |k+1,out,hk,h=>λx D=>by
  cases h with
  |succ h hc=>
   rename_i u;refine zIk (v.rz_sub (m-(k+1))) (λw hw=>?_) ((hc.gen _).2 (zX D));obtain⟨y,G,hw⟩:=UI.1 hw;obtain⟨e,H,rfl⟩:=Yj.1 hw;have l:=Vals.low A (by omega) h y G;rw[show m-k=m-(k+1)+1 by omega]at l;show RZ β _ (pval U n (at_ (Go.Proofs.br p W B n y e)));rw[v.br];exact l _
theorem Vals.lz(inj:∀x y:V1,El p n x->El p n y->pval U n (at_ x)=pval U n (at_ y)->x=y)(jac:∀x y z,β (β x y) z+β (β y z) x+β (β z x) y=0)
  (Z:∀x y z w,β (β (β x y) z) w=0) (Y:p=3->∀x y z,β (β x y) z=0) (X:p=2->∀x y,β x y=0) (H:isP p) (hw:ipow p n<=729):∃c,Lz p n W B c:=by
 obtain⟨c,Q⟩:=zRU v.o v.q H;refine⟨c,⟨v.o,v.q,v.noFault inj jac,Q⟩,H,?_,hw⟩;have top:∀m:Nat,(∀a,RZ β m a)->c<=m:=λm V=>by
  obtain⟨u,A⟩:=zIR v.o v.q H m;have l:u=[]:=by
   cases m with
   |zero=>
    have h0:∀a:T,a=0:=V;refine Classical.byContradiction λI=>?_;obtain⟨x,t,e⟩:=List.exists_cons_of_ne_nil I;have D:x∈u:=by rw[e];simp
    have he:=(A.els v.o).1 x D;cases A with
    |zero=>
     have l:0<n:=by
      rcases Nat.eq_zero_or_pos n with h|h
      .subst h;simp[units]at D
      .exact h
     have J:=v.zero inj (qA (n:=n) v.o.pr l) (h0 _)
     have:=J (at_ (unitL n 0) 0) (by rw[at_eq (by rw[(qA (n:=n) v.o.pr l).1];exact l)];exact YK _)
     rw[zb l,if_pos rfl]at this;omega
   |succ m=>
    refine Classical.byContradiction λI=>?_;obtain⟨x,t,e⟩:=List.exists_cons_of_ne_nil I;have D:x∈u:=by rw[e];simp
    have M:=v.low V (na _) A x D;rw[Yv]at M;cases A with
    |succ h Ap=>
     have G:=Ap.base.led x D;have J:=v.zero inj G.1 M
     have:=J (at_ x (dep x)) (by rw[at_eq (by rw[G.1.1];exact G.2.1)];exact YK _)
     rw[G.2.2]at this;omega
  rw[l]at A;exact Q.le_of A
 rcases H with e|e|e|e
 .have:=top 1 λa y=>X e a y
  omega
 .have:=top 2 λa y z=>Y e a y z
  omega
 all_goals
  have:=top 3 λa y z w=>Z a y z w
  omega
end
end
section
variable{s:Nat}
theorem zFF(l:IsPr vO vP vC O P C)(sz:SzP O P C)
  (V:∀p vQ vB W B c,ResG (lrRes O P C) (p,W,B) c->IsR vQ vB W B->K (.tup [.agg [.int .i64 p,vQ,vB],.int .i64 c]) σ):zA Tryz.prog 14 [.agg [vO,vP,vC]] σ K:=by
 have h0:=l.O.one;have h1:=l.P.one;have h2:=l.C.one;refine zA.gh ?_;generalize D:(σ.new [vO,vP,vC]).new [.int .i64 0,.fz true .nils 0 [],.fz true .nils 0 []]=T;have cZ:T.next=σ.next+2:=by rw[<-D];rfl
 have Q:Keep σ T:=by rw[<-D];exact(zC σ _).new _
 have Y:∀{g:PHeap},Keep T g->g.rd σ.next 0 3=some [vO,vP,vC]:=λ{g} k=>by
  have ob:g.obj σ.next=some [vO,vP,vC]:=by rw[k.obj _ (by omega),<-D];simp only[Z3,seval,-ae]
  rw[zZ ob];rfl
 have X:∀{g:PHeap} {u0 u1 u2:PV},Keep T g->u0.one=true->u1.one=true->u2.one=true->g.wr (σ.next+1) 0 [u0,u1,u2]=some (g.set (σ.next+1) [u0,u1,u2])/\(g.set (σ.next+1) [u0,u1,u2]).rd (σ.next+1) 0 3=some [u0,u1,u2]:=λ{g u0 u1 u2} k z0 z1 z2=>by
  have Z:g.obj (σ.next+1)=some [.int .i64 0,.fz true .nils 0 [],.fz true .nils 0 []]:=by rw[k.obj _ (by omega),<-D];simp only[Z3,seval,-ae]
  exact⟨by rw[zT Z,if_pos ⟨by simp,by simp only[List.all_cons,List.all_nil,z0,z1,z2];rfl⟩];rfl,by rw[qH,if_pos rfl];rfl⟩
 have l3:=Y (Keep.refl T);refine zD mix Tryz.func14 ?_;simp only[Z3,seval,-ae,h0,h1,h2];rw[D];simp only[Z3,seval,-ae,l3];have G:Keep T ((T.new []).kill (σ.next+2)):=((Keep.refl T).new _).kill (by omega);refine zA.frz (s:=σ.next+2) (cs:=[]) (by rw[zH,if_pos cZ.symm]) trivial λo1=>?_;simp only[sbs,Go.Ab.sb,capOK,and_self,if_true,decide_true,na,l.O.sb,l.P.sb,l.C.sb];generalize (T.new []).kill (σ.next+2)=T2 at *
 have l4:=Y G;refine zC2 (xs:=[]) l sz ⟨true,_,[],rfl,All2.nil _⟩ ⟨by simp,λy hy=>by cases hy⟩ ?_;by_cases A:codeG O P C []=0;rotate_left
 .obtain⟨J,M⟩:=X G (u0:=.int .i64 0) (u1:=.fz true .nils 0 []) (u2:=.fz true .nils 0 []) rfl rfl rfl;simp only[Z3,seval,-ae,A,J,M];exact Gh.fin0 ((Q.trans G).set (by omega) _) ⟨⟨trivial,trivial,trivial,trivial⟩,trivial,trivial⟩ (V 0 _ _ [] [] _ ⟨by unfold lrRes;rw[if_neg A]⟩ ⟨⟨true,.nils,[],rfl,All2.nil _⟩,⟨true,.nils,[],rfl,All2.nil _⟩⟩)
 obtain⟨g,k0,_⟩:=QO A;simp only[Z3,seval,-ae,A,l4];refine zLr g k0 l λq vQ vB hq H I=>?_;obtain⟨J,M⟩:=X G (u0:=.int .i64 q) rfl H.one I.one;simp only[Z3,seval,-ae,J,M];exact Gh.fin0 ((Q.trans G).set (by omega) _) ⟨⟨trivial,H.bel _,I.bel _,trivial⟩,trivial,trivial⟩ (V _ _ _ _ _ _ ⟨by unfold lrRes;rw[if_pos A,hq]⟩ ⟨H,I⟩)
theorem lr_bd{c:Int}(h:ResG (lrRes O P C) (p,W,B) c):SzR W B:=by
 have e:=h.eq;unfold lrRes at e;by_cases D:codeG O P C []=0
 .rw[if_pos D]at e;simp only[Yt]at e;obtain⟨⟨_,rfl,rfl⟩,_⟩:=e;obtain⟨g,I,_⟩:=QO D;have H:=g.s.le;have G:∀z,(cfG O P C z).length<=1048576:=λz=>by rw[zDy];omega
  refine⟨by simp[lrPs];omega,λr A=>?_,by simp[lrCs];omega,λq l=>?_,λq l r A=>?_⟩
  .obtain⟨i,_,rfl⟩:=Yj.1 A;exact G _
  .obtain⟨i,_,rfl⟩:=Yj.1 l;simp[lrR];omega
  .obtain⟨i,_,rfl⟩:=Yj.1 l;obtain⟨j,_,rfl⟩:=Yj.1 A;exact G _
 .rw[if_neg D]at e;simp only[Yt]at e;obtain⟨⟨_,rfl,rfl⟩,_⟩:=e;exact⟨by simp,λr A=>(by cases A),by simp,λq l=>(by cases l),λq l=>(by cases l)⟩
end
section
open Go.Im
section
variable[IMod (GT (gS O))]{β:GT (gS O)->GT (gS O)->GT (gS O)}(g:LG O P C)(k:clsOk O P C)(L:LieOf O P C β)
def GT.mk{S:V1->Prop}(x:V1)(h:S x):GT S:=⟨x,h⟩
abbrev Dp(O:V1)(t:Nat)(a:GT (gS O)):Prop:=TT O t a.1
open Classical in
noncomputable def gU(O:V1)[IMod (GT (gS O))](i:Nat):GT (gS O):=if h:gS O (Grp.unit O i)then GT.mk (Grp.unit O i) h else 0
include g in
theorem gU1{i:Nat}(l:i<O.length):(gU O i).1=Grp.unit O i:=by
 unfold gU;rw[dif_pos (g.s.unit l (YW _))];rfl
include g L
theorem zGs(t:Nat):Dp O t 0:=by
 show TT O t (0:GT (gS O)).1;rw[L.zero1];exact g.s.zv t
theorem zAS(t:Nat):at_ (0:GT (gS O)).1 t=0:=by rw[L.zero1];exact qF _ _
include k
theorem zGJ{a b:GT (gS O)}(l:t<O.length)(A:Dp O t a)(D:Dp O t b):Dp O t (a+b)/\at_ (a+b).1 t=(at_ a.1 t+at_ b.1 t) % at_ O 0:=by
 have h:=g.gsum_head k l A D;rw[<-L.sum1,g.eq l]at h;exact h
theorem zN1{a:GT (gS O)}(l:t<O.length)(H:Dp O t a):Dp O t (-a)/\at_ (-a).1 t=(-(at_ a.1 t)) % at_ O 0:=by
 have A:Dp O t (-a):=by
  show TT O t (-a).1;rw[L.neg1];exact zMa g.s g.F g.cent (Y8 l) H
 refine⟨A,?_⟩;have G:=(zGJ g k L l H A).2;rw[show a + -a=0 by exact mlin [a],zAS g L]at G;have D:=A.bd t l;rw[g.eq l]at D;have I:(at_ (-a).1 t) % at_ O 0=(-(at_ a.1 t)) % at_ O 0:=by
  have J:=Int.dvd_of_emod_eq_zero G.symm;refine Int.emod_eq_emod_iff_emod_sub_eq_zero.2 (Int.emod_eq_zero_of_dvd ?_);rw[show at_ (-a).1 t - -(at_ a.1 t)=at_ a.1 t+at_ (-a).1 t by omega];exact J
 rw[<-I,Yc D.1 D.2]
theorem zGI{a:GT (gS O)}(A:t<O.length)(l:Dp O t a):∀j:Nat,Dp O t ((j:Int) • a)/\at_ ((j:Int) • a).1 t=((j:Int)*at_ a.1 t) % at_ O 0
 |0=>by
  show Dp O t ((0:Int) • a)/\at_ ((0:Int) • a).1 t=((0:Int)*at_ a.1 t) % at_ O 0;rw[Go.Im.zero_zsmul,zAS g L,UR,Int.zero_emod];exact⟨zGs g L t,rfl⟩
 |j+1=>by
  obtain⟨D,G⟩:=zGI A l j;obtain⟨H,I⟩:=zGJ g k L A D l;have e:((j+1:Nat):Int) • a=(j:Int) • a+a:=by rw[Ub,Go.Im.add_zsmul,Go.Im.one_zsmul]
  rw[e];refine⟨H,?_⟩;rw[I,G,Int.emod_add_emod,Ub,Uv,Uf]
theorem zK3{a:GT (gS O)}(l:t<O.length)(A:Dp O t a)(j:Int):Dp O t (j • a)/\at_ (j • a).1 t=(j*at_ a.1 t) % at_ O 0:=by
 rcases Int.eq_nat_or_neg j with ⟨m,rfl|rfl⟩
 .exact zGI g k L l A m
 .obtain⟨D,G⟩:=zGI g k L l A m;obtain⟨H,I⟩:=zN1 g k L l D;rw[Go.Im.neg_zsmul];refine⟨H,?_⟩;rw[I,G,Ux];refine Int.emod_eq_emod_iff_emod_sub_eq_zero.2 (Int.emod_eq_zero_of_dvd ⟨(m:Int)*at_ a.1 t / at_ O 0,?_⟩)
  have:=Int.mul_ediv_add_emod ((m:Int)*at_ a.1 t) (at_ O 0)
  omega
theorem zKl{f:Vec}(l:t<O.length)(D:∀j,j<t->f j=0):∀m,m<=O.length->Dp O t (psum m λi=>f i • gU O i)/\at_ (psum m λi=>f i • gU O i).1 t=if t<m then f t % at_ O 0 else 0
 |0,_=>⟨zGs g L t,by rw[if_neg (by omega)];exact zAS g L t⟩
 |m+1,hm=>by
  obtain⟨I,J⟩:=zKl l D m (by omega);have H:Dp O m (gU O m):=by show TT O m (gU O m).1;rw[gU1 g (by omega)];exact g.s.unit (by omega) (na _)
  have V:=(g.isp (show 0<O.length by omega)).bd;have key:Dp O t (f m • gU O m)/\at_ (f m • gU O m).1 t=if t=m then f t % at_ O 0 else 0:=by
   rcases Nat.lt_trichotomy m t with h|rfl|h
   .rw[D m h,Go.Im.zero_zsmul,if_neg (by omega)];exact⟨zGs g L t,zAS g L t⟩
   .obtain⟨A,G⟩:=zK3 g k L l H (f m);refine⟨A,?_⟩;rw[G,gU1 g l,if_pos rfl,show at_ (Grp.unit O m) m=1 by unfold Grp.unit;rw[at_set (by simpa using l),if_pos rfl],Ur]
   .obtain⟨A,G⟩:=zK3 g k L (show m<O.length by omega) H (f m);refine⟨A.mono (by omega),?_⟩;rw[if_neg (by omega)];exact A.zero t h
  obtain⟨M,Q⟩:=zGJ g k L l I key.1;refine⟨M,?_⟩;show at_ ((psum m λi=>f i • gU O i)+f m • gU O m).1 t=_;rw[Q,J,key.2];rcases Nat.lt_trichotomy t m with h|h|h
  .rw[if_pos h,if_neg (by omega),if_pos (by omega),Uy,UX _ (UO _)]
  .rw[if_neg (by omega),if_pos h,if_pos (by omega),Uc,UX _ (UO _)]
  .rw[if_neg (by omega),if_neg (by omega),if_neg (by omega)];exact Int.zero_emod _
theorem pv_hd{f:Vec}(l:t<O.length)(A:∀j,j<t->f j=0):Dp O t (pval (gU O) O.length f)/\at_ (pval (gU O) O.length f).1 t=f t % at_ O 0:=by
 have h:=zKl g k L l A O.length (na _);rw[if_pos l]at h;exact h
theorem zQ5{x y:V1}(A:El (at_ O 0) O.length x)(D:El (at_ O 0) O.length y)(h:pval (gU O) O.length (at_ x)=pval (gU O) O.length (at_ y)):x=y:=by
 refine zNy A D λj I=>?_;have M:=(g.isp (show 0<O.length by omega)).bd
 induction j using Nat.strongRecOn with
 |ind j ih=>
  have l:=(pv_hd g k L (t:=j) (f:=λi=>at_ x i + -1*at_ y i) I λi H=>by rw[ih i H (by omega)];omega).2;rw[Qy,ZX,h,show pval (gU O) O.length (at_ y)+(-1:Int) • pval (gU O) O.length (at_ y)=0 by exact mlin [pval (gU O) O.length (at_ y)],zAS g L]at l;have b1:=A.2.at (by omega) j;have J:=D.2.at (by omega) j;obtain⟨c,G⟩:=Int.dvd_of_emod_eq_zero l.symm
  have:c=0:=by
   rcases Int.lt_trichotomy c 0 with h|h|h
   .have:at_ O 0*c<=at_ O 0*(-1):=Yw (by omega) (by omega)
    omega
   .exact h
   .have:at_ O 0*1<=at_ O 0*c:=Yw (by omega) (by omega)
    omega
  rw[this,UL]at G;omega
theorem zPw{x:V1}(G:El (at_ O 0) O.length x)(I:t<=O.length)(h:Dp O t (pval (gU O) O.length (at_ x))):∀j,j<t->at_ x j=0:=by
 intro j D;have H:=(g.isp (show 0<O.length by omega)).bd
 induction j using Nat.strongRecOn with
 |ind j ih=>
  have l:=(pv_hd g k L (t:=j) (f:=at_ x) (by omega) λi A=>ih i A (by omega)).2;have b1:=G.2.at (by omega) j;rw[h.zero j D,Yc b1.1 (by omega)]at l;exact l.symm
end
end
end Go.Proofs
