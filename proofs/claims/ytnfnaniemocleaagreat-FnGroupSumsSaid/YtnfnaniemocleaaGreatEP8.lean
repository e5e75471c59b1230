/- . -/
import Derived.Test.YtnfnaniemocleaaGreatEP7
open Int renaming reduceNatCast'->ae
set_option maxRecDepth 100000
set_option linter.unusedSimpArgs false
set_option linter.unusedVariables false
set_option linter.unusedSectionVars false
namespace Go.Grp
end Go.Grp
namespace Go.Proofs
open Go.Ab Go.Lie
variable{p:Int}{c j k m n:Nat}{h σ:PHeap}{vB vC vL vO vP vx vy:PV}{K:PV->PHeap->Prop}{O u v x y z:V1}{P W xs:V2}{B C:V3}
section
variable{s:Nat}
theorem zKB(o:OkW p n W)(q:OkB p n B)(N:ipow p n<=729)(hp:isP p)(l:IsR vP vB W B)(A:El p n x)(D:El p n y)(bj:FI vx x)(cT:FI vy y)
  (hk:∀a I J M V X Y,El p n V->El p n X->El p n Y->FI I V->FI J X->FI M Y->K (.fz true a 3 [I,J,M]) σ):
  zA Tryz.prog 177 [.agg [.int .i64 p,vP,vB],vx,vy] σ K:=by
 have bp:=A.1;have eZ:=D.1;have h1:=l.P.one;have h2:=l.B.one;obtain⟨wx,ax,rfl⟩:=bj;obtain⟨wy,ay,rfl⟩:=cT;refine zA.gh ?_;have bel:=br_el o q (a:=x) (b:=y);refine zD mix Tryz.func177 ?_;simp only[Z3,seval,-ae,h1,h2];refine zo l o q A D rfl rfl λI=>?_;simp only[Z3,seval,-ae];refine zo l o q A bel rfl bel.1.symm λJ=>?_;simp only[Z3,seval,-ae];refine zo l o q D bel rfl bel.1.symm λM=>?_;simp only[Z3,seval,-ae];have E:El p n (br p W B n x (br p W B n x y)):=br_el o q;have G:El p n (br p W B n y (br p W B n x y)):=br_el o q;refine z8 l o E G E.1.symm G.1.symm (by decide) (by decide) λv4=>?_;have Z:El p n (norm p W (lmix 1 (br p W B n x (br p W B n x y)) (-1) (br p W B n y (br p W B n x y)))):=zP o E G;generalize norm p W (lmix 1 (br p W B n x (br p W B n x y)) (-1) (br p W B n y (br p W B n x y)))=th at *
 simp only[Z3,seval,-ae];refine z8 l o A D rfl rfl (by decide) (by decide) λv5=>?_;simp only[Z3,seval,-ae];refine zBB l o N bel bel.1.symm λw6 v6 z2 d2=>?_;simp only[Z3,seval,-ae];refine zBB l o N (x:=th) Z Z.1.symm λw7 v7 z3 U=>?_;simp only[Z3,seval,-ae];exact Gh.finF (s:=σ.next+1) (cs:=[.fz true v5 n (pis (ladd p W x y)),.fz w6 v6 n (pis z2),.fz w7 v7 n (pis z3)]) (((zC σ _).new _)) (by simp only[Z3,seval,-ae]) (by omega) ⟨trivial,trivial,trivial,trivial⟩ (by simp[capOK]) λo4=>hk _ _ _ _ _ _ _ (zP o A D) d2.el U.el ⟨true,v5,by rw[(zP (k:=1) (m:=1) o A D).1]⟩ ⟨w6,v6,by rw[d2.el.1]⟩ ⟨w7,v7,by rw[U.el.1]⟩
theorem zG8(o:OkW p n W)(q:OkB p n B)(N:ipow p n<=729)(hp:isP p)(l:IsR vP vB W B)(hx:El p n x)(hy:El p n y)(U:FI vx x)(Z:FI vy y)(hk:∀v u,El p n u->FI v u->K v σ):
  zA Tryz.prog 103 [.agg [.int .i64 p,vP,vB],vx,vy] σ K:=by
 have h1:=l.P.one;have h2:=l.B.one;refine zA.gh ?_;refine zD mix Tryz.func103 ?_;simp only[Z3,seval,-ae,h1,h2];refine zKB o q N hp l hx hy U Z λa v1 v2 v3 D E t3 G I J f1 f2 f3=>?_;obtain⟨w1,a1,rfl⟩:=f1;obtain⟨w2,a2,rfl⟩:=f2;obtain⟨w3,a3,rfl⟩:=f3;have A:El p n (ladd p W D E):=zP o G I;have M:El p n (ladd p W (ladd p W D E) t3):=zP o A J;have V:(0:Int)<((3:Nat):Int):=by decide
 have X:(1:Int)<((3:Nat):Int):=by decide
 have Y:(2:Int)<((3:Nat):Int):=by decide
 simp only[Z3,seval,-ae,V,X,Y];refine z8 l o G I rfl rfl (by decide) (by decide) λv4=>?_;simp only[Z3,seval,-ae];refine z8 l o (a:=ladd p W D E) A J A.1.symm rfl (by decide) (by decide) λv5=>?_;simp only[Z3,seval,-ae];exact Gh.fin0 (zC σ _) trivial (hk _ _ M ⟨true,v5,by rw[M.1]⟩)
theorem zLu(o:OkW p n W)(q:OkB p n B)(I:ipow p n<=729)(Y:isP p)(A:IsR vP vB W B)(V:FII vL xs)(Z:Els p n xs)(hb:xs.length<=1048576)(X:∀v u,El p n u->FI v u->K v σ):zA Tryz.prog 185 [.agg [.int .i64 p,vP,vB],vL] σ K:=by
 have be:=o.le;have M:=o.len;have N:=A.P.one;have U:=A.B.one;obtain⟨wl,al,rl,rfl,G⟩:=V;refine zA.gh ?_;refine zD mix Tryz.func185 ?_;simp only[Z3,seval,-ae,N,U];refine zBC A M (by omega) λv0=>?_;simp only[Z3,seval,-ae];refine zF (λm vs h'=>∃i v,i<=xs.length/\m=xs.length-i/\vs=[.fz wl al xs.length rl,.ptr σ.next 0,v,.int .i64 (i:Nat)]/\h'=σ.new [.int .i64 p,vP,vB]/\∃u,El p n u/\FI v u) xs.length ?_ ?_
 .exact⟨0,_,by omega,by omega,rfl,rfl,_,zCX o.pr,⟨true,v0,by rw[YT];rfl⟩⟩
 .rintro m vs h' ⟨i,v,hi,rfl,rfl,rfl,uu,E,D⟩
  simp only[Z3,seval,-ae];refine iteI (λl=>?_) λaF=>?_
  .obtain⟨w4,a4,J⟩:=G.rowI l;have pS:=Z _ (YK l);simp only[Z3,seval,-ae,l,J];refine zG8 o q I Y A E pS D ⟨_,_,rfl⟩ λv' u' yo jj=>?_;simp only[Z3,seval,-ae,WX l];exact⟨_,by omega,i+1,v',by omega,rfl,rfl,u',yo,jj⟩
  .have aU:i=xs.length:=by omega
   subst aU;exact Gh.fin0 (zC σ _) (D.bel _) (X v _ E D)
theorem zLv(o:OkW p n W)(q:OkB p n B)(J:ipow p n<=729)(V:isP p)(l:IsR vP vB W B)(Y:El p n x)(G:El p n y)(D:FI vx x)(A:FI vy y)(U:∀v u,El p n u->FI v u->K v σ):
  zA Tryz.prog 118 [.agg [.int .i64 p,vP,vB],vx,vy] σ K:=by
 have M:=l.P.one;have N:=l.B.one;refine zA.gh ?_;refine zD mix Tryz.func118 ?_;simp only[Z3,seval,-ae,M,N];refine zNd o l G A λZ E=>?_;simp only[Z3,seval,-ae,E.one,E.cells,D.one,D.cells,A.one,A.cells];refine zA.frz (s:=σ.next+1) (cs:=[Z,vx,vy]) (by simp only[Z3,seval,-ae]) ⟨E.bel 0,D.bel 0,A.bel 0,trivial⟩ λo1=>?_;simp only[sbs,sb,capOK,and_self,if_true,decide_true,na,l.P.sb,l.B.sb];refine zLu o q J V l (rows3 E D A) (els3 (zRD o G) Y G) (by simp) λv u X I=>?_;simp only[Z3,seval,-ae];exact Gh.fin0 (((zC σ _).new _).kill (by omega)) (I.bel _) (U v _ X I)
theorem zDd(o:OkW p n W)(q:OkB p n B)(bh:ipow p n<=729)(Y:isP p)(E:IsR vP vB W B)(Z:El p n x)(bj:FI vx x)(hk:∀v u,El p n u->FI v u->K v σ):zA Tryz.prog 117 [.agg [.int .i64 p,vP,vB],vx] σ K:=by
 have be:=o.le;have X:=o.len;have U:=Z.1;have h1:=E.P.one;have h2:=E.B.one;obtain⟨wx,N,rfl⟩:=bj;refine zA.gh ?_;refine zD mix Tryz.func117 ?_;simp only[Z3,seval,-ae,h1,h2,U];refine zEq E X (by omega) λcap hc=>?_;simp only[Z3,seval,-ae];refine zF (λm vs h'=>∃i v l r,i<=n/\m=n-i/\vs=[.fz wx N n (pis x),.ptr σ.next 0,.sl (σ.next+1) 0 n cap,v,.int .i64 (i:Nat)]/\h'=(σ.new [.int .i64 p,vP,vB]).new (pis l)/\FI v r/\El p n l/\El p n r) n ?_ ?_
 .exact⟨0,.fz wx N n (pis x),List.replicate n 0,x,by omega,by omega,rfl,rfl,⟨_,_,by rw[U]⟩,zCX o.pr,Z⟩
 .rintro m vs h' ⟨i,v,l,r,hi,rfl,rfl,rfl,hv,G,D⟩
  simp only[Z3,seval,-ae];refine iteI (λA=>?_) λaF=>?_
  .have hu:=qA (n:=n) o.pr A;have hb:=zIu D Y i;have J:i<r.length:=by rw[D.1];exact A
   have I:i<l.length:=by rw[G.1];exact A
   have M:=D.1;have mf:=G.1;obtain⟨w0,a0,rfl⟩:=hv;have dX:(pis l).take i++[.int .i64 (at_ r i)]++(pis l).drop (i+1)=pis (l.set i (at_ r i)):=zU I;have yR:El p n (l.set i (at_ r i)):=⟨by rw[YC];exact G.1,λy hy=>by
    rcases List.mem_or_eq_of_mem_set hy with h|h
    .exact G.2 y h
    .rw[h,at_eq J];exact D.2 _ (YK J)⟩
   have V:at_ (l.set i (at_ r i)) i=at_ r i:=by rw[at_eq (by rw[YC];exact I)];simp
   have ij:i<(l.set i (at_ r i)).length:=by rw[YC];exact I
   have ne:=zP o (k:=-at_ r i) (m:=0) hu D;have eV:IntKind.i64.wrap (0-at_ r i)=-at_ r i:=WQ
   rw[M];simp only[Z3,seval,-ae,A,pisA J,J,I,UZ I,UZ A,zJ,dX,pisA ij,V,eV,mf];refine qo E X (by omega) A λa1=>?_;simp only[Z3,seval,-ae,pisA ij,V];refine z8 E o hu D hu.1.symm M.symm (k:=-at_ r i) (m:=0) (by omega) (by decide) λv1=>?_;simp only[Z3,seval,-ae];refine zG8 o q bh Y E ne D ⟨true,v1,by rw[ne.1]⟩ ⟨_,_,by rw[M]⟩ λv' u' yo jj=>?_;simp only[Z3,seval,-ae,WX A];exact⟨_,by omega,i+1,v',_,u',by omega,rfl,rfl,rfl,jj,yR,yo⟩
  .have aU:i=n:=by omega
   subst aU;exact Gh.finF (s:=σ.next+1) ((zC σ _).new _) (by simp only[Z3,seval,-ae];rfl) (by omega) (zL _ _) hc.ok λo2=>hk _ _ G ⟨true,.sl o2 0 i cap,by rw[G.1]⟩
structure ShR(p:Int)(n i:Nat)(Ps:V2)(Cs:V3):Prop where
 pl:Ps.length=i
 pe:Els p n Ps
 cl:Cs.length=i
 cq:∀(j:Nat) (h:j<Cs.length),Cs[j].length=n-1-j/\Els p n Cs[j]
theorem ShR.zero:ShR p n 0 [] []:=⟨rfl,λr l=>(by cases l),rfl,λj h=>(by simp at h)⟩
theorem ShR.snoc{i:Nat}{A:V2}{l:V3}{u:V1}{R:V2}(a:ShR p n i A l)(I:El p n u)(D:R.length=n-1-i)(E:Els p n R):ShR p n (i+1) (A++[u]) (l++[R]):=by
 refine⟨by rw[YV,a.pl];rfl,λr G=>?_,by rw[YV,a.cl];rfl,λj h=>?_⟩
 .rcases YY.1 G with h|h
  .exact a.pe r h
  .rw[YN.1 h];exact I
 .rw[YV,Yz]at h;rcases YG j l.length with g|g
  .rw[Ut g];exact a.cq j g
  .have e:j=l.length:=by omega
   subst e;rw[Ul g];simp only[Yv,List.getElem_singleton];rw[a.cl];exact⟨D,E⟩
theorem zJ8(o:OkW p n W)(q:OkB p n B)(bh:ipow p n<=729)(hp:isP p)(hR:IsR vP vB W B)(hk:∀vO vQ vC N M,FI vO (List.replicate n p)->FII vQ N->FIII vC M->ShR p n n N M->K (.agg [vO,vQ,vC]) σ):zA Tryz.prog 62 [.agg [.int .i64 p,vP,vB]] σ K:=by
 have be:=o.le;have fw:=o.len;have gX:=hp.bd;have aK:=hR;have Gt:=hR.B.one;obtain⟨⟨wp,ap,rp,rfl,qq⟩,hB⟩:=hR;refine zA.gh ?_;generalize hT:(σ.new [.int .i64 p,.fz wp ap W.length rp,vB]).new [.fz true .nils 0 [],.fz true .nils 0 [],.fz true .nils 0 []]=T;have E:T.next=σ.next+2:=by rw[<-hT];rfl
 have fB:Keep σ T:=by rw[<-hT];exact(zC σ _).new _
 have ld:∀{g:PHeap},Keep T g->g.rd σ.next 0 3=some [.int .i64 p,.fz wp ap W.length rp,vB]/\g.rd1 σ.next 0=some (.int .i64 p)/\g.rd1 σ.next 1=some (.fz wp ap W.length rp):=λ{g} k=>by
  have I:g.obj σ.next=some [.int .i64 p,.fz wp ap W.length rp,vB]:=by rw[k.obj _ (by omega),<-hT];simp only[Z3,seval,-ae]
  exact⟨by rw[zZ I];rfl,by rw[zI I];rfl,by rw[zI I];rfl⟩
 have ko:∀{g:PHeap} {u0 u1 u2:PV},Keep T g->u0.one=true->u1.one=true->u2.one=true->g.wr (σ.next+1) 0 [u0,u1,u2]=some (g.set (σ.next+1) [u0,u1,u2])/\(g.set (σ.next+1) [u0,u1,u2]).rd (σ.next+1) 0 3=some [u0,u1,u2]:=λ{g u0 u1 u2} k z0 z1 z2=>by
  have aX:g.obj (σ.next+1)=some [.fz true .nils 0 [],.fz true .nils 0 [],.fz true .nils 0 []]:=by rw[k.obj _ (by omega),<-hT];simp only[Z3,seval,-ae]
  exact⟨by rw[zT aX,if_pos ⟨by simp,by simp only[List.all_cons,List.all_nil,z0,z1,z2];rfl⟩];rfl,by rw[qH,if_pos rfl];rfl⟩
 obtain⟨G,l0,Z⟩:=ld (Keep.refl T);refine zD mix Tryz.func62 ?_;simp only[Z3,seval,-ae,Gt];rw[hT];simp only[Z3,seval,-ae,Z,fw];refine zF (λm us h=>∃(i:Nat) (vO vP vC:PV) (cO D cC:List PV) (ls:List LS) (N:V2) (M:V3),ShR p n i N M/\i<=n/\m=n-i/\us=[.ptr σ.next 0,.ptr (σ.next+1) 0,.int .i64 n,.ptr (σ.next+5) 0,.int .i64 i]/\ST T h (σ.next+5) [(vO,cO),(vP,D),(vC,cC)] ls/\cO=pis (List.replicate i p)/\All2 FI D N/\cC=ls.map LS.pv/\zGR ls M) n ?_ ?_
 .refine⟨0,.sl (σ.next+2) 0 0 (.known 0),.sl (σ.next+3) 0 0 (.known 0),.sl (σ.next+4) 0 0 (.known 0),[],[],[],[],[],[],ShR.zero,by omega,by omega,rfl,⟨(((zC T _).new _).new _).new _,by simp only[Z3,seval,-ae,E],⟨by omega,by first|(simp only[Z3,seval,-ae,E];done)|(simp only[Z3,seval,-ae,E];omega)⟩,λf A=>?_,λf A off l c e=>?_,λi j f g A hg an s off l c e dD l' c' e'=>?_,λq Y=>(by cases Y),λq Y=>(by cases Y)⟩,rfl,All2.nil _,rfl,All2.nil _⟩
  .simp only[YH,Yp,or_false]at A;rcases A with rfl|rfl|rfl
   .exact PSl.own (.inr rfl) (by simp only[Z3,seval,-ae,E]) rfl (by omega) (by first|(simp only[Z3,seval,-ae,E];done)|(simp only[Z3,seval,-ae,E];omega))
   .exact PSl.own (.inr rfl) (by simp only[Z3,seval,-ae,E]) rfl (by omega) (by first|(simp only[Z3,seval,-ae,E];done)|(simp only[Z3,seval,-ae,E];omega))
   .exact PSl.own (.inr rfl) (by simp only[Z3,seval,-ae,E]) rfl (by omega) (by first|(simp only[Z3,seval,-ae,E];done)|(simp only[Z3,seval,-ae,E];omega))
  .simp only[YH,Yp,or_false]at A;rcases A with rfl|rfl|rfl<;>(simp only[PV.sl.injEq]at e;omega)
  .match i,j with
   |0,0=>exact an rfl
   |1,1=>exact an rfl
   |2,2=>exact an rfl
   |0,1|0,2|1,0|1,2|2,0|2,1=>cases A;cases hg;simp only[PV.sl.injEq]at e e';omega
   |i+3,_=>simp at A
   |0,j+3|1,j+3|2,j+3=>simp at hg
 as_aux_lemma=>
 rintro m us h ⟨i,vO,vP,vC,cO,D,cC,ls,N,M,eH,hi,rfl,rfl,a,Ck,kK,gv,X⟩
 obtain⟨G,l0,Z⟩:=ld a.keep;have aO:=a.acc (vO,cO) (by simp);have aP:=a.acc (vP,D) (by simp);have aC:=a.acc (vC,cC) (by simp);have f0:h.rd1 (σ.next+5) 0=some vO:=by rw[zI a.obj];rfl
 have f3:h.rd (σ.next+5) 0 3=some [vO,vP,vC]:=by rw[zZ a.obj];rfl
 simp only[Z3,seval,-ae];refine iteI (λah=>?_) λaF=>?_;rotate_left
 .as_aux_lemma=>
  have aU:i=n:=by omega
  subst aU;obtain⟨g1,g2⟩:=ko a.keep aO.one aP.one aC.one;simp only[Z3,seval,-ae,f3,g1,g2];obtain⟨sO,bw,e1,o1,o2,o3,o4,o5⟩:=aO;obtain⟨sP,capP,e2,q1,q2,q3,q4,q5⟩:=aP;obtain⟨sC,capC,e3,r1,r2,r3,r4,r5⟩:=aC;dsimp only at e1 o1 o2 o3 e2 q1 q2 q3 e3 r1 r2 r3;subst e1 e2 e3;have et:(TR.agg [.lst sO bw (cO.map TR.leaf),.lst sP capP (D.map TR.leaf),.lst sC capC (ls.map LS.tr)]).pv=.agg [.sl sO 0 cO.length bw,.sl sP 0 D.length capP,.sl sC 0 cC.length capC]:=by
   simp only[TR.pv,TR.pvs,YL];rw[gv,YL]
  rw[<-et];have I:∀s,T.next<=s->(h.set (σ.next+1) [.sl sO 0 cO.length bw,.sl sP 0 D.length capP,.sl sC 0 cC.length capC]).obj s=h.obj s:=λs hs=>by rw[zG,if_neg (by omega)]
  refine Gh.treeF ((fB.trans a.keep).set (by omega) _) ⟨⟨⟨by rw[YL];exact o1,by rw[I _ o4,Q8];exact o2,by omega,o5⟩,Q9 (by rw[Ck];exact zL _ _)⟩,⟨⟨by rw[YL];exact q1,by rw[I _ q4,Q8];exact q2,by omega,q5⟩,Q9 (kK.bI 0)⟩,⟨⟨by rw[YL];rw[gv,YL]at r1;exact r1,by rw[I _ r4,LS.tr_pvs,<-gv];exact r2,by omega,r5⟩,LS.trs_okF λq Y=>?_⟩,trivial⟩ λaa=>hk _ _ _ _ _ ⟨true,.sl (aa sO) 0 cO.length bw,?_⟩ ⟨true,.sl (aa sP) 0 D.length capP,D,?_,kK⟩ ⟨true,.sl (aa sC) 0 ls.length capC,TR.fzs aa (ls.map LS.tr),?_,zCG X⟩ eH
  .obtain⟨g1,g2,g3,g4⟩:=a.lok q Y;refine⟨⟨g1,by rw[I _ g3];exact g2,by omega,g4⟩,?_⟩;obtain⟨k,iI,rfl⟩:=YE.1 Y;exact(X.2 k _ _ (YQ iI) (YQ (by rw[<-X.1];exact iI))).bI 0
  .simp only[TR.fz,zAA,YL];rw[Ck];simp[zJ]
  .simp only[TR.fz,zAA,YL];rw[kK.1]
  .simp only[TR.fz,YL];rw[X.1]
 have aD:i<n:=by omega
 have Af:i<W.length:=by omega
 have aI:∀f,f∈[(vO,cO),(vP,D),(vC,cC)]->f.1.one=true:=λf A=>(a.acc f A).one;have NA:cO.length=i:=by rw[Ck];simp[zJ]
 have FX:D.length=i:=by rw[kK.1];exact eH.pl
 have F0:cC.length=i:=by rw[gv,YL,X.1];exact eH.cl
 simp only[Z3,seval,-ae,f0,l0];refine ST.push a (j:=0) (bytes:=8) rfl (by omega) (by omega) aI λv1 h1 z1 z2 z3 U=>?_;simp only[List.set_cons_zero,YO,Y3]at z3 U;generalize h1.set (σ.next+5) [v1,vP,vC]=h2 at *
 obtain⟨G,l0,Z⟩:=ld U.keep;have f1:h2.rd1 (σ.next+5) 1=some vP:=by rw[zI U.obj];rfl
 obtain⟨w4,a4,yF⟩:=qq.rowI Af;simp only[Z3,seval,-ae,z1,z2,z3,G,Z,f1,Af,yF];obtain⟨G8,JV,PM⟩:=o.row i Af;have JW:=G8;refine zDd o q bh hp aK (x:=W[i]) ⟨G8,JV⟩ ⟨w4,a4,rfl⟩ λv2 u2 Mm jx=>?_;have y1:=jx.one;have y2:=jx.cells;have fY:¬σ.next+5=h2.next:=by have:=U.p0b.2;omega
 simp only[Z3,seval,-ae,y1,y2,f1,fY];have gG:∀f,f∈[(v1,cO++[.int .i64 p]),(vP,D),(vC,cC)]->f.1.one=true:=λf A=>(U.acc f A).one;refine ST.push U (j:=1) (bytes:=24) rfl (by omega) (by omega) gG λv3 h3 z4 z5 z6 V=>?_;simp only[List.set_cons_zero,List.set_cons_succ,YO,Y3]at z6 V;generalize h3.set (σ.next+5) [v1,v3,vC]=h4 at *
 have bM:IntKind.i64.wrap ((i:Int)+1)=((i+1:Nat):Int):=wrapS aD (by omega);simp only[Z3,seval,-ae,z4,z5,z6,bM];clear z1 z2 z3 z4 z5 z6 f0 f1 f3 G l0 Z y1 y2;refine zHo 2 (λe h=>∃(J:PV) (cells:List PV) (b0:PV),e=PEnv.mk [1,2,3,4,5,6,7,44] [.ptr σ.next 0,.ptr (σ.next+1) 0,.int .i64 n,.ptr (σ.next+5) 0,.int .i64 i,J,.int .i64 n,b0]/\Keep h4 h/\PSl h4.next 1 h J (n-1-i) cells/\∃R:V2,R.length=n-1-i/\Els p n R/\All2 FI cells R) (λQ hQ=>?_) ?_;rotate_left
 .as_aux_lemma=>
  rintro e h9 ⟨J,cells,b0,rfl,k9,p9,R,jo,pf,bY⟩
  have a9:=V.keepI k9;obtain⟨t,cap,rfl,A,q2,q3,q4,q5⟩:=p9;have f2:h9.rd1 (σ.next+5) 2=some vC:=by rw[zI a9.obj];rfl
  have tO:¬σ.next+5=h9.next:=by have:=a9.p0b.2;omega
  have fI:∀f,f∈[(v1,cO++[.int .i64 p]),(v3,D++[v2]),(vC,cC)]->f.1.one=true:=λf A=>(a9.acc f A).one;have mJ:cells.length=n-1-i:=by omega
  have nD:=ST.more (q:=⟨t,cap,cells⟩) a9 ⟨by rw[mJ];exact A,q2,by have:=V.keep.next;show T.next<=t;omega,q5⟩ ⟨by have:=V.p0b.2;show t≠σ.next+5;omega,λf A off l c e=>by
   have:=QD (V.acc f A) e
   have:t<h4.next:=this
   omega⟩
  simp only[Z3,seval,-ae,f2,tO];refine ST.push nD (j:=2) (bytes:=24) rfl (by omega) (by omega) fI λv5 h5 z1 z2 z3 a5=>?_;simp only[List.set_cons_zero,List.set_cons_succ,YO,Y3]at z3 a5;generalize h5.set (σ.next+5) [v1,v3,v5]=h6 at *
  simp only[Z3,seval,-ae,z1,z2,z3,WX aD];refine⟨_,by omega,i+1,v1,v3,v5,_,_,_,ls++[⟨t,cap,cells⟩],N++[u2],M++[R],eH.snoc Mm jo pf,by omega,rfl,rfl,a5,?_,?_,?_,?_⟩
  .rw[Ck,List.replicate_succ',<-Qj];rfl
  .exact kK.snoc jx
  .rw[gv,Yh];simp only[YO,Y3,LS.pv];rw[mJ]
  .exact X.snoc bY
 as_aux_lemma=>
 refine zF (λm us h=>∃(k:Nat) (J:PV) (cells:List PV),i+(1+k)<=n/\m=n-(i+(1+k))/\us=[.ptr σ.next 0,.ptr (σ.next+1) 0,.int .i64 n,.ptr (σ.next+5) 0,.int .i64 i,J,.int .i64 ((i+(1+k):Nat):Int)]/\Keep h4 h/\PSl h4.next 1 h J k cells/\∃R:V2,R.length=k/\Els p n R/\All2 FI cells R) (n-(i+1)) ⟨0,_,[],by omega,rfl,rfl,zC _ _,PSl.new _ 1 rfl (na _),[],rfl,λr hr=>(by cases hr),All2.nil _⟩ ?_
 rintro m us h7 ⟨k,J,cells,tU,rfl,rfl,k7,p7,R,jo,pf,bY⟩
 obtain⟨G,l0,Z⟩:=ld (V.keepI k7).keep;simp only[Z3,seval,-ae];refine iteI (λFg=>?_) λFD=>?_;rotate_left
 .have fe:k=n-1-i:=by omega
  subst fe;exact hQ _ _ ⟨J,cells,_,by rw[show((i+(1+(n-1-i)):Nat):Int)=(n:Int) by omega],k7,p7,R,jo,pf,bY⟩
 have hj:i+(1+k)<n:=by omega
 have dP:=qA (n:=n) o.pr aD;have ot:=qA (n:=n) o.pr hj;simp only[Z3,seval,-ae,G];refine qo aK fw (by omega) hj λb1=>?_;simp only[Z3,seval,-ae,G];refine qo aK fw (by omega) aD λb2=>?_;simp only[Z3,seval,-ae,G];refine zLv o q bh hp aK ot dP ⟨true,b1,by rw[ot.1]⟩ ⟨true,b2,by rw[dP.1]⟩ λv6 u6 FW s8=>?_;simp only[Z3,seval,-ae,G];refine zDd o q bh hp aK FW s8 λv8 u8 Ml s7=>?_;have y1:=s7.one;have y2:=s7.cells;have fM:k<=10:=by omega
 simp only[Z3,seval,-ae,y1,y2];refine PSl.push (bytes:=24) (σb:=h4) k7 p7 (by omega) (by omega) λv9 h8 k8 p8=>?_;have e5:IntKind.i64.wrap (((i+(1+k):Nat):Int)+1)=((i+(1+(k+1)):Nat):Int):=WQ
 simp only[Z3,seval,-ae,e5];refine⟨_,by omega,k+1,v9,_,by omega,rfl,rfl,k8,p8,R++[u8],by rw[YV,jo];rfl,λr hr=>?_,bY.snoc s7⟩;rcases YY.1 hr with h|h
 .exact pf r h
 .rw[YN.1 h];exact Ml
end
section
open Go.Grp
variable{w:V1}
structure ResG{α:Type}(r:α×Int)(z:α)(c:Int):Prop where
 eq:(z,c)=r
theorem ResG.unique{α:Type}{r:α×Int}{z A:α}{c l:Int}(h:ResG r z c)(h':ResG r A l):z=A/\c=l:=by
 have:=h.eq.trans h'.eq.symm
 simpa using this
theorem rt_ex(g:LG O P C)(l:gS O z){c:Int}(N:z≠zv O->OkC (at_ O 0) c)(Z:c=2\/c=12):gS O (rt O P C z c):=by
 by_cases A:z=zv O
 .exact(zCV (w:=zv O) (.inl ⟨A,rfl⟩)).gS g.F g.s l
 .have h0:=Zf l A;have hp:=(g.isp h0).bd;have M:=g.bound h0 (na O.length);have I:∀i,i<=O.length->TT O i (Grp.pw (gm O P C) (zv O) z ((at_ O 0).toNat ^ i)):=by
   intro i hi
   induction i with
   |zero=>rw[Nat.pow_zero,g.F.g.toMon.pw_one l];exact l
   |succ i ih=>
    have:=Q5 g.s g.F g.cent (show i<O.length by omega) (ih (by omega))
    rw[g.eq (show i<O.length by omega),<-g.F.g.toMon.pw_mul l]at this;rw[Nat.pow_succ];exact this
  have D:(((at_ O 0).toNat ^ O.length:Nat):Int)=at_ O 0 ^ O.length:=by
   rw[Int.natCast_pow,YI (by omega)]
  have G:Grp.pw (gm O P C) (zv O) z ((at_ O 0).toNat ^ O.length)=zv O:=(I _ (na _)).ext (g.s.zv _) λj V X=>by omega
  obtain⟨Y,J⟩:=zCh (N A) D (by omega) (c:=c) (by omega);have U:((at_ O 0).toNat ^ O.length:Nat)≠0:=λe=>by have E:=M.1;rw[<-D,e]at E;simp at E
  have b1:=Ya Y (show(((at_ O 0).toNat ^ O.length:Nat):Int)≠0 by omega);refine(zCV (w:=Grp.pw (gm O P C) (zv O) z (Y % ((at_ O 0).toNat ^ O.length:Nat)).toNat) (.inr ⟨A,O.length,_,_,D,G,?_,rfl⟩)).gS g.F g.s l;rw[YI b1,Uq,UX _ (UO _),<-Uq];exact J
theorem zEM(g:LG O P C)(k:clsOk O P C)(l:gS O x)(A:gS O y):gS O (gsum O P C x y):=by
 have G:=g.F.g;have D:=G.com_in l A;exact G.cl (G.cl (G.cl (G.cl l A) (G.inv_in (rt_ex g D (ok2 g k l A (.inl rfl)) (.inl rfl))).1) (rt_ex g (G.com_in D l) (ok12 g k l A l) (.inr rfl))) (G.inv_in (rt_ex g (G.com_in D A) (ok12 g k l A A) (.inr rfl))).1
theorem zDr(g:LG O P C)(k:clsOk O P C)(l:gS O x)(A:gS O y):gS O (gbr O P C x y):=by
 have G:=g.F.g;have D:=G.com_in l A;exact G.cl (G.cl D (G.inv_in (rt_ex g (G.com_in D l) (ok12 g k l A l) (.inl rfl))).1) (G.inv_in (rt_ex g (G.com_in D A) (ok12 g k l A A) (.inl rfl))).1
open Classical in
noncomputable def Zb(O:V1)(P:V2)(C:V3)(x y:V1):V1×Int:=if codeG O P C [x,y]=0 then(gsum O P C x y,0)else([],codeG O P C [x,y])
theorem zPm{z:V1}{c:Int}(h:ResG (Zb O P C x y) z c):z.length<=1048576:=by
 have e:=h.eq;unfold Zb at e;split at e
 .rename_i A;obtain⟨g,k,l⟩:=QO A;simp only[Yt]at e;obtain⟨rfl,_⟩:=e
  have:=(zEM g k (l x (by simp)) (l y (by simp))).len
  have D:=g.s.le;omega
 .simp only[Yt]at e;obtain⟨rfl,_⟩:=e;simp
theorem zMV(A:IsPr vO vP vC O P C)(sz:SzP O P C)(D:FI vx x)(jr:x.length<=1048576)(E:FI vy y)(lA:y.length<=1048576)
  (J:∀v z c t,ResG (Zb O P C x y) z c->FI v z->Own σ.top t v->σ.top<=t->K (.tup [v,.int .i64 c]) (σ.up t)):zA Tryz.prog 8 [.agg [vO,vP,vC],vx,vy] σ K:=by
 have V:=A.O.one;have X:=A.P.one;have Y:=A.C.one;refine zA.gh ?_;refine zD mix Tryz.func8 ?_;simp only[Z3,seval,-ae,V,X,Y,D.one,D.cells,E.one,E.cells];have G:Keep σ (((σ.new [vO,vP,vC]).new [vx,vy]).kill (σ.next+1)):=((zC σ _).new _).kill (by omega);have hs:PtrG (((σ.new [vO,vP,vC]).new [vx,vy]).kill (σ.next+1)) σ.next vO vP vC:=⟨by simp only[Z3,seval,-ae],by simp only[Z3,seval,-ae];omega⟩
 refine zA.frz (s:=σ.next+1) (cs:=[vx,vy]) (by simp only[Z3,seval,-ae]) ⟨D.bel 0,E.bel 0,trivial⟩ λo=>?_;simp only[sbs,Go.Ab.sb,capOK,and_self,if_true,decide_true,na];refine QT (xs:=[x,y]) hs A sz (zBM D E) (SzL.two jr lA) ?_;by_cases l:codeG O P C [x,y]=0;rotate_left
 .simp only[Z3,seval,-ae,l];exact Gh.fin0T (t:=σ.top) G G.top ⟨trivial,trivial,trivial⟩ λ_=>J _ [] _ σ.top ⟨by unfold Zb;rw[if_neg l]⟩ ⟨_,_,rfl⟩ (Own.empty _ _ _ _ _) (na _)
 obtain⟨g,k,I⟩:=QO l;have U:=I x (by simp);have kv:=I y (by simp);simp only[Z3,seval,-ae,l];refine zA.fzIT (λK' h'=>zEv g k hs A U kv D E λ_=>h') λv t N Z M=>?_;simp only[Z3,seval,-ae];exact Gh.fin0T (t:=t) (G.up M) (na _) ⟨N.bel _,trivial,trivial⟩ λ_=>J _ _ _ t ⟨by unfold Zb;rw[if_pos l]⟩ N Z M
theorem zGl(l:IsPr vO vP vC O P C)(sz:SzP O P C)(D:FI vx x)(Y:x.length<=1048576)(E:FI vy y)(lA:y.length<=1048576)
  (U:∀v z c,ResG (Zb O P C x y) z c->FI v z->K (.tup [v,.int .i64 c]) σ):zA Tryz.prog 9 [.agg [vO,vP,vC],vx,vy] σ K:=by
 have J:=l.O.one;have M:=l.P.one;have N:=l.C.one;refine zA.gh ?_;refine zD mix Tryz.func9 ?_;simp only[Z3,seval,-ae,J,M,N,D.one,D.cells,E.one,E.cells];have G:Keep σ (((σ.new [vO,vP,vC]).new [vx,vy]).kill (σ.next+1)):=((zC σ _).new _).kill (by omega);refine zA.frz (s:=σ.next+1) (cs:=[vx,vy]) (by simp only[Z3,seval,-ae]) ⟨D.bel 0,E.bel 0,trivial⟩ λo=>?_;simp only[sbs,Go.Ab.sb,capOK,and_self,if_true,decide_true,na,l.O.sb,l.P.sb,l.C.sb];refine zC2 (xs:=[x,y]) l sz (zBM D E) (SzL.two Y lA) ?_;by_cases A:codeG O P C [x,y]=0;rotate_left
 .simp only[Z3,seval,-ae,A];exact Gh.fin0 G ⟨trivial,trivial,trivial⟩ (U _ [] _ ⟨by unfold Zb;rw[if_neg A]⟩ ⟨_,_,rfl⟩)
 obtain⟨g,k,I⟩:=QO A;have X:=I x (by simp);have Z:=I y (by simp);simp only[Z3,seval,-ae,A,J,M,N];refine zG7 g k l X Z D E λv V=>?_;simp only[Z3,seval,-ae];exact Gh.fin0 G ⟨V.bel _,trivial,trivial⟩ (U _ _ _ ⟨by unfold Zb;rw[if_pos A]⟩ V)
open Classical in
noncomputable def QH(O:V1)(P:V2)(C:V3)(x y:V1):V1×Int:=if codeG O P C [x,y]=0 then(gbr O P C x y,0)else([],codeG O P C [x,y])
theorem zRX{z:V1}{c:Int}(h:ResG (QH O P C x y) z c):z.length<=1048576:=by
 have e:=h.eq;unfold QH at e;split at e
 .rename_i A;obtain⟨g,k,l⟩:=QO A;simp only[Yt]at e;obtain⟨rfl,_⟩:=e
  have:=(zDr g k (l x (by simp)) (l y (by simp))).len
  have D:=g.s.le;omega
 .simp only[Yt]at e;obtain⟨rfl,_⟩:=e;simp
theorem zGw(A:IsPr vO vP vC O P C)(sz:SzP O P C)(D:FI vx x)(jr:x.length<=1048576)(E:FI vy y)(lA:y.length<=1048576)
  (J:∀v z c t,ResG (QH O P C x y) z c->FI v z->Own σ.top t v->σ.top<=t->K (.tup [v,.int .i64 c]) (σ.up t)):zA Tryz.prog 10 [.agg [vO,vP,vC],vx,vy] σ K:=by
 have V:=A.O.one;have X:=A.P.one;have Y:=A.C.one;refine zA.gh ?_;refine zD mix Tryz.func10 ?_;simp only[Z3,seval,-ae,V,X,Y,D.one,D.cells,E.one,E.cells];have G:Keep σ (((σ.new [vO,vP,vC]).new [vx,vy]).kill (σ.next+1)):=((zC σ _).new _).kill (by omega);have hs:PtrG (((σ.new [vO,vP,vC]).new [vx,vy]).kill (σ.next+1)) σ.next vO vP vC:=⟨by simp only[Z3,seval,-ae],by simp only[Z3,seval,-ae];omega⟩
 refine zA.frz (s:=σ.next+1) (cs:=[vx,vy]) (by simp only[Z3,seval,-ae]) ⟨D.bel 0,E.bel 0,trivial⟩ λo=>?_;simp only[sbs,Go.Ab.sb,capOK,and_self,if_true,decide_true,na];refine QT (xs:=[x,y]) hs A sz (zBM D E) (SzL.two jr lA) ?_;by_cases l:codeG O P C [x,y]=0;rotate_left
 .simp only[Z3,seval,-ae,l];exact Gh.fin0T (t:=σ.top) G G.top ⟨trivial,trivial,trivial⟩ λ_=>J _ [] _ σ.top ⟨by unfold QH;rw[if_neg l]⟩ ⟨_,_,rfl⟩ (Own.empty _ _ _ _ _) (na _)
 obtain⟨g,k,I⟩:=QO l;have U:=I x (by simp);have kv:=I y (by simp);simp only[Z3,seval,-ae,l];refine zA.fzIT (λK' h'=>zB6 g k hs A U kv D E λ_=>h') λv t N Z M=>?_;simp only[Z3,seval,-ae];exact Gh.fin0T (t:=t) (G.up M) (na _) ⟨N.bel _,trivial,trivial⟩ λ_=>J _ _ _ t ⟨by unfold QH;rw[if_pos l]⟩ N Z M
theorem zDe(l:IsPr vO vP vC O P C)(sz:SzP O P C)(D:FI vx x)(Y:x.length<=1048576)(E:FI vy y)(lA:y.length<=1048576)
  (U:∀v z c,ResG (QH O P C x y) z c->FI v z->K (.tup [v,.int .i64 c]) σ):zA Tryz.prog 11 [.agg [vO,vP,vC],vx,vy] σ K:=by
 have J:=l.O.one;have M:=l.P.one;have N:=l.C.one;refine zA.gh ?_;refine zD mix Tryz.func11 ?_;simp only[Z3,seval,-ae,J,M,N,D.one,D.cells,E.one,E.cells];have G:Keep σ (((σ.new [vO,vP,vC]).new [vx,vy]).kill (σ.next+1)):=((zC σ _).new _).kill (by omega);refine zA.frz (s:=σ.next+1) (cs:=[vx,vy]) (by simp only[Z3,seval,-ae]) ⟨D.bel 0,E.bel 0,trivial⟩ λo=>?_;simp only[sbs,Go.Ab.sb,capOK,and_self,if_true,decide_true,na,l.O.sb,l.P.sb,l.C.sb];refine zC2 (xs:=[x,y]) l sz (zBM D E) (SzL.two Y lA) ?_;by_cases A:codeG O P C [x,y]=0;rotate_left
 .simp only[Z3,seval,-ae,A];exact Gh.fin0 G ⟨trivial,trivial,trivial⟩ (U _ [] _ ⟨by unfold QH;rw[if_neg A]⟩ ⟨_,_,rfl⟩)
 obtain⟨g,k,I⟩:=QO A;have X:=I x (by simp);have Z:=I y (by simp);simp only[Z3,seval,-ae,A,J,M,N];refine zDC g k l X Z D E λv V=>?_;simp only[Z3,seval,-ae];exact Gh.fin0 G ⟨V.bel _,trivial,trivial⟩ (U _ _ _ ⟨by unfold QH;rw[if_pos A]⟩ V)
end
end Go.Proofs
namespace Go.Grp
section
section
variable{α:Type}[Inhabited α]{S:α->Prop}{m:α->α->α}{e:α}{a c x y z:α}
theorem Gp.inv_inv(G:Gp S m e)(l:S a):ginv S m e (ginv S m e a)=a:=(G.inv_eq (G.inv_in l).1 l (G.inv_l l)).symm
theorem Gp.com_swap(G:Gp S m e)(l:S x)(A:S y):com S m e y x=ginv S m e (com S m e x y):=by
 have D:=G.com_in l A;have E:=(G.inv_in D).1;refine(G.com_eq A l E ?_).symm;have I:=G.com_spec l A;rw[<-I,G.as (G.cl A l) D E,G.inv_r D,G.r1 (G.cl A l)]
theorem Gp.inv_one(G:Gp S m e):ginv S m e e=e:=(G.inv_eq G.one G.one (G.l1 G.one)).symm
def Cm(S:α->Prop)(m:α->α->α)(a:α):Prop:=S a/\∀z,S z->m a z=m z a
theorem Gp.cm_of(G:Gp S m e)(l:S a)(h:∀z,S z->com S m e a z=e):Cm S m a:=⟨l,λz A=>by
 have D:=G.com_spec l A;rw[h z A,G.r1 (G.cl A l)]at D;exact D.symm⟩
theorem Gp.cm_pw(G:Gp S m e)(h:Cm S m a)(k:Nat):Cm S m (Grp.pw m e a k):=by
 refine⟨G.toMon.pw h.1 k,λz l=>?_⟩
 induction k with
 |zero=>show m e z=m z e;rw[G.l1 l,G.r1 l]
 |succ k ih=>
  show m (m (Grp.pw m e a k) a) z=m z (m (Grp.pw m e a k) a);have A:=G.toMon.pw h.1 k;rw[G.as A h.1 l,h.2 z l,<-G.as A l h.1,ih,G.as l A h.1]
theorem Gp.com_inv(G:Gp S m e)(l:S c)(D:S y)(h:Cm S m (com S m e c y)):com S m e (ginv S m e c) y=ginv S m e (com S m e c y):=by
 have A:=(G.inv_in l).1;have I:=G.com_in l D;have E:=G.com_mul l A D;rw[G.inv_r l,G.com_one D]at E;have J:com S m e c y=cnj S m e (com S m e c y) (ginv S m e c):=G.cnj_eq I A I (h.2 _ A).symm;rw[<-J]at E;exact G.inv_eq I (G.com_in A D) E.symm
theorem Gp.pw_inv(G:Gp S m e)(l:S z):∀k,Grp.pw m e (ginv S m e z) k=ginv S m e (Grp.pw m e z k)
 |0=>G.inv_one.symm
 |k+1=>by
  have A:=(G.inv_in l).1;have E:=G.toMon.pw l k;have D:=G.toMon.pw A k;refine G.inv_eq (G.cl E l) (G.cl D A) ?_;show m (m (Grp.pw m e z k) z) (m (Grp.pw m e (ginv S m e z) k) (ginv S m e z))=e;rw[G.toMon.pw_comm A k,G.as E l (G.cl A D),<-G.as l A D,G.inv_r l,G.l1 D,G.pw_inv l k,G.inv_r E]
end
variable{O:V1}{P:V2}{C:V3}{x y z w:V1}
open Go.Lie Go.Ab
theorem rti(F:Full O P C O.length)(l:gS O z){c:Int}(h:Rt O P C z c w):Rt O P C (ginv (gS O) (gm O P C) (zv O) z) c (ginv (gS O) (gm O P C) (zv O) w):=by
 have G:=F.g;rcases h with ⟨rfl,rfl⟩|⟨A,j,y,n,D,E,I,rfl⟩
 .exact .inl ⟨G.inv_one,G.inv_one⟩
 .refine .inr ⟨λe=>A ?_,j,y,n,D,?_,I,(G.pw_inv l y).symm⟩
  .rw[<-G.inv_inv l,e,G.inv_one]
  .rw[G.pw_inv l,E,G.inv_one]
theorem rtp(F:Full O P C O.length)(G:gS O z){c:Int}(h:Rt O P C z c w):∃k,w=Grp.pw (gm O P C) (zv O) z k:=by
 rcases h with ⟨rfl,rfl⟩|⟨l,j,y,n,A,D,E,rfl⟩
 .exact⟨0,rfl⟩
 .exact⟨y,rfl⟩
theorem rts(F:Full O P C O.length)(l:gS O z)(h:Rt O P C z 2 w):gm O P C w w=z:=by
 have G:=F.g;rcases h with ⟨rfl,rfl⟩|⟨E,j,y,n,I,A,D,rfl⟩
 .exact G.l1 G.one
 .rw[<-G.toMon.pw_add l,<-show Grp.pw (gm O P C) (zv O) z 1=z from G.toMon.pw_one l];rw[G.toMon.pw_one l];refine(zBN F l A ?_).trans (G.toMon.pw_one l);rw[show((y+y:Nat):Int)=2*y by omega,D];rfl
section
variable(s:Shp O P C)(F:Full O P C O.length)(hC:Cent O C)
include s F hC
theorem zQd(U:2<=O.length)(J:gS O x)(I:gS O y):TT O 2 (gcom O P C x y):=by
 have G:=F.g;have E:=zCS s F hC U;have l:∀i,i<O.length->gS O (unit O i):=λi A=>s.unit A (YW _);have M:∀i,i<O.length->1<=i->∀{y:V1},gS O y->TT O 2 (gcom O P C (unit O i) y):=λi A N y I=>QX s F hC (t:=1) (by omega) (s.unit A N) I;have V:∀{y:V1},gS O y->TT O 2 (gcom O P C (unit O 0) y):=λ{y} I=>by
  refine zEN s F E (l 0 (by omega)) (λj D=>?_) I;by_cases e:j=0
  .subst e;rw[show gcom O P C (unit O 0) (unit O 0)=zv O from(G.com_eq (l 0 D) (l 0 D) G.one (G.r1 (G.cl (l 0 D) (l 0 D)))).symm];exact E.one
  .rw[show gcom O P C (unit O 0) (unit O j)=_ from G.com_swap (l j D) (l 0 (by omega))];exact E.inv (M j D (by omega) (l 0 (by omega)))
 refine zEN s F E J (λi A=>?_) I;rw[show gcom O P C x (unit O i)=_ from G.com_swap (l i A) J];refine E.inv ?_;by_cases e:i=0
 .subst e;exact V J
 .exact M i A (by omega) J
theorem com4(J:O.length<=4)(D:gS O x)(E:gS O y){u v:V1}(l:gS O u)(A:gS O v):gcom O P C (gcom O P C (gcom O P C x y) u) v=zv O:=by
 have G:=F.g;have I:=G.com_in D E;have hd:=G.com_in I l;have nil:∀{t:Nat} {x:V1},TT O t x->O.length<=t->x=zv O:=λh U=>h.ext (s.zv _) λj N h2=>by omega
 have one:∀{z:V1},gS O z->gcom O P C (zv O) z=zv O:=λM=>G.com_one M;rcases YG O.length 2 with h|h
 .have:gcom O P C x y=zv O:=by
   rcases YG 0 O.length with g|g
   .exact nil (QX s F hC g D E) (by omega)
   .exact nil (t:=0) I (by omega)
  rw[this,one l,one A]
 .have t2:=zQd s F hC h D E;rcases YG 2 O.length with h2|h2
  .have t3:=QX s F hC h2 t2 l;rcases YG 3 O.length with h3|h3
   .exact nil (QX s F hC h3 t3 A) J
   .rw[nil t3 h3,one A]
  .rw[nil t2 h2,one l,one A]
end
end
end Go.Grp
namespace Go.Proofs
open Go.Ab Go.Lie
variable{p:Int}{cO pc:List PV}{c n p0 sO:Nat}{H h σ:PHeap}{vC vO vP:PV}{K:PV->PHeap->Prop}{O x y z:V1}{P:V2}{C:V3}
section
open Go.Grp
variable{w:V1}
theorem rt_R(g:LG O P C)(A:gS O z){c:Int}(N:z≠zv O->OkC (at_ O 0) c)(Z:c=2\/c=12):Rt O P C z c (rt O P C z c):=by
 by_cases l:z=zv O
 .exact zCV (w:=zv O) (.inl ⟨l,rfl⟩)
 .have h0:=Zf A l;have hp:=(g.isp h0).bd;have M:=g.bound h0 (na O.length);have I:∀i,i<=O.length->TT O i (Grp.pw (gm O P C) (zv O) z ((at_ O 0).toNat ^ i)):=by
   intro i hi
   induction i with
   |zero=>rw[Nat.pow_zero,g.F.g.toMon.pw_one A];exact A
   |succ i ih=>
    have:=Q5 g.s g.F g.cent (show i<O.length by omega) (ih (by omega))
    rw[g.eq (show i<O.length by omega),<-g.F.g.toMon.pw_mul A]at this;rw[Nat.pow_succ];exact this
  have D:(((at_ O 0).toNat ^ O.length:Nat):Int)=at_ O 0 ^ O.length:=by
   rw[Int.natCast_pow,YI (by omega)]
  have G:Grp.pw (gm O P C) (zv O) z ((at_ O 0).toNat ^ O.length)=zv O:=(I _ (na _)).ext (g.s.zv _) λj V X=>by omega
  obtain⟨Y,J⟩:=zCh (N l) D (by omega) (c:=c) (by omega);have U:((at_ O 0).toNat ^ O.length:Nat)≠0:=λe=>by have E:=M.1;rw[<-D,e]at E;simp at E
  have b1:=Ya Y (show(((at_ O 0).toNat ^ O.length:Nat):Int)≠0 by omega);refine zCV (w:=Grp.pw (gm O P C) (zv O) z (Y % ((at_ O 0).toNat ^ O.length:Nat)).toNat) (.inr ⟨l,O.length,_,_,D,G,?_,rfl⟩);rw[YI b1,Uq,UX _ (UO _),<-Uq];exact J
theorem zAW(g:LG O P C)(k:clsOk O P C)(D:gS O x)(E:gS O y)(l:gS O z):Cm (gS O) (gm O P C) (gcom O P C (gcom O P C x y) z):=by
 have G:=g.F.g;have I:=G.com_in D E;have hd:=G.com_in I l;refine G.cm_of hd λv A=>?_;have small:O.length<=4->gcom O P C (gcom O P C (gcom O P C x y) z) v=zv O:=λh=>com4 g.s g.F g.cent h D E l A;rcases YG 0 O.length with h0|h0
 .rcases k with k|⟨k,M,J⟩
  .rw[k]at h0;simp at h0
  .rcases g.isp h0 with e|e|e|e
   .have:gcom O P C (gcom O P C x y) z=zv O:=QW g.s g.F J (by omega) I l
    rw[this];exact G.com_one A
   .have:gcom O P C (gcom O P C x y) z=zv O:=zB9 g.s g.F J (by omega) D E l
    rw[this];exact G.com_one A
   all_goals
    refine small ?_;rcases YG 4 O.length with h5|h5
    .have:=(g.bound h0 (i:=5) (by omega)).2
     rw[e]at this;exact absurd this (by decide)
    .exact h5
 .exact small (by omega)
theorem zNq(g:LG O P C)(k:clsOk O P C)(l:gS O x)(A:gS O y):gsum O P C x y=gsum O P C y x:=by
 have G:=g.F.g;have F:=g.F;have E:=G.com_in l A;have I:=zAW g k l A l;have J:=zAW g k l A A;have X:=rt_R g E (ok2 g k l A (.inl rfl)) (.inl rfl);have Z:=rt_R g I.1 (ok12 g k l A l) (.inr rfl) (c:=12);have Y:=rt_R g J.1 (ok12 g k l A A) (.inr rfl) (c:=12);have V:gcom O P C y x=gi_ O P C (gcom O P C x y):=G.com_swap l A;have e2:gcom O P C (gcom O P C y x) x=gi_ O P C (gcom O P C (gcom O P C x y) x):=by rw[V];exact G.com_inv E l I
 have e3:gcom O P C (gcom O P C y x) y=gi_ O P C (gcom O P C (gcom O P C x y) y):=by rw[V];exact G.com_inv E A J
 have iS:=(G.inv_in E).1;have f1:=rt_eq g iS (rti F E X);have f2:=rt_eq g (G.inv_in I.1).1 (rti F I.1 Z);have f3:=rt_eq g (G.inv_in J.1).1 (rti F J.1 Y);have sq:gm O P C (rt O P C (gcom O P C x y) 2) (rt O P C (gcom O P C x y) 2)=gcom O P C x y:=rts F E X;have D:=X.gS F g.s E;obtain⟨ka,ea⟩:=rtp F I.1 Z;obtain⟨kb,eb⟩:=rtp F J.1 Y;have M:=G.cm_pw I ka;rw[<-ea]at M;have bS:=Y.gS F g.s J.1;unfold gsum;rw[e2,e3,V,<-f1,<-f2,<-f3];generalize rt O P C (gcom O P C x y) 2=h at *
 generalize rt O P C (gcom O P C (gcom O P C x y) x) 12=R at *
 generalize rt O P C (gcom O P C (gcom O P C x y) y) 12=Q at *
 have M9:=(G.inv_in D).1;have U:=(G.inv_in bS).1;have N:=G.cl A l;rw[show gi_ O P C (gi_ O P C h)=h from G.inv_inv D,show gi_ O P C (gi_ O P C R)=R from G.inv_inv M.1];have e4:gm O P C (gm O P C x y) (gi_ O P C h)=gm O P C (gm O P C y x) h:=by
  have h1:gm O P C (gm O P C y x) (gcom O P C x y)=gm O P C x y:=G.com_spec l A;rw[<-h1,<-sq,<-G.as N D D,G.as (G.cl N D) D M9,show gm O P C h (gi_ O P C h)=zv O from G.inv_r D,G.r1 (G.cl N D)]
 have u:=G.cl N D;rw[e4,G.as u M.1 U,G.as u U M.1,M.2 _ U]
variable{σ:PHeap}{K:PV->PHeap->Prop}{vO vP vC vz:PV}{sp n:Nat}
noncomputable def stC(O:V1)(P:V2)(C:V3)(z:V1):Nat->V1×V1
 |0=>(List.replicate O.length 0,z)
 |i+1=>((stC O P C z i).1.set i (at_ (stC O P C z i).2 i),gsum O P C (gi_ O P C (Grp.pw (gm O P C) (zv O) (Grp.unit O i) (at_ (stC O P C z i).2 i).toNat)) (stC O P C z i).2)
theorem Q4:∀i,(stC O P C z i).1.length=O.length
 |0=>YT ..
 |i+1=>by rw[stC,YC];exact Q4 i
theorem zHs(g:LG O P C)(k:clsOk O P C)(l:gS O z):∀{i:Nat},i<=O.length->gS O (stC O P C z i).2
 |0,_=>l
 |i+1,hi=>zEM g k (g.F.g.inv_in (g.F.g.toMon.pw (g.s.unit (by omega) (YW _)) _)).1 (zHs g k l (by omega))
noncomputable def cfG(O:V1)(P:V2)(C:V3)(z:V1):V1:=(stC O P C z O.length).1
theorem zJG(g:LG O P C)(k:clsOk O P C)(hs:PtrG σ sp vO vP vC)(J:IsPr vO vP vC O P C)(hz:gS O z)(oi:FI vz z)(hk:∀cap,full 1 cap O.length->K (.sl σ.next 0 O.length cap) (σ.new (pis (cfG O P C z)))):
  zA Tryz.prog 47 [.ptr sp 0,vz] σ K:=by
 have s:=g.s;have F:=g.F;have G:=F.g;have be:=s.le;have V:=hz.len;obtain⟨wx,ax,rfl⟩:=oi;refine zA.gh ?_;have an:¬sp=σ.next:=Nat.ne_of_lt hs.lt;refine zD mix Tryz.func47 ?_;simp only[Z3,seval,-ae,V,YT,zf,mk8 (n:=O.length) (by omega),mkL (n:=O.length) (by omega)];refine zF (λm vs h'=>∃i v,i<=O.length/\m=O.length-i/\vs=[.ptr sp 0,v,.sl σ.next 0 O.length (.known O.length),.int .i64 O.length,.int .i64 (i:Nat)]/\h'=σ.new (pis (stC O P C z i).1)/\FI v (stC O P C z i).2) O.length ?_ ?_
 .exact⟨0,.fz wx ax O.length (pis z),by omega,by omega,rfl,rfl,⟨_,_,by rw[show(stC O P C z 0).2=z from rfl,V]⟩⟩
 rintro m vs h' ⟨i,v,hi,rfl,rfl,rfl,Z⟩
 simp only[Z3,seval,-ae];refine iteI (λl=>?_) λaF=>?_;rotate_left
 .have aU:i=O.length:=by omega
  subst aU;exact Gh.finS (zC σ _) (by simp only[Z3,seval,-ae];rfl) (na _) (zL _ _) (hk _ (.inr rfl))
 have A:=zHs g k hz hi;have hb:=A.bd i l;have mE:=A.len;have mf:=Q4 (P:=P) (C:=C) (O:=O) (z:=z) i;have I:i<(stC O P C z i).2.length:=by omega
 have E:i<(stC O P C z i).1.length:=by omega
 have hp:=(g.isp (by omega)).bd;have heq:=g.eq l;have Y:=Z;obtain⟨w0,a0,rfl⟩:=Z;rw[mE]at Y;have dX:(pis (stC O P C z i).1).take i++[.int .i64 (at_ (stC O P C z i).2 i)]++(pis (stC O P C z i).1).drop (i+1)=pis (stC O P C z (i+1)).1:=zU E;have N:PtrG (σ.new (pis (stC O P C z (i+1)).1)) sp vO vP vC:=hs.new _;have M:gS O (Grp.unit O i):=s.unit l (YW _);have X:=G.toMon.pw M (at_ (stC O P C z i).2 i).toNat;simp only[Z3,seval,-ae,l,pisA I,I,E,UZ E,zJ,dX,mE];refine qC (by omega) l λa1=>?_;simp only[Z3,seval,-ae,pisA I];refine Qz s F N J (a:=Grp.unit O i) (up_ M) ⟨true,a1,by rw[M.len];rfl⟩ (k:=at_ (stC O P C z i).2 i) (by omega) λv1 f1=>?_;simp only[Z3,seval,-ae];refine zDn s F N J (up_ X) f1 λv2 U t2 m2 f2=>?_;have D:gS O U:=by rw[Yv]at t2;exact t2
 have e2:U=gi_ O P C _:=G.inv_eq X D m2;simp only[Z3,seval,-ae];refine zA.fzI (λK'=>λhr=>zEv g k N J A D Y f2 λ_=>hr) λa3=>?_;have e3:gsum O P C (stC O P C z i).2 U=(stC O P C z (i+1)).2:=by rw[zNq g k A D,e2];rfl
 rw[e3];simp only[Z3,seval,-ae,WX l];exact⟨_,by omega,i+1,_,by omega,rfl,rfl,rfl,⟨_,_,rfl⟩⟩
theorem zAx(g:LG O P C)(k:clsOk O P C)(A:IsPr vO vP vC O P C)(Z:gS O z)(oi:FI vz z)(hk:∀v,FI v (cfG O P C z)->K v σ):
  zA Tryz.prog 97 [.agg [vO,vP,vC],vz] σ K:=by
 have s:=g.s;have F:=g.F;have G:=F.g;have be:=s.le;have J:=Z.len;have h0:=A.O.one;have h1:=A.P.one;have h2:=A.C.one;have E:=A;obtain⟨⟨wO,aO,rfl⟩,_,_⟩:=A;obtain⟨wx,ax,rfl⟩:=oi;refine zA.gh ?_;refine zD mix Tryz.func97 ?_;simp only[Z3,seval,-ae,h0,h1,h2,J,YT,zf,mk8 (n:=O.length) (by omega),mkL (n:=O.length) (by omega)];refine zF (λm vs h'=>∃i v,i<=O.length/\m=O.length-i/\vs=[.ptr σ.next 0,.int .i64 O.length,.sl (σ.next+1) 0 O.length (.known O.length),v,.int .i64 (i:Nat)]/\h'=(σ.new [.fz wO aO O.length (pis O),vP,vC]).new (pis (stC O P C z i).1)/\FI v (stC O P C z i).2) O.length ?_ ?_
 .exact⟨0,.fz wx ax O.length (pis z),by omega,by omega,rfl,rfl,⟨_,_,by rw[show(stC O P C z 0).2=z from rfl,J]⟩⟩
 rintro m vs h' ⟨i,v,hi,rfl,rfl,rfl,Y⟩
 simp only[Z3,seval,-ae];refine iteI (λl=>?_) λaF=>?_;rotate_left
 .have aU:i=O.length:=by omega
  subst aU;exact Gh.finF (s:=σ.next+1) ((zC σ _).new _) (by simp only[Z3,seval,-ae];rfl) (UQ _) (zL _ _) (by simp[capOK,Q4]) λo1=>hk _ ⟨true,_,by rw[show(cfG O P C z).length=O.length from Q4 _];rfl⟩
 have I:=zHs g k Z hi;have hb:=I.bd i l;have mE:=I.len;have mf:=Q4 (P:=P) (C:=C) (O:=O) (z:=z) i;have V:i<(stC O P C z i).2.length:=by omega
 have D:i<(stC O P C z i).1.length:=by omega
 have hp:=(g.isp (by omega)).bd;have heq:=g.eq l;have U:=Y;obtain⟨w0,a0,rfl⟩:=Y;rw[mE]at U;have dX:(pis (stC O P C z i).1).take i++[.int .i64 (at_ (stC O P C z i).2 i)]++(pis (stC O P C z i).1).drop (i+1)=pis (stC O P C z (i+1)).1:=zU D;have N:at_ (stC O P C z (i+1)).1 i=at_ (stC O P C z i).2 i:=by rw[stC,at_eq (by rw[YC];exact D)];simp
 have ij:i<(stC O P C z (i+1)).1.length:=by rw[Q4];exact l
 have X:gS O (Grp.unit O i):=s.unit l (YW _);have M:=G.toMon.pw X (at_ (stC O P C z i).2 i).toNat;have S2:=(G.inv_in M).1;simp only[Z3,seval,-ae,l,pisA V,V,D,UZ D,zJ,dX,mE,pisA ij,N];refine Z4 (by omega) l λv1 f1=>?_;simp only[Z3,seval,-ae,pisA ij,N];refine zB2 g E (x:=Grp.unit O i) X f1 (k:=at_ (stC O P C z i).2 i) (by omega) λv2 f2=>?_;simp only[Z3,seval,-ae];refine zAB s g.co E M f2 λv3 f3=>?_;simp only[Z3,seval,-ae];refine zG7 g k E S2 I f3 U λv4 f4=>?_;simp only[Z3,seval,-ae,WX l];exact⟨_,by omega,i+1,v4,by omega,rfl,rfl,rfl,f4⟩
end
section
variable{ls:List (Option LS)}
theorem TI.setO(a:TI σ h p0 sO vO vP vC cO pc ls)(Y:List PV):TI σ (h.set sO Y) p0 sO vO vP vC Y pc ls:=by
 have E:=a.p0b;have hs:=a.sOb;refine⟨a.keep.set hs.1 _,by rw[zG,if_neg a.pO];exact a.obj,E,by rw[zG,if_pos rfl],hs,a.pO,?_,?_,λq D=>?_,a.nd,a.neP,a.neC,a.neL,a.nePC⟩
 .exact Q7 a.accP (λs off l c e=>by rw[zG,if_neg λA=>a.neP sO (.inr (.inr rfl)) off l c (by rw[e,A])]) (na _)
 .exact Q7 a.accC (λs off l c e=>by rw[zG,if_neg λA=>a.neC sO (.inr (.inr rfl)) off l c (by rw[e,A])]) (na _)
 .refine(a.ok q D).move ?_ (na _);rw[zG,if_neg λe=>a.neL.2 (by rw[<-e];exact LS.mem_slots.2 ⟨q,D,rfl⟩)]
theorem zJW(dQ:1<=n)(be:n<=6)
  (hk:∀vP vC pc ls h,TI σ h (σ.next+1) σ.next (.int .i64 p) vP vC [.int .i64 p,vP,vC] pc ls->pc.length=n->ls.length=n->zD7 n ls->K (.agg [.int .i64 p,vP,vC]) h):
  zA Tryz.prog 46 [.int .i64 p,.int .i64 n] σ K:=by
 refine zD mix Tryz.func46 ?_;simp only[Z3,seval,-ae];refine zF (λm G h'=>∃(i:Nat) (vP vC:PV) (pc:List PV) (ls:List (Option LS)),i<=n/\m=n-i/\G=[.int .i64 n,.ptr σ.next 0,.ptr (σ.next+1) 0,.int .i64 n,.int .i64 i]/\TI σ h' (σ.next+1) σ.next (.int .i64 p) vP vC [.int .i64 0,.fz true .nils 0 [],.fz true .nils 0 []] pc ls/\pc.length=i/\ls.length=i/\zD7 n ls) n ?_ ?_
 .exact⟨0,_,_,[],[],by omega,by omega,rfl,⟨(zC σ _).new _,by simp only[Z3,seval,-ae],⟨by omega,by simp only[Z3,seval,-ae]⟩,by simp only[Z3,seval,-ae],⟨na _,by simp only[Z3,seval,-ae];omega⟩,by omega,PAcc.nil _ _ _,PAcc.nil _ _ _,λq hq=>(by cases hq),List.nodup_nil,λs hs off l c e=>(by cases e),λs hs off l c e=>(by cases e),⟨λh=>(by cases h),λh=>(by cases h)⟩,λs off l c e=>(by cases e)⟩,rfl,rfl,λj hj=>absurd hj (by simp)⟩
 as_aux_lemma=>
 rintro m G h' ⟨i,vP,vC,pc,ls,hi,rfl,rfl,a,lg,tQ,eH⟩
 have Z:vP.one=true/\vC.one=true:=⟨a.accP.one,a.accC.one⟩;have q0:h'.rd1 (σ.next+1) 1=some vP:=by rw[zI a.obj];rfl
 have q3:h'.rd (σ.next+1) 0 3=some [.int .i64 p,vP,vC]:=by rw[zZ a.obj];rfl
 simp only[Z3,seval,-ae];refine iteI (λah=>?_) λaF=>?_;rotate_left
 .have aU:i=n:=by omega
  have pT:h'.wr σ.next 0 [.int .i64 p,vP,vC]=some (h'.set σ.next [.int .i64 p,vP,vC]):=by
   rw[zT a.oO,if_pos ⟨by simp,by simp only[List.all_cons,List.all_nil,Z.1,Z.2];rfl⟩];rfl
  have cL:(h'.set σ.next [.int .i64 p,vP,vC]).rd σ.next 0 3=some [.int .i64 p,vP,vC]:=by rw[qH,if_pos rfl];rfl
  have:=hk vP vC pc ls _ (a.setO _) (by omega) (by omega) eH
  simp only[Z3,seval,-ae,q3,pT,cL];exact this
 have aD:i<n:=by omega
 have mk:=mk8 (n:=n) (by omega);have oK:¬σ.next+1=h'.next:=by have:=a.p0b.2;omega
 have kC:¬σ.next=h'.next:=by have:=a.sOb.2;omega
 simp only[Z3,seval,-ae,q0,mk,mkL (n:=n) (by omega),YT,oK,kC];refine TI.pushP (a.keepI (zC h' _)) ⟨rfl,Z.2⟩ (by omega) λv2 h2 u1 u2 U E l2=>?_;simp only[Z3,seval,-ae,u1,u2,U];clear u1 u2 U q0 q3 oK kC;generalize h2.set (σ.next+1) [.int .i64 p,v2,vC]=hb at *
 have bM:IntKind.i64.wrap ((n:Int)-1)=((n-1:Nat):Int):=WQ
 have wN:IntKind.i64.wrap (((n-1:Nat):Int)-i)=((n-1-i:Nat):Int):=WQ
 simp only[Z3,seval,-ae,bM,wN];refine zF (λm G D=>∃(q:Nat) (vL:PV) (cells:List PV),q<=n-1-i/\m=n-1-i-q/\G=[.int .i64 n,.ptr σ.next 0,.ptr (σ.next+1) 0,vL,.int .i64 n,.int .i64 i,.int .i64 ((n-1-i:Nat):Int),.int .i64 q]/\Keep hb D/\PAcc hb.next 1 D vL q cells/\(q=0->vL=.fz true .nils 0 [])) (n-1-i) ⟨0,_,[],by omega,rfl,rfl,Keep.refl _,PAcc.nil _ _ _,λ_=>rfl⟩ ?_
 rintro m G D ⟨q,vL,cells,hq,rfl,rfl,k3,N,eU⟩
 have b:=E.keepI k3;have q2:D.rd1 (σ.next+1) 2=some vC:=by rw[zI b.obj];rfl
 simp only[Z3,seval,-ae];refine iteI (λiV=>?_) λuc=>?_
 .have aR:q<n-1-i:=by omega
  have e5:IntKind.i64.wrap ((q:Int)+1)=((q+1:Nat):Int):=wrapS aR (by omega);simp only[Z3,seval,-ae,mk,mkL (n:=n) (by omega),YT];refine PAcc.push (bytes:=24) (σb:=hb) (k3.new _) (N.keep (zC _ _)) (by omega) (by omega) λv' h4 k4 p4=>?_;simp only[Z3,seval,-ae,e5];exact⟨_,by omega,q+1,v',_,by omega,rfl,rfl,k4,p4.acc,λh=>by omega⟩
 have jk:q=n-1-i:=by omega
 have an:¬σ.next+1=D.next:=by have:=b.p0b.2;omega
 have uw:=N.one;have ur:=N.cells;have vJ:hb.next<=D.next:=k3.next;obtain⟨o,ho,E6⟩:∃o:Option LS,LS.pvo o=vL/\((o=none/\q=0)\/∃s c,o=some ⟨s,c,cells⟩/\cells.length=q/\0<q/\full 1 c q/\D.obj s=some cells/\hb.next<=s/\s<D.next):=by
  rcases Nat.eq_zero_or_pos q with e|e
  .exact⟨none,(eU e).symm,.inl ⟨rfl,e⟩⟩
  .obtain⟨s,c,rfl,V,I,X,Y,J⟩:=N.pos e;exact⟨some ⟨s,c,cells⟩,by simp only[LS.pvo,LS.pv];rw[show cells.length=q by omega],.inr ⟨s,c,rfl,by omega,e,V,I,Y,J⟩⟩
 subst ho;simp only[Z3,seval,-ae,q2,uw,ur,an];refine TI.pushC b ⟨rfl,b.accP.one⟩ (by omega) (λq' e=>?_) λv5 h5 u1 u2 U a5 l5=>?_
 .rcases E6 with ⟨A,_⟩|⟨s,c,A,z0,V,I,X,Y,J⟩
  .rw[A]at e;cases e
  .rw[A]at e;cases e;have Ar:=E.p0b;have jd:=E.sOb;refine⟨⟨by rw[z0];exact I,X,by have:=E.keep.next;show σ.next<=s;omega,J⟩,λhm=>?_,by show s≠_;omega,by show s≠_;omega,λoff l c' M=>?_,λoff l c' M=>?_⟩
   .have:=(E.lt hm).2
    have:s<hb.next:=this
    omega
   .have:s<hb.next:=zAi E.accP M
    omega
   .have:s<hb.next:=zAi E.accC M
    omega
 simp only[Z3,seval,-ae,u1,u2,U,WX aD];refine⟨_,by omega,i+1,v2,v5,_,ls++[o],by omega,rfl,rfl,a5,by rw[YV];simp;omega,by rw[YV];simp;omega,eH.snoc (λe=>?_) λe=>?_⟩
 .rcases E6 with ⟨A,_⟩|⟨s,c,A,z0,V,I,X,Y,J⟩
  .exact A
  .omega
 .rcases E6 with ⟨A,M⟩|⟨s,c,A,z0,V,I,X,Y,J⟩
  .omega
  .exact⟨_,A,by rw[tQ];show cells.length=_;omega⟩
section
variable{H h:PHeap}{K:PV->PHeap->Prop}{n:Nat}{a:Nat->Nat}{b:Nat}{p:Int}{tp sO sP sC:Nat}{vO:PV}{pc cO:List PV}{ls:List (Option LS)}{x:V1}{capP capC cap:Cap}{rows:List SR}{Rs:List (List SR)}
theorem LI.finR{σ0 T:PHeap}{Y:List PV}{res:Nat}(X:Keep σ0 T)(aX:σ0.next<=res/\res<T.next)(N9:full 1 capP rows.length)(Oo:full 1 capC Rs.length)(RT:pc.length=rows.length)
  (Ah:∀q,some q∈ls->full 1 q.cap q.cs.length) (A:BF T H tp sO sP sC ls) (l:LI T H h tp sO sP sC vO capP capC n cO pc ls rows Rs []) (E:Fits ls Rs)
  (hk:∀V vC t,FII V (rows.map SR.x)->FIII vC (Rs.map λR=>R.map SR.x)->Own σ0.top t (.agg [.int .i64 p,V,vC])->σ0.top<=t->K (.tup [.agg [.int .i64 p,V,vC],.int .i64 0]) (σ0.up t)):
  Gh σ0 K (.tup [.agg [.int .i64 p,.sl sP 0 rows.length capP,.sl sC 0 Rs.length capC],.int .i64 0]) (h.set res Y):=by
 have cZ:=X.next;have bO:=A.b sO (by simp);have bP:=A.b sP (by simp);have bC:=A.b sC (by simp);have eX:=l.nx;have hlen:ls.length=Rs.length:=E.1;have M:(List.zipWith lrT ls Rs).length=Rs.length:=by rw[List.length_zipWith];omega
 have e:(TR.tup [.agg [.leaf (.int .i64 p),TR.rows sP capP rows,.lst sC capC (List.zipWith lrT ls Rs)],.leaf (.int .i64 0)]).pv=.tup [.agg [.int .i64 p,.sl sP 0 rows.length capP,.sl sC 0 Rs.length capC],.int .i64 0]:=by
  simp only[TR.pv,TR.pvs,TR.row_pv,TR.rows,YL,M]
 rw[<-e];have J:∀s,s≠res->(h.set res Y).obj s=h.obj s:=λs hs=>by rw[zG,if_neg hs]
 have rok:∀q:SR,q.ok h H.next->q.ok (h.set res Y) σ0.next:=λq ⟨N,U,g3,g4⟩=>⟨N,by rw[J _ (by have:=(A.b sO (by simp));omega)];exact U,by have:=(A.b sO (by simp));omega,g4⟩
 have Lb:∀q∈rows,q.ok (h.set res Y) σ0.next:=λq hq=>rok q (l.ok q (.inl hq));refine Gh.treeO ((X.trans l.keep).set aX.1 _) ⟨⟨trivial,TR.rows_ok N9 (by rw[J _ (by omega),l.oP,Uu (by omega),Y0]) (by omega) (by show sP<h.next;omega) Lb,⟨⟨by rw[M];exact Oo,by rw[J _ (by omega),l.oC,zIQ E],by omega,by show sC<h.next;omega⟩,zNY λj o R D G=>?_⟩,trivial⟩,trivial,trivial⟩ ?_ λa T' N U=>?_
 .cases o with
  |none=>trivial
  |some q=>
   have hm:=LS.mem_of_get D;have bq:=A.b q.s (YY.2 (.inr hm));have rG:R.length=q.cs.length:=E.2 j _ _ D G;obtain⟨hj,iY⟩:=Yn.1 G;refine TR.rows_ok (by rw[rG];exact Ah q (Yf D)) ?_ (by omega) (by show q.s<h.next;omega) λq' aR=>rok q' (l.ok q' (.inr (.inl (List.mem_flatten.2 ⟨R,Yf G,aR⟩))));rw[J _ (by omega),l.oL j q D];unfold cont;rw[if_pos hj,YB,G];rfl
 .have I:=A.nd;have nr:=l.nd;rw[Y0]at nr;have hp:((TR.tup [.agg [.leaf (.int .i64 p),TR.rows sP capP rows,.lst sC capC (List.zipWith lrT ls Rs)],.leaf (.int .i64 0)]).slots).Perm (([sP,sC]++LS.slots ls)++qZ (rows++Rs.flatten)):=by
   have e2:qZ (rows++Rs.flatten)=qZ rows++qZ Rs.flatten:=by simp[qZ]
   simp only[TR.slots,TR.slotss,TR.rows,TR.rows_slots,Y0,Yo,Ys,e2];refine List.Perm.cons _ ?_;have h3:=(zFD E).cons sC |>.append_left (qZ rows);refine h3.trans ?_;simp only[<-Yo];rw[<-Yb,<-Yb];exact List.perm_append_comm.append_right _
  refine hp.nodup_iff.2 (List.nodup_append.2 ⟨?_,nr,λx Z y hy e=>?_⟩)
  .simp only[Yo,Ys,List.nodup_cons]at I ⊢;exact I.2.2
  .have h1:=(A.b x (by simp only[Yo,Ys,YH]at Z ⊢;exact .inr (.inr Z))).2;obtain⟨q,hq,e3⟩:=Yj.1 hy;have h2:=(l.ok q (by rcases YY.1 hq with hq|hq;exact .inl hq;exact .inr (.inl hq))).2.2.1;omega
 .obtain⟨⟨w,_⟩,I,lt⟩:=N;refine hk _ _ T' TR.rows_FII ⟨true,.sl (a sC) 0 Rs.length capC,TR.fzs a (List.zipWith lrT ls Rs),by simp only[TR.fz,M,YL],zKw E⟩ ⟨w,?_,λo D=>lt o ?_⟩ U
  .simpa [TR.fz,TR.fzs,ead,eads]using I
  .simpa [TR.fz,TR.fzs,ead,eads]using D
end
end
section
open Go.Grp
variable{s:Nat}
noncomputable def lrP(O:V1)(P:V2)(C:V3)(i:Nat):V1:=cfG O P C (Grp.pw (gm O P C) (zv O) (Grp.unit O i) (at_ O 0).toNat)
noncomputable def lrC(O:V1)(P:V2)(C:V3)(i k:Nat):V1:=cfG O P C (gbr O P C (Grp.unit O i) (Grp.unit O (i+(1+k))))
noncomputable def lrPs(O:V1)(P:V2)(C:V3)(m:Nat):V2:=(List.range m).map (lrP O P C)
noncomputable def lrR(O:V1)(P:V2)(C:V3)(i m:Nat):V2:=(List.range m).map (lrC O P C i)
noncomputable def lrCs(O:V1)(P:V2)(C:V3)(m:Nat):V3:=(List.range m).map λi=>lrR O P C i (O.length-1-i)
open Classical in
noncomputable def lrRes(O:V1)(P:V2)(C:V3):(Int×V2×V3)×Int:=
 if codeG O P C []=0 then((if O=[]then 2 else at_ O 0,lrPs O P C O.length,lrCs O P C O.length),0)else((0,[],[]),codeG O P C [])
theorem zDy(z:V1):(cfG O P C z).length=O.length:=Q4 _
theorem zJP(M:IsPr vO vP vC O P C)(sz:SzP O P C)
  (hk:∀p vQ vB W B c t,ResG (lrRes O P C) (p,W,B) c->IsR vQ vB W B->Own σ.top t (.agg [.int .i64 p,vQ,vB])->σ.top<=t->K (.tup [.agg [.int .i64 p,vQ,vB],.int .i64 c]) (σ.up t)):zA Tryz.prog 13 [.agg [vO,vP,vC]] σ K:=by
 have h0:=M.O.one;have E:=M.P.one;have h2:=M.C.one;refine zA.gh ?_;generalize Z:(σ.new [vO,vP,vC]).new [.int .i64 0,.fz true .nils 0 [],.fz true .nils 0 []]=T;have cZ:T.next=σ.next+2:=by rw[<-Z];rfl
 have Sr:T.top=σ.top:=by rw[<-Z];rfl
 have fB:Keep σ T:=by rw[<-Z];exact(zC σ _).new _
 have hs:PtrG T σ.next vO vP vC:=⟨by rw[<-Z];simp only[Z3,seval,-ae],by omega⟩
 have ko:∀{g:PHeap} {u0 u1 u2:PV},Keep T g->u0.one=true->u1.one=true->u2.one=true->g.wr (σ.next+1) 0 [u0,u1,u2]=some (g.set (σ.next+1) [u0,u1,u2])/\(g.set (σ.next+1) [u0,u1,u2]).rd (σ.next+1) 0 3=some [u0,u1,u2]:=λ{g u0 u1 u2} k z0 z1 z2=>by
  have aX:g.obj (σ.next+1)=some [.int .i64 0,.fz true .nils 0 [],.fz true .nils 0 []]:=by rw[k.obj _ (by omega),<-Z];simp only[Z3,seval,-ae]
  exact⟨by rw[zT aX,if_pos ⟨by simp,by simp only[List.all_cons,List.all_nil,z0,z1,z2];rfl⟩];rfl,by rw[qH,if_pos rfl];rfl⟩
 refine qG mix Tryz.func13 ?_;simp only[Z3,seval,-ae,h0,E,h2];rw[Z];refine QT (xs:=[]) hs M sz ⟨true,.nils,[],rfl,All2.nil _⟩ ⟨by simp,λy hy=>by cases hy⟩ ?_;by_cases V:codeG O P C []=0;rotate_left
 .obtain⟨g1,D⟩:=ko (Keep.refl T) (u0:=.int .i64 0) (u1:=.fz true .nils 0 []) (u2:=.fz true .nils 0 []) rfl rfl rfl;simp only[Z3,seval,-ae,V,g1,D];exact Gh.fin0T (t:=σ.top) (fB.set (by omega) _) (by show σ.top<=T.top;omega) ⟨⟨trivial,trivial,trivial,trivial⟩,trivial,trivial⟩ λ_=>hk 0 _ _ [] [] _ σ.top ⟨by unfold lrRes;rw[if_neg V]⟩ ⟨⟨true,.nils,[],rfl,All2.nil _⟩,⟨true,.nils,[],rfl,All2.nil _⟩⟩ ⟨⟨trivial,.inl rfl,.inl rfl,trivial⟩,List.nodup_nil,λo ho=>by cases ho⟩ (na _)
 obtain⟨g,k0,_⟩:=QO V;have be:=g.s.le;have aK:=M;obtain⟨⟨wO,aO,rfl⟩,hP,hC⟩:=M;have rO:∀{g:PHeap},Keep T g->g.rd1 σ.next 0=some (.fz wO aO O.length (pis O)):=λ{g} k=>by
  have:=hs.obj
  rw[<-k.obj _ (by omega)]at this;rw[zI this];rfl
 have r0:=rO (Keep.refl T);simp only[Z3,seval,-ae,V,r0];rcases Nat.eq_zero_or_pos O.length with hJ|aQ
 .obtain⟨g1,D⟩:=ko (Keep.refl T) (u0:=.int .i64 2) (u1:=.fz true .nils 0 []) (u2:=.fz true .nils 0 []) rfl rfl rfl;have we:O=[]:=YF hJ;simp only[Z3,seval,-ae,hJ,g1,D];refine Gh.fin0T (t:=σ.top) (fB.set (by omega) _) (by show σ.top<=T.top;omega) ⟨⟨trivial,trivial,trivial,trivial⟩,trivial,trivial⟩ λ_=>hk 2 _ _ [] [] _ σ.top ⟨?_⟩ ⟨⟨true,.nils,[],rfl,All2.nil _⟩,⟨true,.nils,[],rfl,All2.nil _⟩⟩ ⟨⟨trivial,.inl rfl,.inl rfl,trivial⟩,List.nodup_nil,λo ho=>by cases ho⟩ (na _);unfold lrRes;rw[if_pos V,if_pos we,hJ];rfl
 have dk:=(g.isp aQ).bd;have dE:¬O.length=0:=by omega
 have db:¬((O.length:Int)=0):=by omega
 have we:¬O=[]:=λe=>dE (by rw[e];rfl);have df:(pis O)[0]? = some (.int .i64 (at_ O 0)):=pisA aQ;have oh:(0:Int)<O.length:=by omega
 simp only[Z3,seval,-ae,dE,db,oh,we,r0,aQ,df];refine zJW (p:=at_ O 0) aQ be λvQ vB pc ls E A lg tQ eH=>?_;obtain⟨sP,capP,rfl,cP,oP,lP,bP,xP⟩:=A.accP.pos (by omega);obtain⟨sC,capC,rfl,cC,oC,lC,bC,xC⟩:=A.accC.pos (by omega);rw[lg]at cP;rw[tQ]at cC;have He:=A.oO;have C9:=A.sOb;have b:BF T (E.new [.int .i64 (at_ O 0),.sl sP 0 O.length capP,.sl sC 0 O.length capC]) E.next T.next sP sC ls:=by
  have hb:∀s,s∈[E.next,T.next,sP,sC]++LS.slots ls->T.next<=s/\s<E.next+1:=λs hs=>by
   simp only[Yo,Ys,YH]at hs
   have:=A.keep.next
   rcases hs with rfl|rfl|rfl|rfl|hs
   .omega
   .omega
   .omega
   .omega
   .have:=A.lt hs;omega
  refine⟨λs hs=>hb s hs,?_⟩;simp only[Yo,Ys,List.nodup_cons,YH,not_or];refine⟨⟨by omega,by omega,by omega,λhm=>by have:=(A.lt hm).2;omega⟩,⟨λe=>A.neP T.next (.inr (.inr rfl)) 0 _ capP (by rw[<-e]),λe=>A.neC T.next (.inr (.inr rfl)) 0 _ capC (by rw[<-e]),A.neL.2⟩,⟨λe=>A.nePC sP 0 _ capP rfl 0 _ capC (by rw[e]),λhm=>A.neP sP (.inl hm) 0 _ capP rfl⟩,λhm=>A.neC sC (.inl hm) 0 _ capC rfl,A.nd⟩
 have li:LI T (E.new [.int .i64 (at_ O 0),.sl sP 0 O.length capP,.sl sC 0 O.length capC]) (E.new [.int .i64 (at_ O 0),.sl sP 0 O.length capP,.sl sC 0 O.length capC]) E.next T.next sP sC (.int .i64 (at_ O 0)) capP capC O.length [.int .i64 (at_ O 0),.sl sP 0 pc.length capP,.sl sC 0 ls.length capC] pc ls [] [] []:=by
  refine⟨A.keep.new _,na _,by rw[zH,if_pos rfl],by rw[zH,if_neg (by omega)];exact He,by rw[zH,if_neg (by omega)];simpa using oP,by rw[zH,if_neg (by omega)];exact oC,λj q hq=>?_,λq hq=>(by simp at hq),by simp[qZ]⟩
  have:=(A.ok q (Yf hq))
  rw[zH,if_neg (by have:=this.2.2.2;omega),this.2.1];unfold cont;simp
 rw[lg,tQ];rw[lg,tQ]at li;simp only[Z3,seval,-ae];clear oP oC lP lC bP bC He C9;generalize E.new [.int .i64 (at_ O 0),.sl sP 0 O.length capP,.sl sC 0 O.length capC]=H at *
 generalize E.next=tp at *
 have cE:=hs.lt;refine zF (λm us h=>∃(i:Nat) (rows:List SR) (Rs:List (List SR)),i<=O.length/\m=O.length-i/\us=[.ptr σ.next 0,.ptr (σ.next+1) 0,.int .i64 O.length,.ptr tp 0,.int .i64 O.length,.int .i64 i]/\LI T H h tp T.next sP sC (.int .i64 (at_ O 0)) capP capC O.length [.int .i64 (at_ O 0),.sl sP 0 O.length capP,.sl sC 0 O.length capC] pc ls rows Rs []/\rows.length=i/\Rs.length=i/\rows.map SR.x=lrPs O P C i/\Rs.map (λR=>R.map SR.x)=lrCs O P C i) O.length ⟨0,[],[],by omega,by omega,rfl,li,rfl,rfl,rfl,rfl⟩ ?_
 as_aux_lemma=>
 rintro m us h ⟨i,rows,Rs,hi,rfl,rfl,a,U,rG,fX,Cr⟩
 have ow:PtrG h σ.next (.fz wO aO O.length (pis O)) vP vC:=⟨by rw[a.keep.obj _ (by omega)];exact hs.obj,by have:=a.keep.next;omega⟩
 have p0:=rO a.keep;have f1:h.rd1 tp 1=some (.sl sP 0 O.length capP):=by rw[zI a.tpo];rfl
 have f2:h.rd1 tp 2=some (.sl sC 0 O.length capC):=by rw[zI a.tpo];rfl
 have f3:h.rd tp 0 3=some [.int .i64 (at_ O 0),.sl sP 0 O.length capP,.sl sC 0 O.length capC]:=by rw[zZ a.tpo];rfl
 simp only[Z3,seval,-ae];refine iteI (λah=>?_) λaF=>?_;rotate_left
 .as_aux_lemma=>
  have aU:i=O.length:=by omega
  rw[aU]at U rG fX Cr;obtain⟨g1,D⟩:=ko a.keep (u0:=.int .i64 (at_ O 0)) (u1:=.sl sP 0 O.length capP) (u2:=.sl sC 0 O.length capC) rfl rfl rfl;simp only[Z3,seval,-ae,f3,g1,D];have hf:Fits ls Rs:=by
   refine⟨by omega,λj o' R ho M=>?_⟩;obtain⟨hj,iY⟩:=Yn.1 ho;obtain⟨Ir,M0⟩:=Yn.1 M;have N5:R.length=O.length-1-j:=by
    have e:=congrArg (λL=>L[j]?) Cr;simp only[UU,M,Option.map_some]at e;unfold lrCs at e;rw[UU,List.getElem?_range (by omega)]at e;simp only[Option.map_some,YD]at e
    have:=congrArg List.length e
    simpa [lrR]using this
   obtain⟨s1,s2⟩:=eH j hj;rw[iY]at s1 s2;by_cases e:j+1=O.length
   .rw[s1 e];exact YF (by omega)
   .obtain⟨q,J,e2⟩:=s2 (by omega);rw[J];show R.length=_;omega
  have fin:=LI.finR (K:=K) (p:=at_ O 0) (Y:=[.int .i64 (at_ O 0),.sl sP 0 O.length capP,.sl sC 0 O.length capC]) (res:=σ.next+1) (capP:=capP) (capC:=capC) fB ⟨by omega,by omega⟩ (by rw[U];exact cP) (by rw[rG];exact cC) (by omega) (λq hq=>(A.ok q hq).1) b a hf λvQ vC t h2 h3 h4 h5=>hk _ vQ vC _ _ _ t ⟨by unfold lrRes;rw[if_pos V,if_neg we,fX,Cr]⟩ ⟨h2,h3⟩ h4 h5;rw[U,rG]at fin;exact fin
 have G:i<O.length:=by omega
 have hu:gS O (Grp.unit O i):=g.s.unit G (YW _);have eJ:=g.F.g.toMon.pw hu (at_ O 0).toNat;have an:¬tp=h.next:=by have:=(b.b tp (by simp)).2;have:=a.nx;omega
 have yT:¬σ.next=h.next:=by have:=ow.lt;omega
 simp only[Z3,seval,-ae,f1,p0,oh,df];refine qC (by omega) G λa1=>?_;have OJ:FI (.fz true a1 O.length (pis (unitL O.length i))) (Grp.unit O i):=⟨true,a1,by rw[hu.len];rfl⟩
 simp only[Z3,seval,-ae,f1,p0,oh,df];refine Qz g.s g.F ow aK (a:=Grp.unit O i) (up_ hu) OJ (k:=at_ O 0) (by omega) λv1 OI=>?_;simp only[Z3,seval,-ae,f1,p0,oh,df];refine zJG g k0 ow aK eJ OI λbJ iK=>?_;have RI:cfG O P C (Grp.pw (gm O P C) (zv O) (Grp.unit O i) (at_ O 0).toNat)=lrP O P C i:=rfl;have bp:(lrP O P C i).length=O.length:=zDy _;rw[show cfG O P C (Grp.pw (mu O P C O.length) (zv O) (Grp.unit O i) (at_ O 0).toNat)=lrP O P C i from rfl];have a9:=a;obtain⟨u1,a2⟩:=LI.putP b a (x:=lrP O P C i) (cap:=bJ) (by rw[bp];exact iK) (by omega);rw[U,bp]at u1;rw[U]at a2;have Jo:(h.new (pis (lrP O P C i))).rd1 tp 1=some (.sl sP 0 O.length capP):=by rw[zI (a.keepI b (zC h _)).tpo];rfl
 have Ht:(h.new (pis (lrP O P C i))).rd1 σ.next 0=some (.fz wO aO O.length (pis O)):=rO ((a.keepI b (zC h _)).keep);generalize h.new (pis (lrP O P C i))=hN at *
 have cH:(rows++[(⟨h.next,bJ,lrP O P C i⟩:SR)]).map SR.x=lrPs O P C (i+1):=by
  rw[Yh,fX];unfold lrPs;rw[List.range_succ,Yh];rfl
 have ET:(rows++[(⟨h.next,bJ,lrP O P C i⟩:SR)]).length=i+1:=by rw[YV,U];rfl
 generalize rows++[(⟨h.next,bJ,lrP O P C i⟩:SR)]=iL at *
 clear f1 f2 f3 p0 fX U a9;generalize hN.set sP (iL.map SR.pv++pc.drop (i+1))=h0 at *
 have lC:∀{g:PHeap} {cur:List SR},LI T H g tp T.next sP sC (.int .i64 (at_ O 0)) capP capC O.length [.int .i64 (at_ O 0),.sl sP 0 O.length capP,.sl sC 0 O.length capC] pc ls iL Rs cur->g.rd1 tp 2=some (.sl sC 0 O.length capC)/\g.rd1 sC i=some (LS.pvo (ls[i]'(by omega))):=λ{g cur} l=>by
  refine⟨by rw[zI l.tpo];rfl,?_⟩;rw[zI l.oC,UU,YQ (by omega)];rfl
 obtain⟨D,gC⟩:=lC a2;obtain⟨s1,s2⟩:=eH i (by omega);have lg:pLen (LS.pvo (ls[i]'(by omega)))=some (.int .i64 ((O.length-1-i:Nat):Int)):=by
  by_cases e:i+1=O.length
  .rw[s1 e,show O.length-1-i=0 by omega];rfl
  .obtain⟨q',J,e2⟩:=s2 (by omega);rw[J,<-e2];rfl
 simp only[Z3,seval,-ae,Jo,Ht,G,u1,D,gC,lg,oh,df];clear u1 Jo Ht;refine zHo 2 (λe h=>∃(cur:List SR) (b0:PV),e=PEnv.mk [1,2,5,6,7,26,27,48,49,50] [.ptr σ.next 0,.ptr (σ.next+1) 0,.int .i64 O.length,.ptr tp 0,.int .i64 i,.int .i64 O.length,.int .i64 i,.int .i64 ((O.length-1-i:Nat):Int),.int .i64 ((O.length-1-i:Nat):Int),b0]/\LI T H h tp T.next sP sC (.int .i64 (at_ O 0)) capP capC O.length [.int .i64 (at_ O 0),.sl sP 0 O.length capP,.sl sC 0 O.length capC] pc ls iL Rs cur/\cur.map SR.x=lrR O P C i (O.length-1-i)) (λQ hQ=>?_) ?_;rotate_left
 .as_aux_lemma=>
  rintro e h9 ⟨cur,b0,rfl,l,X⟩
  have bY:cur.length=O.length-1-i:=by have:=congrArg List.length X;simpa [lrR]using this
  have l2:=l.close (λq' aR=>by
   rw[rG]at aR;obtain⟨hj,iY⟩:=Yn.1 aR;by_cases e:i+1=O.length
   .rw[s1 e]at iY;cases iY
   .obtain⟨q2,J,e2⟩:=s2 (by omega);rw[J]at iY;cases iY;omega)
  simp only[Z3,seval,-ae,WX G];refine⟨_,by omega,i+1,iL,Rs++[cur],by omega,rfl,rfl,l2,ET,by rw[YV,rG];rfl,cH,?_⟩;rw[Yh,Cr];unfold lrCs;rw[List.range_succ,Yh];simp only[YO,Y3,X]
 as_aux_lemma=>
 refine zF (λm us h=>∃(k:Nat) (cur:List SR),k<=O.length-1-i/\m=O.length-1-i-k/\us=[.ptr σ.next 0,.ptr (σ.next+1) 0,.int .i64 O.length,.ptr tp 0,.int .i64 i,.int .i64 O.length,.int .i64 i,.int .i64 ((O.length-1-i:Nat):Int),.int .i64 k]/\LI T H h tp T.next sP sC (.int .i64 (at_ O 0)) capP capC O.length [.int .i64 (at_ O 0),.sl sP 0 O.length capP,.sl sC 0 O.length capC] pc ls iL Rs cur/\cur.length=k/\cur.map SR.x=lrR O P C i k) (O.length-1-i) ⟨0,[],by omega,by omega,rfl,a2,rfl,rfl⟩ ?_
 rintro m us N ⟨k,cur,Iq,rfl,rfl,l,bY,X⟩
 obtain⟨D,gC⟩:=lC l;simp only[Z3,seval,-ae];refine iteI (λMP=>?_) λNd=>?_;rotate_left
 .have fe:k=O.length-1-i:=by omega
  rw[fe]at X;exact hQ _ _ ⟨cur,_,by rw[fe],l,X⟩
 have bN:k<O.length-1-i:=by omega
 obtain⟨I,J,e2⟩:=s2 (by omega);have hj:i+(1+k)<O.length:=by omega
 have ot:gS O (Grp.unit O (i+(1+k))):=g.s.unit hj (YW _);have uH:IntKind.i64.wrap ((i:Int)+1)=((i+1:Nat):Int):=WQ
 have nQ:IntKind.i64.wrap (((i+1:Nat):Int)+(k:Int))=((i+(1+k):Nat):Int):=WQ
 rw[J]at gC;have Cz:N.rd1 sC i=some (.sl I.s 0 I.cs.length I.cap):=gC;simp only[Z3,seval,-ae,D,Cz,G,uH,nQ];have yq:PtrG N σ.next (.fz wO aO O.length (pis O)) vP vC:=⟨by rw[l.keep.obj _ (by omega)];exact hs.obj,by have:=l.keep.next;omega⟩
 refine qC (by omega) G λa3=>?_;simp only[Z3,seval,-ae,D,Cz,G,uH,nQ];refine qC (by omega) hj λa4=>?_;simp only[Z3,seval,-ae,D,Cz,G,uH,nQ];refine zA.fzI (λK' h'=>zB6 g k0 yq aK (x:=Grp.unit O i) (y:=Grp.unit O (i+(1+k))) hu ot ⟨true,a3,by rw[hu.len];rfl⟩ ⟨true,a4,by rw[ot.len];rfl⟩ λ_=>h') λa5=>?_;have vI:=zDr g k0 hu ot;simp only[Z3,seval,-ae,D,Cz,G,uH,nQ];refine zJG g k0 yq aK vI ⟨true,a5,rfl⟩ λbE cY=>?_;have bp:(lrC O P C i k).length=O.length:=zDy _;rw[show cfG O P C (gbr O P C (Grp.unit O i) (Grp.unit O (i+(1+k))))=lrC O P C i k from rfl];have iH:ls[Rs.length]? = some (some I):=by rw[rG,YQ (by omega),J]
 obtain⟨u1,l2⟩:=LI.putC b l (x:=lrC O P C i k) (cap:=bE) (by rw[bp];exact cY) iH (by omega);rw[bY,bp]at u1;rw[bY]at l2;have lN:=l.keepI b (zC N (pis (lrC O P C i k)));obtain⟨j2,jC⟩:=lC lN;rw[J]at jC;have LR:(N.new (pis (lrC O P C i k))).rd1 sC i=some (.sl I.s 0 I.cs.length I.cap):=jC;generalize N.new (pis (lrC O P C i k))=hN at *
 have jb:(cur++[(⟨N.next,bE,lrC O P C i k⟩:SR)]).map SR.x=lrR O P C i (k+1):=by
  rw[Yh,X];unfold lrR;rw[List.range_succ,Yh];rfl
 have FU:(cur++[(⟨N.next,bE,lrC O P C i k⟩:SR)]).length=k+1:=by rw[YV,bY];rfl
 generalize cur++[(⟨N.next,bE,lrC O P C i k⟩:SR)]=Bm at *
 generalize hN.set I.s (Bm.map SR.pv++I.cs.drop (k+1))=hE at *
 have MU:k<I.cs.length:=by omega
 simp only[Z3,seval,-ae,j2,LR,G,MU,u1,uH,nQ,WX bN];exact⟨_,by omega,k+1,Bm,by omega,rfl,rfl,l2,FU,jb⟩
end
section
variable{h:PHeap}{K:PV->PHeap->Prop}
structure SU(T h:PHeap)(p0:Nat)(v0:PV)(fs:List (PV×List PV))(ls:List LS):Prop where
 keep:Keep T h
 obj:h.obj p0=some (v0::fs.map Prod.fst)
 p0b:T.next<=p0/\p0<h.next
 acc:∀f,f∈fs->PSl T.next 1 h f.1 f.2.length f.2
 ne:∀f,f∈fs->∀off l c,f.1≠.sl p0 off l c
 dis:∀(i j:Nat) f g,fs[i]? = some f->fs[j]? = some g->i≠j->∀s off l c,f.1=.sl s off l c->∀off l c,g.1≠.sl s off l c
 lok:∀q,q∈ls->q.ok h T.next
 lne:∀q,q∈ls->q.s≠p0/\∀f,f∈fs->∀off l c,f.1≠.sl q.s off l c
variable{T:PHeap}{p0:Nat}{v0:PV}{fs:List (PV×List PV)}{ls:List LS}
theorem SU.keepI{l:PHeap}(a:SU T h p0 v0 fs ls)(k:Keep h l):SU T l p0 v0 fs ls:=
 ⟨a.keep.trans k,by rw[k.obj _ a.p0b.2];exact a.obj,⟨a.p0b.1,Yk a.p0b.2 k.next⟩,λf D=>(a.acc f D).keep k,a.ne,a.dis,λq A=>(a.lok q A).move (k.obj _ (a.lok q A).2.2.2) k.next,a.lne⟩
theorem SU.more{q:LS}(a:SU T h p0 v0 fs ls)(E:q.ok h T.next)(G:q.s≠p0/\∀f,f∈fs->∀off l c,f.1≠.sl q.s off l c):SU T h p0 v0 fs (ls++[q]):=
 ⟨a.keep,a.obj,a.p0b,a.acc,a.ne,a.dis,λD A=>(YY.1 A).elim (a.lok D) λe=>by rw[YN.1 e];exact E,λD A=>(YY.1 A).elim (a.lne D) λe=>by rw[YN.1 e];exact G⟩
theorem SU.push{K:PV×PHeap->Prop}{bytes j:Nat}{v x:PV}{cs:List PV}(a:SU T h p0 v0 fs ls)(hj:fs[j]? = some (v,cs))(hb:cs.length<=1000)(oZ:bytes<=24)(aI:∀f,f∈fs->f.1.one=true)
    (k:∀A I,A.one=true->A.cells=[A]->I.wr p0 (j+1) [A]=some (I.set p0 (v0::(fs.set j (A,cs++[x])).map Prod.fst))->SU T (I.set p0 (v0::(fs.set j (A,cs++[x])).map Prod.fst)) p0 v0 (fs.set j (A,cs++[x])) ls->K (A,I)):
    optK (qB 1 bytes (h.new [x]) v (.sl h.next 0 1 (.known 1))) K:=by
  have hm:(v,cs)∈fs:=Yf hj;obtain⟨cN,iY⟩:=Yn.1 hj;have gM:(cs.length+1)*bytes<=1001*24:=Nat.mul_le_mul (by omega) oZ;refine PAcc.pushS (σb:=T) (bytes:=bytes) a.keep (a.acc _ hm).acc rfl (by show(cs.length+1)*bytes<=_;omega) (by show cs.length+1<=_;omega) λA I k2 Y o2 X l2=>?_;have U:=a.p0b;have j5:I.obj p0=some (v0::fs.map Prod.fst):=by rw[o2 _ U.2 (a.ne _ hm)];exact a.obj
  have dX:(fs.set j (A,cs++[x])).map Prod.fst=(fs.map Prod.fst).set j A:=by rw[List.map_set]
  have Z:∀f,f∈fs.set j (A,cs++[x])->f=(A,cs++[x])\/∃i,i≠j/\fs[i]? = some f:=λf D=>by
    obtain⟨i,E⟩:=List.getElem?_of_mem D;rw[Yi]at E;split at E
    . first
      |(cases E;exact .inl rfl)
      | (split at E
         .cases E;exact .inl rfl
         .cases E)
    .rename_i e;exact .inr ⟨i,λG=>e G.symm,E⟩
  refine k A I Y.one Y.cells ?_ ⟨k2.set U.1 _,by rw[zG,if_pos rfl],⟨U.1,by show p0<I.next;omega⟩,λf D=>?_,λf D=>?_,λi1 i2 f g D J an s off l c e=>?_,λq M=>?_,λq M=>⟨(a.lne q M).1,λf D=>?_⟩⟩
  . rw[zT j5,if_pos ⟨by simp only[YS,YL,List.length_nil];omega,by simp only[List.all_cons,List.all_nil,Y.one];rfl⟩,dX]
    congr 2;rw[Yb,UF,Yz,take_set _ (by rw[YS,YL];exact Nat.succ_lt_succ cN),List.set_cons_succ]
  . rcases Z f D with rfl|⟨i,E,N⟩
    . have a3:PSl T.next 1 (I.set p0 (v0::(fs.set j (A,cs++[x])).map Prod.fst)) A (cs.length+1) (cs++[x]):=zAg Y (λs off l c e=>by rw[zG,if_neg λG=>X p0 U.2 off l c (by rw[e,G])]) (na _)
      simpa using a3
    . have V:=Yf N
      refine zAg (a.acc f V) (λs off l c e=>?_) (Y8 l2);rw[zG,if_neg λG=>a.ne f V off l c (by rw[e,G]),o2 s (QD (a.acc f V) e) (a.dis i j f _ N hj E s off l c e)]
  . rcases Z f D with rfl|⟨i,E,N⟩
    .exact X p0 U.2
    .exact a.ne f (Yf N)
  . rw[Yi]at D J
    by_cases e1:j=i1
    . rw[if_pos e1,if_pos cN]at D
      cases D;rw[if_neg λG=>an (e1.symm.trans G)]at J;have Fz:=Yf J;intro dD l' c' e';exact X s (QD (a.acc g Fz) e') off l c e
    . rw[if_neg e1]at D
      have V:=Yf D;by_cases G:j=i2
      . rw[if_pos G,if_pos cN]at J
        cases J;exact X s (QD (a.acc f V) e)
      . rw[if_neg G]at J
        exact a.dis i1 i2 f g D J an s off l c e
  . have aR:=a.lok q M
    refine aR.move ?_ (Y8 l2);rw[zG,if_neg (a.lne q M).1,o2 _ aR.2.2.2 ((a.lne q M).2 _ hm)]
  . rcases Z f D with rfl|⟨i,E,N⟩
    .exact X _ (a.lok q M).2.2.2
    .exact(a.lne q M).2 f (Yf N)
theorem SU.setV(a:SU T h p0 v0 fs ls){v:PV}(I:v.one=true):h.wr p0 0 [v]=some (h.set p0 (v::fs.map Prod.fst))/\SU T (h.set p0 (v::fs.map Prod.fst)) p0 v fs ls:=by
 have D:=a.p0b;refine⟨by rw[zT a.obj,if_pos ⟨by simp,by simp only[List.all_cons,List.all_nil,I];rfl⟩];rfl,a.keep.set D.1 _,by rw[zG,if_pos rfl],D,λf A=>?_,a.ne,a.dis,λq E=>?_,a.lne⟩
 .exact zAg (a.acc f A) (λs off l c e=>by rw[zG,if_neg λG=>a.ne f A off l c (by rw[e,G])]) (na _)
 .exact(a.lok q E).move (by rw[zG,if_neg (a.lne q E).1]) (na _)
end
end Go.Proofs
namespace Go.Grp
open Go.Lie Go.Ab
variable{O:V1}{P:V2}{C:V3}
theorem zP1(s:Shp O P C)(F:Full O P C O.length){i:Nat}(E:i<O.length):Grp.pw (gm O P C) (zv O) (unit O i) (at_ O i).toNat=pvec P i:=by
 have l:=F.rel.pow i (by omega) E;have G:TT O (i+1) (pvec P i):=s.pw i E;have A:=F.nfx (G.mono (YW _));have D:=F.g.toMon.ph_skip (h:=unit O) (x:=nx (pvec P i)) (d:=O.length-(i+1)) (k:=i+1) (t:=0) (λj l A=>by show(at_ _ j).toNat=0;rw[G.zero j (by omega)];rfl) (λj l A=>s.unit (by omega) (YW _));rw[show i+1+(O.length-(i+1))=O.length by omega,A,Y5]at D;refine l.trans ?_;show ph _ _ _ _ (O.length-(O.length-(i+1))) _=_;rw[show O.length-(O.length-(i+1))=i+1 by omega];exact D.symm
end Go.Grp
namespace Go.Proofs
open Go.Ab Go.Lie
variable{a sd:Int}{c k n t:Nat}{h h' σ σ0 σ1:PHeap}{v vC vO vP:PV}{K:PV->PHeap->Prop}{O bs x:V1}{P:V2}{C:V3}
section
open Go.Grp
variable{s:Nat}
theorem zLr(g:LG O P C)(k0:clsOk O P C)(hR:IsPr vO vP vC O P C)(hk:∀q E vB,(q=if O=[]then 2 else at_ O 0)->FII E (lrPs O P C O.length)->FIII vB (lrCs O P C O.length)->K (.agg [.int .i64 q,E,vB]) σ):zA Tryz.prog 50 [.agg [vO,vP,vC]] σ K:=by
 have be:=g.s.le;have aK:=hR;have Gt:=hR.C.one;obtain⟨⟨wO,aO,rfl⟩,⟨wp,ap,rp,rfl,qq⟩,hC⟩:=hR;have vY:P.length=O.length:=g.pr.2.1;refine zA.gh ?_;generalize hT:(σ.new [.fz wO aO O.length (pis O),.fz wp ap P.length rp,vC]).new [.int .i64 0,.fz true .nils 0 [],.fz true .nils 0 []]=T;have G:T.next=σ.next+2:=by rw[<-hT];rfl
 have fB:Keep σ T:=by rw[<-hT];exact(zC σ _).new _
 have ld:∀{g:PHeap},Keep T g->g.rd σ.next 0 3=some [.fz wO aO O.length (pis O),.fz wp ap P.length rp,vC]/\g.rd1 σ.next 0=some (.fz wO aO O.length (pis O))/\g.rd1 σ.next 1=some (.fz wp ap P.length rp):=λ{g} k=>by
  have V:g.obj σ.next=some [.fz wO aO O.length (pis O),.fz wp ap P.length rp,vC]:=by rw[k.obj _ (by omega),<-hT];simp only[Z3,seval,-ae]
  exact⟨by rw[zZ V];rfl,by rw[zI V];rfl,by rw[zI V];rfl⟩
 have ko:∀{g:PHeap} {u0 u1 u2:PV},Keep T g->u0.one=true->u1.one=true->u2.one=true->g.wr (σ.next+1) 0 [u0,u1,u2]=some (g.set (σ.next+1) [u0,u1,u2])/\(g.set (σ.next+1) [u0,u1,u2]).rd (σ.next+1) 0 3=some [u0,u1,u2]:=λ{g u0 u1 u2} k z0 z1 z2=>by
  have aX:g.obj (σ.next+1)=some [.int .i64 0,.fz true .nils 0 [],.fz true .nils 0 []]:=by rw[k.obj _ (by omega),<-hT];simp only[Z3,seval,-ae]
  exact⟨by rw[zT aX,if_pos ⟨by simp,by simp only[List.all_cons,List.all_nil,z0,z1,z2];rfl⟩];rfl,by rw[qH,if_pos rfl];rfl⟩
 obtain⟨I,l0,l1⟩:=ld (Keep.refl T);refine zD mix Tryz.func50 ?_;simp only[Z3,seval,-ae,Gt];rw[hT];simp only[Z3,seval,-ae,l0];refine zF (λm us h=>∃(i:Nat) (q:Int) (E vB:PV) (D cC:List PV) (ls:List LS),i<=O.length/\m=O.length-i/\us=[.ptr σ.next 0,.ptr (σ.next+1) 0,.int .i64 O.length,.ptr (σ.next+4) 0,.int .i64 i]/\SU T h (σ.next+4) (.int .i64 q) [(E,D),(vB,cC)] ls/\(q=if i=0 then 2 else at_ O 0)/\All2 FI D (lrPs O P C i)/\cC=ls.map LS.pv/\zGR ls (lrCs O P C i)) O.length ?_ ?_
 .refine⟨0,2,.sl (σ.next+2) 0 0 (.known 0),.sl (σ.next+3) 0 0 (.known 0),[],[],[],by omega,by omega,rfl,⟨((zC T _).new _).new _,by simp only[Z3,seval,-ae,G],⟨by omega,by first|(simp only[Z3,seval,-ae,G];done)|(simp only[Z3,seval,-ae,G];omega)⟩,λf A=>?_,λf A off l c e=>?_,λi j f g A hg an s off l c e dD l' c' e'=>?_,λq M=>(by cases M),λq M=>(by cases M)⟩,rfl,All2.nil _,rfl,All2.nil _⟩
  .simp only[YH,Yp,or_false]at A;rcases A with rfl|rfl
   .exact PSl.own (.inr rfl) (by simp only[Z3,seval,-ae,G]) rfl (by omega) (by first|(simp only[Z3,seval,-ae,G];done)|(simp only[Z3,seval,-ae,G];omega))
   .exact PSl.own (.inr rfl) (by simp only[Z3,seval,-ae,G]) rfl (by omega) (by first|(simp only[Z3,seval,-ae,G];done)|(simp only[Z3,seval,-ae,G];omega))
  .simp only[YH,Yp,or_false]at A;rcases A with rfl|rfl<;>(simp only[PV.sl.injEq]at e;omega)
  .match i,j with
   |0,0=>exact an rfl
   |1,1=>exact an rfl
   |0,1|1,0=>cases A;cases hg;simp only[PV.sl.injEq]at e e';omega
   |i+2,_=>simp at A
   |0,j+2|1,j+2=>simp at hg
 as_aux_lemma=>
 rintro m us h ⟨i,q,E,vB,D,cC,ls,hi,rfl,rfl,a,M,kK,gv,Z⟩
 obtain⟨I,l0,l1⟩:=ld a.keep;have aP:=a.acc (E,D) (by simp);have aC:=a.acc (vB,cC) (by simp);have f3:h.rd (σ.next+4) 0 3=some [.int .i64 q,E,vB]:=by rw[zZ a.obj];rfl
 simp only[Z3,seval,-ae];refine iteI (λah=>?_) λaF=>?_;rotate_left
 .as_aux_lemma=>
  have aU:i=O.length:=by omega
  subst aU;obtain⟨g1,g2⟩:=ko a.keep (u0:=.int .i64 q) rfl aP.one aC.one;simp only[Z3,seval,-ae,f3,g1,g2];obtain⟨sP,capP,e2,q1,q2,q3,q4,q5⟩:=aP;obtain⟨sC,capC,e3,r1,r2,r3,r4,r5⟩:=aC;dsimp only at e2 q1 q2 q3 e3 r1 r2 r3;subst e2 e3;have et:(TR.agg [.leaf (.int .i64 q),.lst sP capP (D.map TR.leaf),.lst sC capC (ls.map LS.tr)]).pv=.agg [.int .i64 q,.sl sP 0 D.length capP,.sl sC 0 cC.length capC]:=by
   simp only[TR.pv,TR.pvs,YL];rw[gv,YL]
  rw[<-et];have V:∀s,T.next<=s->(h.set (σ.next+1) [.int .i64 q,.sl sP 0 D.length capP,.sl sC 0 cC.length capC]).obj s=h.obj s:=λs hs=>by rw[zG,if_neg (by omega)]
  refine Gh.treeF ((fB.trans a.keep).set (by omega) _) ⟨trivial,⟨⟨by rw[YL];exact q1,by rw[V _ q4,Q8];exact q2,by omega,q5⟩,Q9 (kK.bI 0)⟩,⟨⟨by rw[YL];rw[gv,YL]at r1;exact r1,by rw[V _ r4,LS.tr_pvs,<-gv];exact r2,by omega,r5⟩,LS.trs_okF λq M=>?_⟩,trivial⟩ λaa=>hk q _ _ ?_ ⟨true,.sl (aa sP) 0 D.length capP,D,?_,kK⟩ ⟨true,.sl (aa sC) 0 ls.length capC,TR.fzs aa (ls.map LS.tr),?_,zCG Z⟩
  .obtain⟨g1,g2,g3,g4⟩:=a.lok q M;refine⟨⟨g1,by rw[V _ g3];exact g2,by omega,g4⟩,?_⟩;obtain⟨k,iI,rfl⟩:=YE.1 M;exact(Z.2 k _ _ (YQ iI) (YQ (by rw[<-Z.1];exact iI))).bI 0
  .rw[M];by_cases e:O=[]
   .rw[if_pos e,if_pos (by rw[e];rfl)]
   .rw[if_neg e,if_neg λe2=>e (YF e2)]
  .simp only[TR.fz,zAA,YL];rw[kK.1]
  .simp only[TR.fz,YL];rw[Z.1]
 have J:i<O.length:=by omega
 have dA:i<P.length:=by omega
 have oh:(0:Int)<O.length:=by omega
 have df:(pis O)[0]? = some (.int .i64 (at_ O 0)):=pisA (by omega);have FX:D.length=i:=by rw[kK.1];simp[lrPs]
 have F0:cC.length=i:=by rw[gv,YL,Z.1];simp[lrCs]
 obtain⟨U,X⟩:=a.setV (v:=.int .i64 (at_ O 0)) rfl;simp only[YO,Y3]at U X;generalize h.set (σ.next+4) [.int .i64 (at_ O 0),E,vB]=h2 at *
 simp only[Z3,seval,-ae,l0,oh,df,U];clear U;obtain⟨I,l0,l1⟩:=ld X.keep;have f1:h2.rd1 (σ.next+4) 1=some E:=by rw[zI X.obj];rfl
 obtain⟨w4,a4,yF⟩:=qq.rowI dA;simp only[Z3,seval,-ae,I,l1,f1,J,dA,yF];have vd:pvec P i=P[i]:=by show P.getD i []=_;rw[YB,YQ dA];rfl
 have MD:gS O P[i]:=by rw[<-vd];exact(g.s.pw i J).mono (YW _)
 refine zAx g k0 aK MD ⟨w4,a4,rfl⟩ λv2 cH=>?_;have jx:FI v2 (lrP O P C i):=by unfold lrP;rw[<-g.eq J,zP1 g.s g.F J,vd];exact cH
 have U:=jx.one;have y2:=jx.cells;have fY:¬σ.next+4=h2.next:=by have:=X.p0b.2;omega
 simp only[Z3,seval,-ae,U,y2,f1,fY];have gG:∀f,f∈[(E,D),(vB,cC)]->f.1.one=true:=λf A=>(X.acc f A).one;refine SU.push X (j:=0) (bytes:=24) rfl (by omega) (by omega) gG λv3 h3 z4 z5 z6 Y=>?_;simp only[List.set_cons_zero,List.set_cons_succ,YO,Y3]at z6 Y;generalize h3.set (σ.next+4) [.int .i64 (at_ O 0),v3,vB]=h4 at *
 have bM:IntKind.i64.wrap ((i:Int)+1)=((i+1:Nat):Int):=wrapS J (by omega);simp only[Z3,seval,-ae,z4,z5,z6,bM];clear z4 z5 z6 f1 f3 I l0 l1 U y2;refine zHo 2 (λe h=>∃(N:PV) (cells:List PV) (b0:PV),e=PEnv.mk [1,2,3,4,5,6,7,41] [.ptr σ.next 0,.ptr (σ.next+1) 0,.int .i64 O.length,.ptr (σ.next+4) 0,.int .i64 i,N,.int .i64 O.length,b0]/\Keep h4 h/\PSl h4.next 1 h N (O.length-1-i) cells/\All2 FI cells (lrR O P C i (O.length-1-i))) (λQ hQ=>?_) ?_;rotate_left
 .as_aux_lemma=>
  rintro e h9 ⟨N,cells,b0,rfl,k9,p9,bY⟩
  have a9:=Y.keepI k9;obtain⟨t,cap,rfl,A,q2,q3,q4,q5⟩:=p9;have f2:h9.rd1 (σ.next+4) 2=some vB:=by rw[zI a9.obj];rfl
  have tO:¬σ.next+4=h9.next:=by have:=a9.p0b.2;omega
  have fI:∀f,f∈[(v3,D++[v2]),(vB,cC)]->f.1.one=true:=λf A=>(a9.acc f A).one;have mJ:cells.length=O.length-1-i:=by omega
  have nD:=SU.more (q:=⟨t,cap,cells⟩) a9 ⟨by rw[mJ];exact A,q2,by have:=Y.keep.next;show T.next<=t;omega,q5⟩ ⟨by have:=Y.p0b.2;show t≠σ.next+4;omega,λf A off l c e=>by
   have:=QD (Y.acc f A) e
   have:t<h4.next:=this
   omega⟩
  simp only[Z3,seval,-ae,f2,tO];refine SU.push nD (j:=1) (bytes:=24) rfl (by omega) (by omega) fI λv5 h5 z1 z2 z3 a5=>?_;simp only[List.set_cons_zero,List.set_cons_succ,YO,Y3]at z3 a5;generalize h5.set (σ.next+4) [.int .i64 (at_ O 0),v3,v5]=h6 at *
  simp only[Z3,seval,-ae,z1,z2,z3,WX J];refine⟨_,by omega,i+1,_,v3,v5,_,_,ls++[⟨t,cap,cells⟩],by omega,rfl,rfl,a5,by rw[if_neg (Nat.succ_ne_zero i)],?_,?_,?_⟩
  .unfold lrPs;rw[List.range_succ,Yh];exact kK.snoc jx
  .rw[gv,Yh];simp only[YO,Y3,LS.pv];rw[mJ]
  .unfold lrCs;rw[List.range_succ,Yh];exact Z.snoc bY
 as_aux_lemma=>
 refine zF (λm us h=>∃(k:Nat) (N:PV) (cells:List PV),i+(1+k)<=O.length/\m=O.length-(i+(1+k))/\us=[.ptr σ.next 0,.ptr (σ.next+1) 0,.int .i64 O.length,.ptr (σ.next+4) 0,.int .i64 i,N,.int .i64 ((i+(1+k):Nat):Int)]/\Keep h4 h/\PSl h4.next 1 h N k cells/\All2 FI cells (lrR O P C i k)) (O.length-(i+1)) ⟨0,_,[],by omega,rfl,rfl,zC _ _,PSl.new _ 1 rfl (na _),All2.nil _⟩ ?_
 rintro m us h7 ⟨k,N,cells,tU,rfl,rfl,k7,p7,bY⟩
 obtain⟨I,l0,l1⟩:=ld (Y.keepI k7).keep;simp only[Z3,seval,-ae];refine iteI (λFg=>?_) λFD=>?_;rotate_left
 .have fe:k=O.length-1-i:=by omega
  subst fe;exact hQ _ _ ⟨N,cells,_,by rw[show((i+(1+(O.length-1-i)):Nat):Int)=(O.length:Int) by omega],k7,p7,bY⟩
 have hj:i+(1+k)<O.length:=by omega
 have dP:gS O (Grp.unit O i):=g.s.unit J (YW _);have ot:gS O (Grp.unit O (i+(1+k))):=g.s.unit hj (YW _);simp only[Z3,seval,-ae,I];refine Z4 (by omega) J λb1 ON=>?_;simp only[Z3,seval,-ae,I];refine Z4 (by omega) hj λb2 OM=>?_;simp only[Z3,seval,-ae,I];refine zDC g k0 aK (x:=Grp.unit O i) (y:=Grp.unit O (i+(1+k))) dP ot ON OM λv6 s8=>?_;simp only[Z3,seval,-ae,I];refine zAx g k0 aK (zDr g k0 dP ot) s8 λv8 s7=>?_;have U:=s7.one;have y2:=s7.cells;have fM:k<=10:=by omega
 simp only[Z3,seval,-ae,U,y2];refine PSl.push (bytes:=24) (σb:=h4) k7 p7 (by omega) (by omega) λv9 h8 k8 p8=>?_;have e5:IntKind.i64.wrap (((i+(1+k):Nat):Int)+1)=((i+(1+(k+1)):Nat):Int):=WQ
 simp only[Z3,seval,-ae,e5];refine⟨_,by omega,k+1,v9,_,by omega,rfl,rfl,k8,p8,?_⟩;unfold lrR;rw[List.range_succ,Yh];exact bY.snoc s7
end
section
variable{s:Nat}
def FB(v:PV)(bs:V1):Prop:=∃w a,v=.fz w a bs.length (bs.map (.int .u8))
structure Byt(bs:V1):Prop where
 len:bs.length<=1048576
 bd:∀b∈bs,0<=b/\b<=255
abbrev srcC(vC:PV)(a:Nat)(sd:Int):List PV:=[vC,.int .i64 (a:Int),.int .i64 sd]
structure Src(σ:PHeap)(s:Nat)(vC:PV)(bs:V1)(a:Nat)(sd:Int):Prop where
 obj:σ.obj s=some (srcC vC a sd)
 lt:s<σ.next
 fb:FB vC bs
 byt:Byt bs
 le:a<=bs.length
 sd:0<=sd/\sd<2147483647
theorem FB.one{v:PV}(h:FB v bs):v.one=true:=by obtain⟨w,a,rfl⟩:=h;rfl
theorem FB.bel{v:PV}(h:FB v bs)(n:Nat):Bel n v:=by obtain⟨w,a,rfl⟩:=h;trivial
theorem FB.bels{v:PV}(h:FB v bs)(n a:Nat)(sd:Int):Bels n (srcC v a sd):=⟨h.bel n,trivial,trivial,trivial⟩
theorem Gh.setS{v:PV}{s:Nat}{I D:List PV}(E:σ0.obj s=some I)(hb:Bels 0 D)(k:Gh (σ0.set s D) K v σ1):Gh σ0 K v σ1:=λw ι Z h b r hv h1 h2 h3 h4=>by
 have hs:s<σ0.next:=w.lt E;have w':PWF (σ0.set s D):=by
  refine⟨λt l=>?_,λt cs l=>?_⟩
  .have dW:σ0.next<=t:=l;rw[zG,if_neg (by omega)];exact w.wf t dW
  .rw[zG]at l;split at l
   .cases l;exact Bels.up (YW _) hb
   .exact w.bel t cs l
 obtain⟨v2,σ2,ι2,G,J,M,N,U,V,X,Y,g8,g9⟩:=k w' ι Z h b r hv h1 h2 h3 (λt l A=>by
  rw[zG]at A;split at A
  .cases A
  .exact h4 t l A)
 refine⟨v2,σ2,ι2,G,J,M,N,U,V,X,λt l A=>Y t l ?_,g8,g9⟩;rw[zG,if_neg (by rintro rfl;rw[E]at A;cases A)];exact A
theorem Src.set{σ:PHeap}{a a':Nat}{sd sd':Int}(h:Src σ s vC bs a sd)(l:a'<=bs.length)(hs:0<=sd'/\sd'<2147483647):Src (σ.set s (srcC vC a' sd')) s vC bs a' sd':=
 ⟨by rw[zG,if_pos rfl],h.lt,h.fb,h.byt,l,hs⟩
theorem Src.keep{σ σ':PHeap}{a:Nat}{sd:Int}(h:Src σ s vC bs a sd)(k:Keep σ σ'):Src σ' s vC bs a sd:=
 ⟨by rw[k.obj s h.lt];exact h.obj,Yk h.lt k.next,h.fb,h.byt,h.le,h.sd⟩
theorem Src.q{σ:PHeap}{a:Nat}{sd:Int}(h:Src σ s vC bs a sd):σ.rd1 s 0=some vC/\σ.rd1 s 1=some (.int .i64 a)/\σ.rd1 s 2=some (.int .i64 sd):=by
 refine⟨?_,?_,?_⟩<;>(rw[zI h.obj];rfl)
theorem Src.w1{σ:PHeap}{a:Nat}{sd x:Int}(h:Src σ s vC bs a sd):σ.wr s 1 [.int .i64 x]=some (σ.set s [vC,.int .i64 x,.int .i64 sd]):=by
 rw[zT h.obj,if_pos ⟨by simp,rfl⟩];rfl
theorem Src.w2{σ:PHeap}{a:Nat}{sd x:Int}(h:Src σ s vC bs a sd):σ.wr s 2 [.int .i64 x]=some (σ.set s (srcC vC a x)):=by
 rw[zT h.obj,if_pos ⟨by simp,rfl⟩];rfl
theorem zMc(σ:PHeap)(s:Nat)(x y:List PV):(σ.set s x).set s y=σ.set s y:=by
 simp only[PHeap.set];congr 1;funext t;split<;>rfl
theorem zN9{j:Nat}(A:Byt bs)(l:j<bs.length):(bs.map (PV.int .u8))[j]? = some (.int .u8 (bs.getD j 0))/\0<=bs.getD j 0/\bs.getD j 0<=255:=by
 have e:bs.getD j 0=bs[j]:=by simp[YB,YQ l]
 rw[e];exact⟨by rw[UU,YQ l];rfl,A.bd _ (YK l)⟩
def Nx(n x:Int):Prop:=0<=x/\(n<=1->x=0)/\(1<n->x<n)
theorem Nx.lt{n x:Int}(h:Nx n x)(E:1<=n):x<n:=by
 obtain⟨D,l,A⟩:=h;rcases Um 1 n with g|g
 .exact A g
 .have:=l g;omega
theorem zNP{n x:Int}(E:1<n)(D:0<=x):Nx n (x.tmod n):=by
 rw[Yr D];have l:=Ya x (show n≠0 by omega);have A:=Y4 x (show 0<n by omega);exact⟨l,λh=>by omega,λ_=>A⟩
theorem zL9(Y:FB vC bs)(D:Byt bs)(Z:∀sd,0<=sd/\sd<2147483647->K (.ptr σ.next 0) (σ.new (srcC vC 0 sd))):zA Tryz.prog 60 [vC] σ K:=by
 obtain⟨w,av,rfl⟩:=Y;have hl:=D.len;refine zD mix Tryz.func60 ?_;simp only[Z3,seval,-ae];generalize hC:(PV.fz w av bs.length (bs.map (.int .u8)))=vC at *
 refine zF (λm vs h'=>∃(i:Nat) (sd:Int),i<=bs.length/\m=bs.length-i/\vs=[vC,.ptr σ.next 0,.int .i64 i]/\σ.new (srcC vC 0 sd)=h'/\0<=sd/\sd<2147483647) bs.length ?_ ?_
 .exact⟨0,76001,by omega,by omega,rfl,rfl,by omega,by omega⟩
 rintro m vs h' ⟨i,sd,hi,rfl,rfl,rfl,V,X⟩
 have hlen:pLen vC=some (.int .i64 bs.length):=by rw[<-hC];rfl
 have I:IntKind.i64.wrap ((i:Int)+1)=((i+1:Nat):Int):=WQ
 have out:K (.ptr σ.next 0) (σ.new (srcC vC 0 sd)):=Z sd ⟨V,X⟩;simp only[Z3,seval,-ae,hlen];by_cases l:i<bs.length;rotate_left
 .simp only[Z3,seval,-ae,l,decide_false];exact out
 obtain⟨b1,E,G⟩:=zN9 D l;by_cases Sy:i<64;rotate_left
 .have A:¬(i:Int)<64:=by omega
  simp only[Z3,seval,-ae,l,A,decide_true,decide_false];exact out
 have A:(i:Int)<64:=by omega
 generalize bs.getD i 0=b at b1 E G;have J:IntKind.i64.wrap (sd*71)=sd*71:=WE;have M:IntKind.i64.wrap b=b:=WE;have N:IntKind.i64.wrap (sd*71+b)=sd*71+b:=WE;have U:(sd*71+b).tmod 2147483647=(sd*71+b) % 2147483647:=Yr (by omega);subst hC;simp only[Z3,seval,-ae,l,A,decide_true,b1,J,M,N,U,I];exact⟨_,by omega,i+1,_,by omega,rfl,rfl,rfl,by omega,by omega⟩
theorem zL8{a:Nat}{sd n:Int}(S:Src σ s vC bs a sd)(hn:n<=4611686018427387904)(N:∀x a' sd',Nx n x->a'<=bs.length->0<=sd'/\sd'<2147483647->K (.int .i64 x) (σ.set s (srcC vC a' sd'))):zA Tryz.prog 110 [.ptr s 0,.int .i64 n] σ K:=by
 have hl:=S.byt.len;have yr:=S.sd;have M:=S.le;obtain⟨w,av,rfl⟩:=S.fb;obtain⟨q0,q1,q2⟩:=S.q;have e1:IntKind.i64.wrap (sd*48271)=sd*48271:=WE;have e2:IntKind.i64.wrap (sd*48271+71)=sd*48271+71:=WE;have e4:(sd*48271+71).tmod 2147483647=(sd*48271+71) % 2147483647:=Yr (by omega);refine zD mix Tryz.func110 ?_;simp only[Z3,seval,-ae,q2,e1,e2,e4,S.w2];refine iteI (λah=>?_) λaF=>?_
 .have:=N 0 a sd ⟨UD _,λ_=>rfl,λh=>by omega⟩ M yr
  rw[zBW S.obj]at this;exact this
 have I:0<=(sd*48271+71) % 2147483647/\(sd*48271+71) % 2147483647<2147483647:=by omega
 generalize (sd*48271+71) % 2147483647=nG at *
 have J:=S.set (sd':=nG) M I;obtain⟨p0,X,p2⟩:=J.q;obtain⟨l,e5,eR⟩:∃l,IntKind.i64.wrap (nG.tdiv 47)=l/\0<=l/\l<=2147483647:=by
  have d1:nG.tdiv 47=nG / 47:=US (by omega);exact⟨nG / 47,by rw[d1];exact wrap64 (by omega) (by omega),by omega,by omega⟩
 have G:n≠0:=by omega
 generalize V:σ.set s (srcC (PV.fz w av bs.length (bs.map (.int .u8))) a nG)=σ1 at *
 have hT:∀(a':Nat) (sd':Int),σ1.set s (srcC (PV.fz w av bs.length (bs.map (.int .u8))) a' sd')=σ.set s (srcC (PV.fz w av bs.length (bs.map (.int .u8))) a' sd'):=λa' sd'=>by rw[<-V];exact zMc _ _ _ _
 simp only[Z3,seval,-ae,p0,X,p2,e5];by_cases A:a<bs.length;rotate_left
 .simp only[Z3,seval,-ae,A,decide_false]
  have:=N _ a nG (zNP (by omega) eR.1) M I
  rw[V]at this;simp only[Z3,seval,-ae,G,e5];exact this
 obtain⟨b1,b2,b3⟩:=zN9 S.byt A;generalize bs.getD a 0=b at b1 b2 b3;have D:IntKind.i64.wrap b=b:=WE;have E:IntKind.i64.wrap (l+b)=l+b:=WE;have bM:IntKind.i64.wrap ((a:Int)+1)=((a+1:Nat):Int):=WQ
 simp only[Z3,seval,-ae,A,decide_true,p0,X,b1,e5,D,E,J.w1,bM];have Sb:=J.set (a':=a+1) (sd':=nG) (by omega) I;obtain⟨r0,r1,r2⟩:=Sb.q;generalize jz:σ1.set s (srcC (PV.fz w av bs.length (bs.map (.int .u8))) (a+1) nG)=σ2 at *
 have Y:((a+1:Nat):Int).tmod 2=((a+1:Nat):Int) % 2:=Yr (by omega);have wN:IntKind.i64.wrap (((a+1:Nat):Int)-1)=(a:Int):=WQ
 have fin:∀x:Int,0<=x->K (.int .i64 (x.tmod n)) σ2:=λx hx=>by
  have:=N _ (a+1) nG (zNP (by omega) hx) (by omega) I
  rw[<-jz,hT];exact this
 by_cases U:n<=256;rotate_left
 .simp only[Z3,seval,-ae,U,decide_false,G,e5,D,E];exact fin _ (by omega)
 by_cases Z:((a+1:Nat):Int) % 2=0;rotate_left
 .simp only[Z3,seval,-ae,U,decide_true,r1,Y,Z,decide_false,G,e5,D,E];exact fin _ (by omega)
 simp only[Z3,seval,-ae,U,decide_true,r0,r1,Y,Z,wN,A,b1,G,e5,D,E];exact fin _ (by omega)
variable{h h':PHeap}
def So(σ:PHeap)(s:Nat)(vC:PV)(bs:V1):Prop:=∃a sd,Src σ s vC bs a sd
def Mv(σ:PHeap)(s:Nat)(σ':PHeap):Prop:=∃A l,σ.obj s=some A/\Bels 0 l/\σ'=σ.set s l
def KM(σ:PHeap)(s:Nat)(h:PHeap):Prop:=∃σ',Mv σ s σ'/\Keep σ' h
theorem Mv.next(m:Mv σ s h):h.next=σ.next:=by obtain⟨_,_,_,_,rfl⟩:=m;rfl
theorem Mv.obj(m:Mv σ s h){t:Nat}(l:t≠s):h.obj t=σ.obj t:=by obtain⟨_,_,_,_,rfl⟩:=m;rw[zG,if_neg l]
theorem So.lt(k:So σ s vC bs):s<σ.next:=by obtain⟨_,_,k⟩:=k;exact k.lt
theorem So.mv(k:So σ s vC bs){a:Nat}{sd:Int}(l:a<=bs.length)(hs:0<=sd/\sd<2147483647):Mv σ s (σ.set s (srcC vC a sd))/\So (σ.set s (srcC vC a sd)) s vC bs:=by
 obtain⟨D,A,k⟩:=k;exact⟨⟨_,_,k.obj,k.fb.bels _ _ _,rfl⟩,a,sd,k.set l hs⟩
theorem So.mv0(k:So σ s vC bs):Mv σ s σ:=by
 obtain⟨A,l,k⟩:=k;exact⟨_,_,k.obj,k.fb.bels _ _ _,(zBW k.obj).symm⟩
theorem So.keep(k:So σ s vC bs)(l:Keep σ h):So h s vC bs:=by
 obtain⟨D,A,k⟩:=k;exact⟨_,_,k.keep l⟩
theorem So.set(k:So σ s vC bs){t:Nat}(D:s≠t)(cs:List PV):So (σ.set t cs) s vC bs:=by
 obtain⟨A,l,k⟩:=k;exact⟨A,l,by rw[zG,if_neg D];exact k.obj,k.lt,k.fb,k.byt,k.le,k.sd⟩
theorem KM.keep(k:KM σ s h)(l:Keep h h'):KM σ s h':=by
 obtain⟨σ',m,q⟩:=k;exact⟨σ',m,q.trans l⟩
theorem KM.next(k:KM σ s h):σ.next<=h.next:=by
 obtain⟨σ',m,q⟩:=k;rw[<-m.next];exact q.next
theorem KM.obj(k:KM σ s h){t:Nat}(A:t<σ.next)(l:t≠s):h.obj t=σ.obj t:=by
 obtain⟨σ',m,q⟩:=k;rw[q.obj t (by rw[m.next];exact A),m.obj l]
theorem So.km(k:So σ s vC bs):KM σ s σ:=⟨σ,k.mv0,Keep.refl _⟩
theorem So.kmK(k:So σ s vC bs)(l:Keep σ h):KM σ s h:=⟨σ,k.mv0,l⟩
theorem KM.new(k:KM σ s h)(cs:List PV):KM σ s (h.new cs):=k.keep (zC h cs)
theorem KM.set(k:KM σ s h){t:Nat}(l:σ.next<=t)(cs:List PV):KM σ s (h.set t cs):=by
 obtain⟨σ',m,q⟩:=k;exact⟨σ',m,q.set (by rw[m.next];exact l) cs⟩
theorem KM.mv(k:KM σ s h)(hs:s<σ.next)(I:Mv h s h'):KM σ s h':=by
 obtain⟨σ',⟨A,J,E,U,rfl⟩,q⟩:=k;obtain⟨M,l,N,D,rfl⟩:=I;refine⟨σ.set s l,⟨A,l,E,D,rfl⟩,q.next,q.top,λt G=>?_⟩;rw[zG,zG];split
 .rfl
 .rename_i e;rw[q.obj t G,zG,if_neg e]
theorem KM.trans(k:KM σ s h)(hs:s<σ.next)(l:KM h s h'):KM σ s h':=by
 obtain⟨σ',m,q⟩:=l;exact(k.mv hs m).keep q
theorem Gh.km{v:PV}(k:KM σ s h)(J:So h s vC bs)(hs:s<σ.next)(c:∀σ',Mv σ s σ'->So σ' s vC bs->Keep σ' h->Gh σ' K v h):Gh σ K v h:=by
 obtain⟨σ',m,q⟩:=k;obtain⟨G,I,A,D,e⟩:=m;obtain⟨a,sd,S⟩:=J;have l:s<σ'.next:=by rw[e];exact hs
 have E:So σ' s vC bs:=⟨a,sd,by rw[<-q.obj s l];exact S.obj,l,S.fb,S.byt,S.le,S.sd⟩
 have:=c σ' ⟨G,I,A,D,e⟩ E q
 rw[e]at this;exact Gh.setS A D this
theorem zV{n:Int}(J:So σ s vC bs)(D:n<=4611686018427387904)(A:∀x h,Nx n x->Mv σ s h->So h s vC bs->K (.int .i64 x) h):zA Tryz.prog 110 [.ptr s 0,.int .i64 n] σ K:=by
 obtain⟨a,sd,S⟩:=J;refine zL8 S D λx a' sd' E l hs=>?_;obtain⟨G,I⟩:=So.mv ⟨a,sd,S⟩ l hs;exact A x _ E G I
theorem zF0{p:Int}{n:Nat}{vP vB:PV}(l:vP.one=true)(A:vB.one=true)(D:pLen vP=some (.int .i64 n))(G:n<=1048576)(E:∀cap,full 1 cap n->K (.sl σ.next 0 n cap) (σ.new (pis (List.replicate n 0)))):zA Tryz.prog 102 [.agg [.int .i64 p,vP,vB]] σ K:=by
 refine zA.gh ?_;refine zD mix Tryz.func102 ?_;simp only[Z3,seval,-ae,l,A,D,zf,mk8 (n:=n) (by omega),mkL (n:=n) (by omega)];exact Gh.finS (s:=σ.next+1) ((zC σ _).new _) (by simp only[Z3,seval,-ae]) (by omega) (zL _ _) (E _ (.inr rfl))
theorem Qk{p:Int}{n k:Nat}{vP vB:PV}(A:vP.one=true)(D:vB.one=true)(E:pLen vP=some (.int .i64 n))(J:n<=1048576)(l:k<n)(I:∀v,FI v (unitL n k)->K v σ):zA Tryz.prog 105 [.agg [.int .i64 p,vP,vB],.int .i64 k] σ K:=by
 refine zA.gh ?_;refine zD mix Tryz.func105 ?_;simp only[Z3,seval,-ae,A,D];refine zF0 A D E J λcap G=>?_;simp only[Z3,seval,-ae,l,zJ,YT,UZ l];rw[zU (by simpa using l)];exact Gh.finF (s:=σ.next+1) ((zC σ _).new _) (by simp only[Z3,seval,-ae];rfl) (by omega) (zL _ _) G.ok λ_=>I _ ⟨_,_,by rw[zQ];rfl⟩
theorem zIY{n:Nat}(E:So σ s vC bs)(hn:n<=6)(hk:∀p h,isP p->ipow p n<=729->Mv σ s h->So h s vC bs->K (.int .i64 p) h):zA Tryz.prog 222 [.ptr s 0,.int .i64 n] σ K:=by
 have G:=E.lt;refine zA.gh ?_;refine zD mix Tryz.func222 ?_;simp only[Z3,seval,-ae];refine zV (E.keep (zC _ _)) (by decide) λx I M V dh=>?_;have bp:=M.lt (by decide);have eR:=M.1;have l:I.obj σ.next=some (pis [2,3,3,5,7,2]):=by rw[V.obj (by omega)];simp only[Z3,seval,-ae];rfl
 obtain⟨k,rfl⟩:∃k:Nat,x=k:=⟨x.toNat,by omega⟩
 have Y:k<6:=by omega
 obtain⟨p0,fG,hr⟩:∃p0,isP p0/\I.rd1 σ.next k=some (.int .i64 p0):=by
  have e:k=0\/k=1\/k=2\/k=3\/k=4\/k=5:=by omega
  rcases e with rfl|rfl|rfl|rfl|rfl|rfl
  .exact⟨2,.inl rfl,by rw[zI l];rfl⟩
  .exact⟨3,.inr (.inl rfl),by rw[zI l];rfl⟩
  .exact⟨3,.inr (.inl rfl),by rw[zI l];rfl⟩
  .exact⟨5,.inr (.inr (.inl rfl)),by rw[zI l];rfl⟩
  .exact⟨7,.inr (.inr (.inr rfl)),by rw[zI l];rfl⟩
  .exact⟨2,.inl rfl,by rw[zI l];rfl⟩
 simp only[Z3,seval,-ae,hr,Y];have X:n=0\/n=1\/n=2\/n=3\/n=4\/n=5\/n=6:=by omega
 have big:∀q:Int,isP q->¬ipow q n<=729->q=5\/q=7:=λq A J=>by
  rcases A with rfl|rfl|rfl|rfl
  .exact absurd (by rcases X with rfl|rfl|rfl|rfl|rfl|rfl|rfl<;>decide) J
  .exact absurd (by rcases X with rfl|rfl|rfl|rfl|rfl|rfl|rfl<;>decide) J
  .exact .inl rfl
  .exact .inr rfl
 refine zF (λm vs h=>∃q:Int,isP q/\m=q.toNat/\vs=[.int .i64 n,.int .i64 q]/\KM σ s h/\So h s vC bs) p0.toNat ?_ ?_
 .exact⟨p0,fG,rfl,rfl,(E.km.new _).mv G V,dh⟩
 rintro m vs h2 ⟨q,A,rfl,rfl,km,D⟩
 simp only[Z3,seval,-ae];refine zF2 (p:=q) (n:=n) (by rcases A with rfl|rfl|rfl|rfl<;>decide) hn λk U k2 k3 k4=>?_;by_cases N:k<=729
 .have oT:¬k > 729:=by omega
  simp only[Z3,seval,-ae,oT,decide_false];exact Gh.km km D G λσ' m' Z kp=>Gh.fin0 kp trivial (hk q σ' A (U.1 N) m' Z)
 .have oT:k > 729:=by omega
  rcases big q A (λe=>N (U.2 e))with rfl|rfl
  .simp only[Z3,seval,-ae,oT,decide_true,show((5:Int)<((8:Nat):Int)) by decide];exact⟨_,by decide,3,.inr (.inl rfl),rfl,rfl,km.new _,D.keep (zC _ _)⟩
  .simp only[Z3,seval,-ae,oT,decide_true,show((7:Int)<((8:Nat):Int)) by decide];exact⟨_,by decide,5,.inr (.inr (.inl rfl)),rfl,rfl,km.new _,D.keep (zC _ _)⟩
structure TailI(σ h:PHeap)(s:Nat)(vC:PV)(bs:V1)(p:Int)(n k:Nat)(vP vB:PV)(x:V1):Prop where
 km:KM σ s h
 so:So h s vC bs
 o1:h.obj σ.next=some [.int .i64 p,vP,vB]
 o2:h.obj (σ.next+1)=some (pis x)
 lt:σ.next+1<h.next
 el:El p n x
 z:∀j,j<k->at_ x j=0
theorem zF1{n k:Nat}{p:Int}{vP vB:PV}(J:So σ s vC bs)(hp:2<=p/\p<=7)(X:vP.one=true)(Y:vB.one=true)(gl:pLen vP=some (.int .i64 n))(hn:n<=1048576)(bN:k<=n)
  (hk:∀x h cap,El p n x->(∀j,j<k->at_ x j=0)->full 1 cap n->Mv σ s h->So h s vC bs->K (.sl σ.next 0 n cap) (h.new (pis x))):zA Tryz.prog 182 [.ptr s 0,.agg [.int .i64 p,vP,vB],.int .i64 k] σ K:=by
 have N:=J.lt;refine zA.gh ?_;refine zD mix Tryz.func182 ?_;simp only[Z3,seval,-ae,X,Y];refine zF0 X Y gl hn λcap hc=>?_;simp only[Z3,seval,-ae];generalize G:(σ.new [.int .i64 p,vP,vB])=H;have M:Keep σ H:=by rw[<-G];exact zC _ _
 have eX:H.next=σ.next+1:=by rw[<-G];rfl
 have Li:H.obj σ.next=some [.int .i64 p,vP,vB]:=by rw[<-G];simp only[Z3,seval,-ae]
 refine zF (λm vs h=>∃(i:Nat) (x:V1),k<=i/\i<=n/\m=n-i/\vs=[.ptr s 0,.ptr σ.next 0,.sl (σ.next+1) 0 n cap,.int .i64 i]/\TailI σ h s vC bs p n k vP vB x) (n-k) ?_ ?_
 .refine⟨k,List.replicate n 0,na _,bN,rfl,rfl,⟨(J.kmK M).new _,(J.keep M).keep (zC _ _),by rw[zH,if_neg (by omega)];exact Li,by rw[zH,if_pos eX.symm],by show _<H.next+1;omega,⟨by simp,λy A=>by rw[Y9 A];omega⟩,λj _=>qF _ _⟩⟩
 rintro m vs h ⟨i,x,oR,dr,rfl,rfl,⟨km,V,o1,o2,ij,I,Z⟩⟩
 have U:=I.1;simp only[Z3,seval,-ae];refine iteI (λM5=>?_) λM7=>?_;rotate_left
 .have e:i=n:=by omega
  refine Gh.km km V N λσ' m' bW kp=>?_;have E:=m'.next;rw[<-E];refine Gh.finS (s:=σ'.next+1) kp (by rw[E];exact o2) (by omega) (zL _ _) ?_
  have:=hk x σ' cap I Z hc m' bW
  rw[E];exact this
 have r0:h.rd1 σ.next 0=some (.int .i64 p):=by rw[zI o1];rfl
 simp only[Z3,seval,-ae,r0];refine zV V (by omega) λy l A D cQ=>?_;have eZ:=A.lt (by omega);have RH:=A.1;have Ae:i<n:=by omega
 have o3:l.obj (σ.next+1)=some (pis x):=by rw[D.obj (by omega)];exact o2
 have w3:l.wr (σ.next+1) i [.int .i64 y]=some (l.set (σ.next+1) (pis (x.set i y))):=by
  rw[zT o3,if_pos ⟨by rw[zJ,U];simp;omega,rfl⟩];congr 2;exact zU (by omega)
 have wi:IntKind.i64.wrap ((i:Int)+1)=((i+1:Nat):Int):=WQ
 simp only[Z3,seval,-ae,Ae,w3,wi];refine⟨_,?_,i+1,x.set i y,by omega,by omega,rfl,rfl,⟨(km.mv N D).set (by omega) _,cQ.set (by omega) _,by rw[zG,if_neg (by omega),D.obj (by omega)];exact o1,by rw[zG,if_pos rfl],by show _<l.next;rw[D.next];exact ij,⟨by rw[YC];exact U,λz dT=>?_⟩,λj hj=>?_⟩⟩
 .omega
 .rcases List.mem_or_eq_of_mem_set dT with e|e
  .exact I.2 z e
  .omega
 .rw[at_set (by omega),if_neg (by omega)];exact Z j hj
theorem zn{n k:Nat}{p:Int}{vP vB:PV}(l:So σ s vC bs)(Z:2<=p/\p<=7)(M:vP.one=true)(N:vB.one=true)(U:pLen vP=some (.int .i64 n))(Y:n<=1048576)(E:k<=n)
  (X:∀v x h,El p n x->(∀j,j<k->at_ x j=0)->FI v x->Mv σ s h->So h s vC bs->K v h):zA Tryz.prog 182 [.ptr s 0,.agg [.int .i64 p,vP,vB],.int .i64 k] σ K:=by
 refine zA.gh (zF1 l Z M N U Y E λx h cap A hz V m J=>?_);refine Gh.km (l.km.mv l.lt m |>.new _) (J.keep (zC _ _)) l.lt λσ' D G kp=>?_;have I:=A.1;subst I;exact Gh.finF (s:=σ.next) kp (by rw[zH,if_pos m.next.symm]) (by rw[D.next];exact na _) (zL _ _) V.ok λo=>X _ x σ' A hz ⟨_,_,rfl⟩ D G
variable{b n sP sB:Nat}{p:Int}{RP R:PV->V1->Prop}{capP aj:Cap}{cs:List PV}{ls:List LS}{W:V2}{B:V3}
def RowsG(R:PV->V1->Prop)(ls:List LS)(B:V3):Prop:=All2 (λ(q:LS) (M:V2)=>All2 R q.cs M) ls B
structure RS(RP R:PV->V1->Prop)(b:Nat)(h:PHeap)(n sP:Nat)(capP:Cap)(cs:List PV)(sB:Nat)(aj:Cap)(ls:List LS)(W:V2)(B:V3):Prop where
 P:full 1 capP n/\h.obj sP=some cs/\b<=sP/\sP<h.next
 Q:full 1 aj n/\h.obj sB=some (ls.map LS.pv)/\b<=sB/\sB<h.next
 ne:sP≠sB
 lok:∀q∈ls,q.ok h b
 lne:∀q∈ls,q.s≠sP/\q.s≠sB
 nd:(ls.map LS.s).Nodup
 aP:All2 RP cs W
 aB:RowsG R ls B
 lW:W.length=n
 lB:B.length=n
theorem RS.move(a:RS RP R b h n sP capP cs sB aj ls W B)(l:∀t,(t=sP\/t=sB\/∃q∈ls,q.s=t)->h'.obj t=h.obj t)(D:h.next<=h'.next):RS RP R b h' n sP capP cs sB aj ls W B:=by
 obtain⟨E,G,I,U⟩:=a.P;obtain⟨J,M,N,V⟩:=a.Q;exact⟨⟨E,by rw[l _ (.inl rfl)];exact G,I,by omega⟩,⟨J,by rw[l _ (.inr (.inl rfl))];exact M,N,by omega⟩,a.ne,λq A=>(a.lok q A).move (l _ (.inr (.inr ⟨q,A,rfl⟩))) D,a.lne,a.nd,a.aP,a.aB,a.lW,a.lB⟩
theorem RS.lt(a:RS RP R b h n sP capP cs sB aj ls W B){t:Nat}(A:t=sP\/t=sB\/∃q∈ls,q.s=t):b<=t/\t<h.next:=by
 rcases A with rfl|rfl|⟨q,l,rfl⟩
 .exact a.P.2.2
 .exact a.Q.2.2
 .exact(a.lok q l).2.2
theorem RS.keep(a:RS RP R b h n sP capP cs sB aj ls W B)(k:Keep h h'):RS RP R b h' n sP capP cs sB aj ls W B:=a.move (λt l=>k.obj t (a.lt l).2) k.next
theorem RS.new(a:RS RP R b h n sP capP cs sB aj ls W B)(xs:List PV):RS RP R b (h.new xs) n sP capP cs sB aj ls W B:=a.keep (zC h xs)
theorem RS.mv(a:RS RP R b h n sP capP cs sB aj ls W B)(hs:s<b)(m:Mv h s h'):RS RP R b h' n sP capP cs sB aj ls W B:=a.move (λt l=>m.obj (by have:=(a.lt l).1;omega)) (by rw[m.next];exact na _)
theorem RS.low{b':Nat}(a:RS RP R b h n sP capP cs sB aj ls W B)(A:b'<=b):RS RP R b' h n sP capP cs sB aj ls W B:=
 ⟨⟨a.P.1,a.P.2.1,by have:=a.P.2.2.1;omega,a.P.2.2.2⟩,⟨a.Q.1,a.Q.2.1,by have:=a.Q.2.2.1;omega,a.Q.2.2.2⟩,a.ne,λq l=>⟨(a.lok q l).1,(a.lok q l).2.1,by have:=(a.lok q l).2.2.1;omega,(a.lok q l).2.2.2⟩,a.lne,a.nd,a.aP,a.aB,a.lW,a.lB⟩
theorem RS.csl(a:RS RP R b h n sP capP cs sB aj ls W B):cs.length=n:=a.aP.1.trans a.lW
theorem RS.lsl(a:RS RP R b h n sP capP cs sB aj ls W B):ls.length=n:=a.aB.1.trans a.lB
theorem RS.rdB(a:RS RP R b h n sP capP cs sB aj ls W B){i:Nat}(l:i<n):∃q,ls[i]? = some q/\h.rd1 sB i=some q.pv/\q.cs.length=(B.getD i []).length:=by
 have A:=a.lsl;refine⟨ls[i]'(by omega),YQ (by omega),?_,?_⟩
 .rw[zI a.Q.2.1,UU,YQ (by omega)];rfl
 .have hB:=a.lB
  have:=a.aB.2 i _ _ (YQ (by omega)) (YQ (by omega))
  rw[this.1,YB,YQ (by omega)];rfl
theorem zFX{α β:Type}{R:α->β->Prop}{xs:List α}{ys:List β}(k:All2 R xs ys){i:Nat}{a:α}{b:β}(D:R a b):All2 R (xs.set i a) (ys.set i b):=by
 refine⟨by rw[YC,YC];exact k.1,λj x y l A=>?_⟩;rw[Yi]at l A;by_cases e:i=j
 .rw[if_pos e]at l A;split at l
  .split at A
   .cases l;cases A;exact D
   .cases A
  .cases l
 .rw[if_neg e]at l A;exact k.2 j x y l A
theorem zCQ{h:PHeap}{t i:Nat}{cs:List PV}{v:PV}(A:h.obj t=some cs)(l:i<cs.length)(D:v.one=true):h.wr t i [v]=some (h.set t (cs.set i v)):=by
 rw[zT A,if_pos ⟨by simp;omega,by simp[D]⟩];congr 2;rw[Yb];exact take_set cs l v
theorem RS.putP(a:RS RP R b h n sP capP cs sB aj ls W B){i:Nat}{v:PV}{w:V1}(A:i<n)(E:RP v w)(D:v.one=true):
  h.wr sP i [v]=some (h.set sP (cs.set i v))/\RS RP R b (h.set sP (cs.set i v)) n sP capP (cs.set i v) sB aj ls (W.set i w) B:=by
 obtain⟨G,I,J,M⟩:=a.P;obtain⟨N,U,V,X⟩:=a.Q;refine⟨zCQ I (by rw[a.csl];exact A) D,⟨G,by rw[zG,if_pos rfl],J,M⟩,⟨N,by rw[zG,if_neg (Ne.symm a.ne)];exact U,V,X⟩,a.ne,λq l=>(a.lok q l).move (by rw[zG,if_neg (a.lne q l).1]) (na _),a.lne,a.nd,zFX a.aP E,a.aB,by rw[YC];exact a.lW,a.lB⟩
theorem zDa{α β:Type}(f:α->β){xs:List α}{i:Nat}{x y:α}(l:xs[i]? = some x)(e:f y=f x):(xs.set i y).map f=xs.map f:=by
 rw[List.map_set,e];refine List.ext_getElem? λj=>?_;rw[Yi];split
 .rename_i A;subst A;rw[UU,l];split
  .rfl
  .rename_i D
   have:=(Yn.1 l).1
   simp only[YL]at D;omega
 .rfl
theorem RS.putB(a:RS RP R b h n sP capP cs sB aj ls W B){i k:Nat}{q:LS}{v:PV}{w:V1}(E:ls[i]? = some q)(hk:k<q.cs.length)(hv:R v w)(ho:v.one=true):
    h.wr q.s k [v]=some (h.set q.s (q.cs.set k v))/\RS RP R b (h.set q.s (q.cs.set k v)) n sP capP cs sB aj (ls.set i ⟨q.s,q.cap,q.cs.set k v⟩) W (B.set i ((B.getD i []).set k w)):=by
  obtain⟨p1,p2,p3,p4⟩:=a.P;obtain⟨q1,q2,q3,q4⟩:=a.Q;have N:=Yf E;obtain⟨g1,g2,g3,g4⟩:=a.lok q N;obtain⟨V,X⟩:=Yn.1 E;have I:=a.lne q N;have U:LS.pv ⟨q.s,q.cap,q.cs.set k v⟩=q.pv:=by simp[LS.pv]
  have J:∀l,l∈ls.set i ⟨q.s,q.cap,q.cs.set k v⟩->l=⟨q.s,q.cap,q.cs.set k v⟩\/(l∈ls/\l.s≠q.s):=λl D=>by
    obtain⟨j,A⟩:=List.getElem?_of_mem D;rw[Yi]at A;split at A
    . first
      |(cases A;exact .inl rfl)
      | (split at A
         .cases A;exact .inl rfl
         .cases A)
    . rename_i e
      refine .inr ⟨Yf A,λZ=>e ?_⟩;obtain⟨Y,iY⟩:=Yn.1 A
      have:=(List.getElem_inj (xs:=ls.map LS.s) (i:=i) (j:=j) (h₀:=by rw[YL];exact V) (h₁:=by rw[YL];exact Y) a.nd).1 (by rw[Us,Us,X,iY,Z])
      exact this
  refine⟨zCQ g2 hk ho,⟨p1,by rw[zG,if_neg (Ne.symm I.1)];exact p2,p3,p4⟩,⟨q1,by rw[zG,if_neg (Ne.symm I.2),zDa LS.pv E U];exact q2,q3,q4⟩,a.ne,λl D=>?_,λl D=>?_,?_,a.aP,?_,a.lW,by rw[YC];exact a.lB⟩
  . rcases J l D with rfl|⟨G,M⟩
    .exact⟨by show full 1 q.cap (q.cs.set k v).length;rw[YC];exact g1,by rw[zG,if_pos rfl],g3,g4⟩
    .exact(a.lok l G).move (by rw[zG,if_neg M]) (na _)
  . rcases J l D with rfl|⟨G,M⟩
    .exact I
    .exact a.lne l G
  . rw[zDa LS.s (y:=⟨q.s,q.cap,q.cs.set k v⟩) E rfl]
    exact a.nd
  . have hB:=a.lB
    have hl:=a.lsl;refine zFX a.aB (zFX ?_ hv)
    have:=a.aB.2 i _ _ E (YQ (by omega))
    rw[YB,YQ (by omega)];exact this
theorem RS.imp{RP' R':PV->V1->Prop}(a:RS RP R b h n sP capP cs sB aj ls W B)(l:All2 RP' cs W)(A:RowsG R' ls B):RS RP' R' b h n sP capP cs sB aj ls W B:=⟨a.P,a.Q,a.ne,a.lok,a.lne,a.nd,l,A,a.lW,a.lB⟩
theorem zGa{t o:Nat}{xs:List PV}:∀vs:List PV,sbs t o xs vs=vs.map (sb t o xs)
 |[]=>rfl
 |v::vs=>by simp only[sbs,YO,zGa vs]
theorem Qf{t o u:Nat}{xs l:List PV}(A:u≠t)(D:h.obj u=some l):((h.kill t).sub t o xs).obj u=some (sbs t o xs l):=by
 show(((h.kill t).obj u).map (sbs t o xs))=_
 rw[zG2,if_neg A,D];rfl
def LS.fr(t o:Nat)(xs:List PV)(q:LS):LS:=⟨q.s,q.cap,sbs t o xs q.cs⟩
theorem LS.fr_pv{t o:Nat}{xs:List PV}(q:LS):(LS.fr t o xs q).pv=q.pv:=by simp[LS.fr,LS.pv,Zd]
theorem LS.sbs_pv{t o:Nat}{xs:List PV}:∀{ls:List LS},(∀q∈ls,q.s≠t)->sbs t o xs (ls.map LS.pv)=ls.map LS.pv
 |[],_=>rfl
 |q::ls,hn=>by
  have:=hn q (UW ..)
  simp only[YO,sbs,LS.sbs_pv λA l=>hn A (Yl _ l)];simp only[LS.pv,sb,this,false_and,if_false]
theorem LS.fr_ok{t o:Nat}{xs:List PV}{q:LS}(a:q.ok h b)(G:q.s≠t):(LS.fr t o xs q).ok ((h.kill t).sub t o xs) b:=by
 obtain⟨l,A,D,E⟩:=a;exact⟨by show full 1 q.cap (sbs t o xs q.cs).length;rw[Zd];exact l,Qf G A,D,E⟩
theorem LS.fr_same{t o:Nat}{xs:List PV}{ls:List LS}(l:∀q∈ls,Bels 0 q.cs):ls.map (LS.fr t o xs)=ls:=by
 conv=>rhs;rw[<-List.map_id ls]
 refine List.map_congr_left λq A=>?_
 show(⟨q.s,q.cap,sbs t o xs q.cs⟩:LS)=q
 rw[Qg (YW _) (l q A)]
theorem RS.fzh{RP' R':PV->V1->Prop}{t o:Nat}{xs:List PV}(a:RS RP R b h n sP capP cs sB aj ls W B)(E:t≠sP/\t≠sB/\∀q∈ls,q.s≠t)(X:∀v w,RP v w->RP' (sb t o xs v) w)(Y:∀v w,R v w->R' (sb t o xs v) w):
  RS RP' R' b ((h.kill t).sub t o xs) n sP capP (sbs t o xs cs) sB aj (ls.map (LS.fr t o xs)) W B:=by
 obtain⟨p1,p2,p3,p4⟩:=a.P;obtain⟨q1,q2,q3,q4⟩:=a.Q;have U:(ls.map (LS.fr t o xs)).map LS.pv=ls.map LS.pv:=by rw[Uw];exact List.map_congr_left λq _=>LS.fr_pv q
 have V:(ls.map (LS.fr t o xs)).map LS.s=ls.map LS.s:=by rw[Uw];exact List.map_congr_left λq _=>rfl
 have M:∀{S J:PV->V1->Prop} {vs:List PV} {N:V2},(∀v w,S v w->J (sb t o xs v) w)->All2 S vs N->All2 J (sbs t o xs vs) N:=λZ k=>by
  refine⟨by rw[Zd];exact k.1,λj x y D I=>?_⟩;rw[zGa,UU]at D;obtain⟨v,hv,rfl⟩:=YJ.1 D;exact Z _ _ (k.2 j v y hv I)
 refine⟨⟨p1,Qf (Ne.symm E.1) p2,p3,p4⟩,⟨q1,by rw[U,Qf (Ne.symm E.2.1) q2,LS.sbs_pv E.2.2],q3,q4⟩,a.ne,λq G=>?_,λq G=>?_,by rw[V];exact a.nd,M X a.aP,⟨by rw[YL];exact a.aB.1,λj x y D I=>?_⟩,a.lW,a.lB⟩
 .obtain⟨A,l,rfl⟩:=Yj.1 G;exact LS.fr_ok (a.lok A l) (E.2.2 A l)
 .obtain⟨A,l,rfl⟩:=Yj.1 G;exact a.lne A l
 .rw[UU]at D;obtain⟨A,l,rfl⟩:=YJ.1 D;exact M Y (a.aB.2 j A y l I)
theorem RS.fin(a:RS FI FI b h n sP capP cs sB aj ls W B)(U:Keep σ h)(hb:σ.next<=b)(k:∀vP vB,IsR vP vB W B->K (.agg [.int .i64 p,vP,vB]) σ):Gh σ K (.agg [.int .i64 p,.sl sP 0 n capP,.sl sB 0 n aj]) h:=by
 obtain⟨V,X,p3,Y⟩:=a.P;obtain⟨Z,q2,q3,q4⟩:=a.Q;have A:=a.csl;have D:=a.lsl;have I:(TR.agg [.leaf (.int .i64 p),.lst sP capP (cs.map TR.leaf),.lst sB aj (ls.map LS.tr)]).pv=.agg [.int .i64 p,.sl sP 0 n capP,.sl sB 0 n aj]:=by
  simp only[TR.pv,TR.pvs,YL];rw[A,D]
 rw[<-I];refine Gh.treeF U ⟨trivial,⟨⟨by rw[YL,A];exact V,by rw[Q8];exact X,by omega,Y⟩,Q9 (a.aP.bI 0)⟩,⟨⟨by rw[YL,D];exact Z,by rw[LS.tr_pvs];exact q2,by omega,q4⟩,LS.trs_okF λq E=>?_⟩,trivial⟩ λl=>k _ _ ⟨⟨true,.sl (l sP) 0 cs.length capP,cs,?_,a.aP⟩,⟨true,.sl (l sB) 0 ls.length aj,TR.fzs l (ls.map LS.tr),?_,zCG a.aB⟩⟩
 .obtain⟨J,M,g3,N⟩:=a.lok q E;refine⟨⟨J,M,by omega,N⟩,?_⟩;obtain⟨k,G,rfl⟩:=YE.1 E;exact(a.aB.2 k _ _ (YQ G) (YQ (by rw[<-a.aB.1];exact G))).bI 0
 .simp only[TR.fz,zAA,YL];rw[A,a.lW]
 .simp only[TR.fz,YL];rw[D,a.lB]
theorem SU.fzh{T:PHeap}{p0 t o:Nat}{v0:PV}{fs:List (PV×List PV)}{xs:List PV}(w:PWF T)(a:SU T h p0 v0 fs ls)(X:T.next<=t)(hp:t≠p0)(hv:sb t o xs v0=v0)(N:∀f∈fs,∀off l c,f.1≠.sl t off l c)(hl:∀q∈ls,q.s≠t):
  SU T ((h.kill t).sub t o xs) p0 v0 (fs.map λf=>(f.1,sbs t o xs f.2)) (ls.map (LS.fr t o xs)):=by
 have eg:∀f∈fs,sb t o xs f.1=f.1:=λf D=>by
  obtain⟨s,cap,e,_⟩:=a.acc f D;rw[e]
  have:s≠t:=λJ=>N f D 0 f.2.length cap (by rw[e,J])
  simp only[sb,this,false_and,if_false]
 have I:∀{f:PV×List PV},f∈fs.map (λf=>(f.1,sbs t o xs f.2))->∃f',f'∈fs/\f=(f'.1,sbs t o xs f'.2):=λD=>by
  obtain⟨f',A,E⟩:=Yj.1 D;exact⟨f',A,E.symm⟩
 have Y:(fs.map λf=>(f.1,sbs t o xs f.2)).map Prod.fst=fs.map Prod.fst:=by rw[Uw];exact List.map_congr_left λf _=>rfl
 refine⟨(a.keep.kill X).sub w X,?_,a.p0b,λf D=>?_,λf D=>?_,λi j f g U V Z s off l c e=>?_,λq M=>?_,λq M=>?_⟩
 .rw[Y,Qf (Ne.symm hp) a.obj];simp only[sbs,hv];congr 2;rw[zGa,Uw];exact List.map_congr_left λf D=>eg f D
 .obtain⟨f',A,rfl⟩:=I D;obtain⟨s,cap,e,g1,g2,g3,g4,g5⟩:=a.acc f' A
  have:s≠t:=λJ=>N f' A 0 f'.2.length cap (by rw[e,J])
  exact⟨s,cap,by show f'.1=_;rw[e,Zd],by show full 1 cap (sbs t o xs f'.2).length;rw[Zd];exact g1,Qf this g2,by show(sbs t o xs f'.2).length=(sbs t o xs f'.2).length*1;rw[Nat.mul_one],g4,g5⟩
 .obtain⟨f',A,rfl⟩:=I D;exact a.ne f' A
 .rw[UU]at U V;obtain⟨f',A,rfl⟩:=YJ.1 U;obtain⟨g',E,rfl⟩:=YJ.1 V;exact a.dis i j f' g' A E Z s off l c e
 .obtain⟨G,A,rfl⟩:=Yj.1 M;exact LS.fr_ok (a.lok G A) (hl G A)
 .obtain⟨G,A,rfl⟩:=Yj.1 M;refine⟨(a.lne G A).1,λf D=>?_⟩;obtain⟨f',E,rfl⟩:=I D;exact(a.lne G A).2 f' E
theorem SU.move{T A:PHeap}{p0:Nat}{v0:PV}{fs:List (PV×List PV)}(a:SU T h p0 v0 fs ls)(J:Keep T A)(G:h.next<=A.next)(D:∀t,(t=p0\/(∃f∈fs,∃off l c,f.1=.sl t off l c)\/∃q∈ls,q.s=t)->A.obj t=h.obj t):SU T A p0 v0 fs ls:=
 ⟨J,by rw[D _ (.inl rfl)];exact a.obj,⟨a.p0b.1,by have:=a.p0b.2;omega⟩,λf E=>zAg (a.acc f E) (λs off l c e=>D _ (.inr (.inl ⟨f,E,off,l,c,e⟩))) G,a.ne,a.dis,λq I=>(a.lok q I).move (D _ (.inr (.inr ⟨q,I,rfl⟩))) G,a.lne⟩
theorem SU.rs{T:PHeap}{p0:Nat}{v0 vP vB:PV}{cC:List PV}(a:SU T h p0 v0 [(vP,cs),(vB,cC)] ls)(hC:cC=ls.map LS.pv)(Y:(ls.map LS.s).Nodup)(I:All2 RP cs W)(G:RowsG R ls B)(N:W.length=n)(M:B.length=n):
  ∃sP capP sB aj,vP=.sl sP 0 n capP/\vB=.sl sB 0 n aj/\RS RP R T.next h n sP capP cs sB aj ls W B:=by
 have X:cs.length=n:=I.1.trans N;have tQ:cC.length=n:=by rw[hC,YL];exact G.1.trans M
 obtain⟨sP,capP,l,D,U,Z,p4,p5⟩:=a.acc (vP,cs) (by simp);obtain⟨sB,aj,A,E,V,q3,q4,q5⟩:=a.acc (vB,cC) (by simp);dsimp only at l D U Z A E V q3;rw[X]at l D;rw[tQ]at A E;refine⟨sP,capP,sB,aj,l,A,⟨D,U,p4,p5⟩,⟨E,by rw[<-hC];exact V,q4,q5⟩,λe=>?_,a.lok,λq J=>⟨λe=>?_,λe=>?_⟩,Y,I,G,N,M⟩
 .exact a.dis 0 1 (vP,cs) (vB,cC) rfl rfl (by omega) sP 0 n capP l 0 n aj (by rw[A,e])
 .exact(a.lne q J).2 (vP,cs) (by simp) 0 n capP (by rw[e];exact l)
 .exact(a.lne q J).2 (vB,cC) (by simp) 0 n aj (by rw[e];exact A)
end
section
open Go.Grp
variable{b s:Nat}{L L':Nat->Nat}{Q:Nat->Prop}{len:Nat->Nat}{c:PV}{cs:List PV}
theorem zNb{v:PV}(h:leafy v)(n:Nat):Bel n v:=by
 cases v<;>simp only[leafy]at h<;>trivial
mutual
theorem tr_okF:∀{t:TR},t.ok h b->t.okF h b
 | .leaf v,a=>zNb a 0
 | .nil,_=>trivial
 | .lst s cap kids,a=>⟨a.1,zEA a.2⟩
 | .cut _ _ _ _ _,a=>a.elim
 | .agg kids,a=>zEA (ts:=kids) a
 | .tup kids,a=>zEA (ts:=kids) a
theorem zEA:∀{ts:List TR},TR.oks h b ts->TR.okFs h b ts
 |[],_=>trivial
 |t::ts,a=>⟨tr_okF a.1,zEA a.2⟩
end
mutual
theorem zCU{b':Nat}(A:b'<=b):∀{t:TR},t.okF h b->t.okF h b'
 | .leaf v,a=>a
 | .nil,_=>trivial
 | .lst s cap kids,a=>⟨⟨a.1.1,a.1.2.1,Y7 A a.1.2.2.1,a.1.2.2.2⟩,zCT A a.2⟩
 | .cut s off l cap kids,a=>⟨⟨a.1.1,a.1.2.1,Y7 A a.1.2.2.1,a.1.2.2.2⟩,zCT A a.2⟩
 | .agg kids,a=>zCT (ts:=kids) A a
 | .tup kids,a=>zCT (ts:=kids) A a
theorem zCT{b':Nat}(l:b'<=b):∀{ts:List TR},TR.okFs h b ts->TR.okFs h b' ts
 |[],_=>trivial
 |t::ts,a=>⟨zCU l a.1,zCT l a.2⟩
end
def RowX(L:Nat->Nat)(h:PHeap)(b k:Nat)(x:V1)(v:PV):Prop:=∃s cap,v=.sl s 0 x.length cap/\full 1 cap x.length/\h.obj s=some (pis x)/\b<=s/\s<h.next/\L s=k
def RowAt(L:Nat->Nat)(h:PHeap)(b:Nat)(Q:Nat->Prop)(v:PV):Prop:=∃x,Q x.length/\RowX L h b 1 x v
def MatAt(L:Nat->Nat)(h:PHeap)(b:Nat)(Q:Nat->Prop)(k n:Nat)(v:PV):Prop:=∃s cap cs,v=.sl s 0 n cap/\full 1 cap n/\h.obj s=some cs/\cs.length=n/\b<=s/\s<h.next/\L s=k/\∀c∈cs,RowAt L h b Q c
def TenAt(L:Nat->Nat)(h:PHeap)(b:Nat)(Q:Nat->Prop)(n:Nat)(len:Nat->Nat)(v:PV):Prop:=∃s cap cs,v=.sl s 0 n cap/\full 1 cap n/\h.obj s=some cs/\cs.length=n/\b<=s/\s<h.next/\L s=4/\∀i c,cs[i]? = some c->MatAt L h b Q 3 (len i) c
def MatO(L:Nat->Nat)(h:PHeap)(b:Nat)(Q:Nat->Prop)(n:Nat)(v:PV):Prop:=(n=0/\v=.fz true .nils 0 [])\/MatAt L h b Q 2 n v
def TenO(L:Nat->Nat)(h:PHeap)(b:Nat)(Q:Nat->Prop)(n:Nat)(len:Nat->Nat)(v:PV):Prop:=(n=0/\v=.fz true .nils 0 [])\/TenAt L h b Q n len v
theorem RowX.one(a:RowX L h b k x v):v.one=true:=by obtain⟨s,cap,rfl,_⟩:=a;rfl
theorem RowX.cells(a:RowX L h b k x v):v.cells=[v]:=by obtain⟨s,cap,rfl,_⟩:=a;rfl
theorem RowAt.one(a:RowAt L h b Q v):v.one=true:=by obtain⟨x,_,a⟩:=a;exact a.one
theorem MatAt.one(a:MatAt L h b Q k n v):v.one=true:=by obtain⟨s,cap,cs,rfl,_⟩:=a;rfl
theorem MatAt.cells(a:MatAt L h b Q k n v):v.cells=[v]:=by obtain⟨s,cap,cs,rfl,_⟩:=a;rfl
theorem MatO.one(a:MatO L h b Q n v):v.one=true:=by rcases a with ⟨_,rfl⟩|a;rfl;exact a.one
theorem MatO.cells(a:MatO L h b Q n v):v.cells=[v]:=by rcases a with ⟨_,rfl⟩|a;rfl;exact a.cells
theorem TenO.one(a:TenO L h b Q n len v):v.one=true:=by rcases a with ⟨_,rfl⟩|⟨s,cap,cs,rfl,_⟩<;>rfl
theorem TenO.cells(a:TenO L h b Q n len v):v.cells=[v]:=by rcases a with ⟨_,rfl⟩|⟨s,cap,cs,rfl,_⟩<;>rfl
theorem MatO.pLen(a:MatO L h b Q n v):pLen v=some (.int .i64 n):=by rcases a with ⟨rfl,rfl⟩|⟨s,cap,cs,rfl,_⟩<;>rfl
theorem TenO.pLen(a:TenO L h b Q n len v):pLen v=some (.int .i64 n):=by rcases a with ⟨rfl,rfl⟩|⟨s,cap,cs,rfl,_⟩<;>rfl
theorem RowX.keep(a:RowX L h b k x v)(M:h.next<=h'.next)(J:∀t,b<=t->t<h.next->h'.obj t=h.obj t)(I:∀t,t<h.next->L' t=L t):RowX L' h' b k x v:=by
 obtain⟨s,cap,rfl,D,E,l,A,G⟩:=a;exact⟨s,cap,rfl,D,by rw[J s l A];exact E,l,by omega,by rw[I s A];exact G⟩
theorem RowAt.keep(a:RowAt L h b Q v)(D:h.next<=h'.next)(E:∀t,b<=t->t<h.next->h'.obj t=h.obj t)(A:∀t,t<h.next->L' t=L t):RowAt L' h' b Q v:=by
 obtain⟨x,l,a⟩:=a;exact⟨x,l,a.keep D E A⟩
theorem MatAt.keep(a:MatAt L h b Q k n v)(V:h.next<=h'.next)(E:∀t,b<=t->t<h.next->h'.obj t=h.obj t)(D:∀t,t<h.next->L' t=L t):MatAt L' h' b Q k n v:=by
 obtain⟨s,cap,cs,rfl,G,I,J,l,A,M,N⟩:=a;exact⟨s,cap,cs,rfl,G,by rw[E s l A];exact I,J,l,by omega,by rw[D s A];exact M,λc U=>(N c U).keep V E D⟩
theorem TenAt.keep(a:TenAt L h b Q n len v)(V:h.next<=h'.next)(E:∀t,b<=t->t<h.next->h'.obj t=h.obj t)(D:∀t,t<h.next->L' t=L t):TenAt L' h' b Q n len v:=by
 obtain⟨s,cap,cs,rfl,G,I,J,l,A,M,N⟩:=a;exact⟨s,cap,cs,rfl,G,by rw[E s l A];exact I,J,l,by omega,by rw[D s A];exact M,λi c U=>(N i c U).keep V E D⟩
structure PW(L:Nat->Nat)(b:Nat)(h:PHeap)(Q:Nat->Prop)(O:V1)(nP nC:Nat)(len:Nat->Nat)(vO vP vC:PV):Prop where
 hO:RowX L h b 5 O vO
 hP:MatO L h b Q nP vP
 hC:TenO L h b Q nC len vC
variable{nP nC:Nat}
theorem PW.keepL(a:PW L b h Q O nP nC len vO vP vC)(A:h.next<=h'.next)(D:∀t,b<=t->t<h.next->h'.obj t=h.obj t)(l:∀t,t<h.next->L' t=L t):PW L' b h' Q O nP nC len vO vP vC:=
 ⟨a.hO.keep A D l,a.hP.imp id λa=>a.keep A D l,a.hC.imp id λa=>a.keep A D l⟩
theorem PW.mv(a:PW L b h Q O nP nC len vO vP vC)(hs:s<b)(m:Mv h s h'):PW L b h' Q O nP nC len vO vP vC:=a.keepL (by rw[m.next];exact na _) (λt l _=>m.obj (by omega)) λ_ _=>rfl
theorem PW.set(a:PW L b h Q O nP nC len vO vP vC)(hs:s<b)(l:List PV):PW L b (h.set s l) Q O nP nC len vO vP vC:=a.keepL (na _) (λt A _=>by rw[zG,if_neg (by omega)]) λ_ _=>rfl
theorem RowX.tree(a:RowX L h b k x v):∃t:TR,t.ok h b/\t.pv=v/\∀l,FI (t.fz l) x:=by
 obtain⟨s,cap,rfl,A,D,E,G,I⟩:=a;exact⟨TR.row s cap x,TR.row_ok A D E G,TR.row_pv,λl=>TR.row_FI⟩
theorem trees{α:Type}{R:PV->α->Prop}:∀{cs:List PV},(∀c∈cs,∃(t:TR) (x:α),t.ok h b/\t.pv=c/\∀l,R (t.fz l) x)->∃(ts:List TR) (xs:List α),TR.oks h b ts/\TR.pvs ts=cs/\∀l,All2 R (TR.fzs l ts) xs
 |[],_=>⟨[],[],trivial,rfl,λ_=>All2.nil _⟩
 |c::cs,hc=>by
  obtain⟨t,x,N,U,V⟩:=hc c (UW ..);obtain⟨ts,xs,I,J,M⟩:=trees λG h'=>hc G (Yl _ h');refine⟨t::ts,x::xs,⟨N,I⟩,by simp only[TR.pvs,U,J],λl=>?_⟩;have X:=V l;have E:=M l;refine⟨by simp only[TR.fzs,YS,E.1],λi v y A D=>?_⟩;cases i with
  |zero=>simp only[TR.fzs,List.getElem?_cons_zero,YD]at A D;rw[<-A,<-D];exact X
  |succ i=>simp only[TR.fzs,List.getElem?_cons_succ]at A D;exact E.2 i v y A D
theorem zCt:∀ts:List TR,(TR.pvs ts).length=ts.length
 |[]=>rfl
 |t::ts=>by simp only[TR.pvs,YS,zCt ts]
def RowQ(Q:Nat->Prop)(v:PV)(x:V1):Prop:=FI v x/\Q x.length
def MatQ(Q:Nat->Prop)(v:PV)(M:V2):Prop:=FII v M/\∀r∈M,Q r.length
theorem zRb{cs:List PV}{xs:V2}(a:All2 (RowQ Q) cs xs):All2 FI cs xs/\∀r∈xs,Q r.length:=by
 refine⟨⟨a.1,λi v y D E=>(a.2 i v y D E).1⟩,λr A=>?_⟩;obtain⟨i,l,rfl⟩:=YE.1 A;exact(a.2 i _ _ (YQ (by rw[a.1];exact l)) (YQ l)).2
theorem MatAt.tree(a:MatAt L h b Q k n v):∃(t:TR) (M:V2),(t.ok h b/\t.pv=v/\∀l,MatQ Q (t.fz l) M)/\M.length=n:=by
 obtain⟨s,cap,cs,rfl,J,N,U,V,X,h6,Y⟩:=a;obtain⟨ts,xs,I,E,G⟩:=trees (R:=RowQ Q) (cs:=cs) (h:=h) (b:=b) λc Z=>by
  obtain⟨x,q,a⟩:=Y c Z;obtain⟨t,k1,k2,k3⟩:=a.tree;exact⟨t,x,k1,k2,λl=>⟨k3 l,q⟩⟩
 have A:ts.length=n:=by rw[<-U,<-E,zCt]
 have D:xs.length=n:=by
  have:=(G λ_=>0).1
  rw[TR.fzs_length]at this;omega
 refine⟨.lst s cap ts,xs,⟨⟨⟨by rw[A];exact J,by rw[E];exact N,V,X⟩,I⟩,by simp only[TR.pv,A],λl=>?_⟩,D⟩;obtain⟨q1,q2⟩:=zRb (G l);exact⟨⟨true,.sl (l s) 0 ts.length cap,TR.fzs l ts,by simp only[TR.fz,A,D],q1⟩,q2⟩
structure PQ3(Q:Nat->Prop)(P:V2)(C:V3)(nP nC:Nat)(len:Nat->Nat):Prop where
 pl:P.length=nP
 cl:C.length=nC
 pq:∀r∈P,Q r.length
 row:∀i,i<nC->(C.getD i []).length=len i
 cq:∀q∈C,∀r∈q,Q r.length
theorem MatO.tree(a:MatO L h b Q n v):∃(t:TR) (M:V2),(t.ok h b/\t.pv=v/\∀l,MatQ Q (t.fz l) M)/\M.length=n:=by
 rcases a with ⟨rfl,rfl⟩|a
 .exact⟨.nil,[],⟨trivial,rfl,λl=>⟨⟨true,.nils,[],rfl,All2.nil _⟩,λr A=>by cases A⟩⟩,rfl⟩
 .exact a.tree
theorem TenO.tree(a:TenO L h b Q n len v):∃(t:TR) (C:V3),(t.ok h b/\t.pv=v/\∀l,FIII (t.fz l) C)/\C.length=n/\(∀i,i<n->(C.getD i []).length=len i)/\∀q∈C,∀r∈q,Q r.length:=by
 rcases a with ⟨rfl,rfl⟩|⟨s,cap,cs,rfl,h1,h2,h3,h4,h5,h6,h7⟩
 .exact⟨.nil,[],⟨trivial,rfl,λl=>⟨true,.nils,[],rfl,All2.nil _⟩⟩,rfl,λi E=>by omega,λq hq=>by cases hq⟩
 .have key:∀(m:Nat) (A:List PV),(∀i c,A[i]? = some c->MatAt L h b Q 3 (len (m+i)) c)->∃(ts:List TR) (xs:V3),TR.oks h b ts/\TR.pvs ts=A/\(∀l,All2 FII (TR.fzs l ts) xs)/\(∀i,i<xs.length->(xs.getD i []).length=len (m+i))/\∀q∈xs,∀r∈q,Q r.length:=by
   intro m A
   induction A generalizing m with
   |nil=>exactλ_=>⟨[],[],trivial,rfl,λ_=>All2.nil _,λi E=>(by simp at E),λq hq=>by cases hq⟩
   |cons d A ih=>
    intro hd;obtain⟨t,M,⟨k1,k2,k3⟩,k4⟩:=(hd 0 d rfl).tree;obtain⟨ts,xs,N,G,D,U,V⟩:=ih (m+1) λi c X=>by
     have:=hd (i+1) c (by simpa using X)
     rw[show m+1+i=m+(i+1) by omega];exact this
    refine⟨t::ts,M::xs,⟨k1,N⟩,by simp only[TR.pvs,k2,G],λl=>⟨by simp only[TR.fzs,YS,(D l).1],λi w y hw I=>?_⟩,λi E=>?_,λq hq r Z=>?_⟩
    .cases i with
     |zero=>simp only[TR.fzs,List.getElem?_cons_zero,YD]at hw I;rw[<-hw,<-I];exact(k3 l).1
     |succ i=>simp only[TR.fzs,List.getElem?_cons_succ]at hw I;exact(D l).2 i w y hw I
    .cases i with
     |zero=>simpa using k4
     |succ i=>
      have:=U i (by simpa using E)
      rw[show m+1+i=m+(i+1) by omega]at this;simpa using this
    .rcases YH.1 hq with rfl|hq
     .exact(k3 λ_=>0).2 r Z
     .exact V q hq r Z
  obtain⟨ts,xs,N,G,D,U,V⟩:=key 0 cs λi c X=>by rw[Y5];exact h7 i c X
  have J:ts.length=n:=by rw[<-h3,<-G,zCt]
  have Y:xs.length=n:=by
   have:=(D λ_=>0).1
   rw[TR.fzs_length]at this;omega
  exact⟨.lst s cap ts,xs,⟨⟨⟨by rw[J];exact h1,by rw[G];exact h2,h4,h5⟩,N⟩,by simp only[TR.pv,J],λl=>⟨true,.sl (l s) 0 ts.length cap,TR.fzs l ts,by simp only[TR.fz,J,Y],D l⟩⟩,Y,λi E=>by have:=U i (by omega);rw[Y5]at this;exact this,V⟩
theorem PW.fin(a:PW L b h Q O nP nC len vO vP vC)(hk:Keep σ h)(A:σ.next<=b)(k:∀M N J P C,IsPr M N J O P C->PQ3 Q P C nP nC len->K (.agg [M,N,J]) σ):Gh σ K (.agg [vO,vP,vC]) h:=by
 obtain⟨D,U,rfl,V⟩:=a.hO.tree;obtain⟨E,P,⟨b1,rfl,I⟩,X⟩:=a.hP.tree;obtain⟨G,C,⟨Y,rfl,Z⟩,c4,c5,c6⟩:=a.hC.tree;have et:(TR.agg [D,E,G]).pv=.agg [D.pv,E.pv,G.pv]:=by simp only[TR.pv,TR.pvs]
 rw[<-et];refine Gh.treeF hk ⟨zCU A (tr_okF U),zCU A (tr_okF b1),zCU A (tr_okF Y),trivial⟩ λl=>?_
 have:=k (D.fz l) (E.fz l) (G.fz l) P C ⟨V l,(I l).1,Z l⟩ ⟨X,c4,(I l).2,c5,c6⟩
 simpa only[TR.fz,TR.fzs]using this
def mkM(L:Nat->Nat)(s k:Nat):Nat->Nat:=λt=>if t=s then k else L t
theorem zDM{i:Nat}{y:Int}(A:h.obj s=some (pis x))(l:i<x.length):h.wr s i [.int .i64 y]=some (h.set s (pis (x.set i y))):=by
 rw[zT A,if_pos ⟨by rw[zJ];simp;omega,rfl⟩];congr 2;exact zU l
theorem RowX.wr{y:V1}{j:Nat}(a:RowX L h b j y v)(M:L s=k)(N:j≠k):RowX L (h.set s cs) b j y v:=by
 obtain⟨A,cap,rfl,E,G,I,J,l⟩:=a;have D:A≠s:=λe=>N (by rw[<-l,e,M]);exact⟨A,cap,rfl,E,by rw[zG,if_neg D];exact G,I,J,l⟩
theorem RowAt.wrR{y:V1}(a:RowAt L h b Q v)(U:h.obj s=some (pis x))(N:y.length=x.length):RowAt L (h.set s (pis y)) b Q v:=by
 obtain⟨z,M,D,cap,rfl,E,A,G,I,J⟩:=a;by_cases e:D=s
 .subst e;rw[U]at A;have V:x.length=z.length:=by rw[<-zJ x,<-zJ z];exact congrArg List.length (Option.some.inj A)
  have l:y.length=z.length:=N.trans V;exact⟨y,by rw[l];exact M,D,cap,by rw[l],by rw[l];exact E,by rw[zG,if_pos rfl],G,I,J⟩
 .exact⟨z,M,D,cap,rfl,E,by rw[zG,if_neg e];exact A,G,I,J⟩
theorem RowAt.wrN(a:RowAt L h b Q v)(l:L s≠1):RowAt L (h.set s cs) b Q v:=by
 obtain⟨z,A,a⟩:=a;exact⟨z,A,a.wr rfl (Ne.symm l)⟩
theorem MatAt.wrR{y:V1}(a:MatAt L h b Q k n v)(Z:h.obj s=some (pis x))(Y:y.length=x.length)(U:L s=1)(X:k≠1):MatAt L (h.set s (pis y)) b Q k n v:=by
 obtain⟨A,cap,cs,rfl,E,G,I,J,M,l,N⟩:=a;have D:A≠s:=λe=>X (by rw[<-l,e,U]);exact⟨A,cap,cs,rfl,E,by rw[zG,if_neg D];exact G,I,J,M,l,λc V=>(N c V).wrR Z Y⟩
theorem PW.setRow(a:PW L b h Q O nP nC len vO vP vC){i:Nat}{y:Int}(D:h.obj s=some (pis x))(Y:i<x.length)(l:L s=1):
  h.wr s i [.int .i64 y]=some (h.set s (pis (x.set i y)))/\PW L b (h.set s (pis (x.set i y))) Q O nP nC len vO vP vC:=by
 refine⟨zDM D Y,a.hO.wr l (by decide),a.hP.imp id λa=>a.wrR D (YC ..) l (by decide),a.hC.imp id λa=>?_⟩;obtain⟨E,cap,cs,rfl,I,J,M,N,U,A,V⟩:=a;have G:E≠s:=λe=>by rw[e,l]at A;cases A
 exact⟨E,cap,cs,rfl,I,by rw[zG,if_neg G];exact J,M,N,U,A,λj c X=>(V j c X).wrR D (YC ..) l (by decide)⟩
theorem MatAt.wrL{i:Nat}(a:MatAt L h b Q k n v){j:Nat}(Z:h.obj s=some cs)(V:L s=j)(Y:j≠1)(X:RowAt L h b Q c):MatAt L (h.set s (cs.set i c)) b Q k n v:=by
 obtain⟨A,cap,U,rfl,E,l,G,I,J,M,N⟩:=a;have D:L s≠1:=by rw[V];exact Y
 by_cases e:A=s
 .subst e;rw[Z]at l;cases l;refine⟨A,cap,cs.set i c,rfl,E,by rw[zG,if_pos rfl],by rw[YC];exact G,I,J,M,λd hd=>?_⟩;rcases List.mem_or_eq_of_mem_set hd with hd|rfl
  .exact(N d hd).wrN D
  .exact X.wrN D
 .exact⟨A,cap,U,rfl,E,by rw[zG,if_neg e];exact l,G,I,J,M,λd hd=>(N d hd).wrN D⟩
theorem PW.putRow(a:PW L b h Q O nP nC len vO vP vC){i:Nat}(A:h.obj s=some cs)(Z:i<cs.length)(hL:L s=2\/L s=3)(l:RowAt L h b Q c):
  h.wr s i [c]=some (h.set s (cs.set i c))/\PW L b (h.set s (cs.set i c)) Q O nP nC len vO vP vC:=by
 have E:L s≠1:=by omega
 refine⟨zCQ A Z l.one,a.hO.wr rfl (by omega),a.hP.imp id λa=>a.wrL A rfl E l,a.hC.imp id λa=>?_⟩;obtain⟨G,cap,J,rfl,M,N,U,V,X,D,Y⟩:=a;have I:G≠s:=λe=>by rw[e]at D;omega
 exact⟨G,cap,J,rfl,M,by rw[zG,if_neg I];exact N,U,V,X,D,λj d hd=>(Y j d hd).wrL A rfl E l⟩
theorem PW.powers(a:PW L b h Q O nP nC len vO vP vC)(M:0<nP):∃s cap cs,vP=.sl s 0 nP cap/\h.obj s=some cs/\cs.length=nP/\L s=2/\b<=s/\s<h.next/\∀c∈cs,RowAt L h b Q c:=by
 rcases a.hP with ⟨e,_⟩|⟨s,cap,cs,rfl,J,l,A,D,E,G,I⟩
 .omega
 .exact⟨s,cap,cs,rfl,l,A,G,D,E,I⟩
theorem PW.conj(a:PW L b h Q O nP nC len vO vP vC){i:Nat}(hi:i<nC):∃s cap t l,vC=.sl s 0 nC cap/\h.rd1 s i=some (.sl t 0 (len i) l)/\b<=s/\s<h.next/\∃cs,h.obj t=some cs/\cs.length=len i/\L t=3/\b<=t/\t<h.next/\∀c∈cs,RowAt L h b Q c:=by
 rcases a.hC with ⟨e,_⟩|⟨s,cap,cs,rfl,Z,N,h3,U,V,h6,X⟩
 .omega
 .obtain⟨t,l,A,e,Y,D,E,G,I,J,M⟩:=X i _ (YQ (by omega));exact⟨s,cap,t,l,rfl,by rw[zI N,YQ (by omega),e],U,V,A,D,E,J,G,I,M⟩
end
end Go.Proofs
