/- . -/
import Derived.Test.YtnfnaniemocleaaGreatQP13
set_option linter.all false
set_option linter.defProp false
open List renaming length->Lu
open Bool renaming true->DF
open Option renaming some->Dc
open True renaming intro->DJ
open Int renaming reduceNatCast'->ae
set_option maxRecDepth 100000
namespace Go.Proofs
open Go.Ab Go.Lie Go.Grp
variable{k p:Int}{σ:cg}{vC:PV}{K:PV->cg->Prop}{O bs x y:V1}{P W:V2}{B C:V3}
theorem zME{c:Int}(E:ra O P C []=0)(h:ResG (uj O P C) (p,W,B) c):c=0/\p=qO O/\W=kT O P C (Lu O)/\B=kO O P C (Lu O):=by
 have e:=h.eq;unfold uj at e;rw[DK E]at e;simp only[Y7]at e;obtain⟨⟨l,u,A⟩,D⟩:=e;exact⟨D,l,u,A⟩
theorem zHV(Y:FB vC bs)(CQ:∀b∈bs,0<=b/\b<=255)(hk:∀σ',K (.bool DF) σ'):zA Tryz.prog 4 [vC] σ K:=by
 refine qH mix Tryz.func4 ?_;simp only[Z3,seval,-ae,Y.one];refine zTO Y λt h=>?_;cases t with
 |true=>
  refine Lk ?_;exact hk _
 |false=>
 have hlen:(Lu bs)<=4096:=by
  rcases YG 4096 (Lu bs) with e|e
  .have:=h.2 e;cases this
  .exact e
 clear h;have hB:Byt bs:=⟨af,CQ⟩
 simp only[Z3,seval,-ae,Y.one];refine zEu Y hB λp vP vB W B d I=>?_;have g1:=I.P.one;have g2:=I.B.one;have sz:=d.sz;simp only[Z3,seval,-ae,g1,g2];refine zD1 I sz λG H E O P C c3 t3 kP cN oJ wW=>?_;have pW:((σ.bf [PV.int .i64 p,vP,vB]).up t3).bt σ.aM=Dc [.int .i64 p,vP,vB]:=by simp only[Z3,seval,-ae]
 have fq:σ.aM<((σ.bf [PV.int .i64 p,vP,vB]).up t3).aM:=YM _;have A5:((σ.bf [PV.int .i64 p,vP,vB]).up t3).aM=σ.aM+1:=rfl;generalize (σ.bf [PV.int .i64 p,vP,vB]).up t3=G0 at *
 have Hn:G0.rd σ.aM 0 3=Dc [.int .i64 p,vP,vB]:=by rw[zV pW];rfl
 have k0:=cN.O.one;have k1:=cN.P.one;have k2:=cN.C.one;have ne1:¬σ.aM=G0.aM:=af
 simp only[Z3,seval,-ae,Hn,k0,k1,k2,ne1];refine zFH I sz λu l A O' P' C' c4 Lj M=>?_;obtain⟨⟨rfl,rfl,rfl⟩,rfl⟩:=Lj.unique kP;have l0:=M.O.one;have l1:=M.P.one;have l2:=M.C.one;have Dy:=lg_bd kP;have ne2:¬σ.aM=G0.aM+1:=af
 have Gr:((G0.bf [G,H,E]).bf [u,l,A]).bt σ.aM=Dc [.int .i64 p,vP,vB]:=by simp only[Z3,seval,-ae,ne1,ne2];exact pW
 have IN:((G0.bf [G,H,E]).bf [u,l,A]).bt (σ.aM+1)=Dc [G,H,E]:=by rw[<-A5];simp only[Z3,seval,-ae]
 have IM:((G0.bf [G,H,E]).bf [u,l,A]).bt (σ.aM+2)=Dc [u,l,A]:=by rw[show σ.aM+2=G0.aM+1 by omega];simp only[Z3,seval,-ae]
 have Gq:((G0.bf [G,H,E]).bf [u,l,A]).aM=σ.aM+3:=by show G0.aM+1+1=_;omega
 simp only[Z3,seval,-ae,Hn,l0,l1,l2,ne1,ne2];rw[show G0.aM+1=σ.aM+2 by omega,A5];generalize (G0.bf [G,H,E]).bf [u,l,A]=G1 at *
 have T:G1.rd σ.aM 0 3=Dc [.int .i64 p,vP,vB]:=by rw[zV Gr];rfl
 have tq:G1.dR σ.aM 1=Dc vP:=by rw[zH Gr];rfl
 have rdB:G1.rd (σ.aM+1) 0 3=Dc [G,H,E]:=by rw[zV IN];rfl
 have S:G1.rd (σ.aM+2) 0 3=Dc [u,l,A]:=by rw[zV IM];rfl
 have PM:σ.aM+2<G1.aM:=af
 clear Gr IN IM Gq;simp only[Z3,seval,-ae,T,rdB,S,decide_true];refine zDB cN M Dy λt h=>?_;obtain rfl:t=DF:=h.2 ⟨rfl,rfl,rfl⟩;clear h;have aJ:=I;obtain⟨⟨wp,ap,rp,rfl,lT⟩,RL⟩:=I;have Kg:(c4=0/\0<Lu W)\/(c4=0/\¬(0:Int)<(Lu W:Int))\/¬c4=0:=af
 rcases Kg with ⟨rfl,hn⟩|⟨rfl,hn⟩|h0
 case' inl=>
  have LX:(0:Int)<(Lu W:Int):=af
  rcases kP with ⟨_,h0,_⟩|⟨cd,_,rfl,rfl,rfl⟩
  .exact absurd rfl h0
  obtain⟨⟨J,_⟩,Me⟩:=cd.zero;obtain⟨cc,lz⟩:=Lz.of J Me;have pL:=zSA lz;have CN:ra (rO p (Lu W)) (jo p (Lu W) W B (Lu W)) (jm p (Lu W) W B (Lu W)) []=0:=by
   unfold ra;rw[DK ⟨pL.1.1,λx hx=>(by cases hx)⟩,DK ⟨pL.1.2,pL.2⟩]
  obtain⟨b1,b2,b3⟩:=zOE lz hn;simp only[Z3,seval,-ae,T,rdB,S,tq,decide_true,LX];refine zEs M Dy λD Z xM W7 B7 c7 t7 r7 R7 o7 l7=>?_;obtain⟨rfl,e1,e2,e3⟩:=zME CN r7;obtain rfl:D=p:=e1.trans b1;obtain rfl:W7=W:=e2.trans b2;obtain rfl:B7=B:=e3.trans b3;have NS:=R7.P.one;have NR:=R7.B.one;have n1:¬σ.aM=G1.aM:=af
  have n2:¬σ.aM+2=G1.aM:=af
  have m1:((G1.bf [.int .i64 D,Z,xM]).up t7).rd σ.aM 0 3=Dc [.int .i64 D,.fz wp ap (Lu W7) rp,vB]:=by show(G1.bf _).rd _ _ _=_;rw[zAS];exact(DL n1).trans T
  have m2:((G1.bf [.int .i64 D,Z,xM]).up t7).rd (σ.aM+2) 0 3=Dc [u,l,A]:=by show(G1.bf _).rd _ _ _=_;rw[zAS];exact(DL n2).trans S
  have m3:((G1.bf [.int .i64 D,Z,xM]).up t7).rd G1.aM 0 3=Dc [.int .i64 D,Z,xM]:=by simp only[Z3,seval,-ae]
  simp only[Z3,seval,-ae,NS,NR,n1,n2,T,S];generalize (G1.bf [.int .i64 D,Z,xM]).up t7=G2 at *
  refine zDr R7 aJ sz λt h=>?_;obtain rfl:t=DF:=h rfl rfl rfl;clear h;simp only[Z3,seval,-ae,m1,m2,m3];refine zLp aJ sz J λc1 fT=>?_;simp only[Z3,seval,-ae,m1,m2,m3];refine zEr M Dy pL λc2 c8=>?_;obtain rfl:c1=c2:=(fT.unique lz.r.cls).trans (zRG lz c8.1 c8.2);simp only[Z3,seval,-ae,decide_true]
 case' inr.inl=>
  simp only[Z3,seval,-ae,T,rdB,S,tq,hn,decide_true,decide_false];generalize G1=G2
 case' inr.inr=>
  simp only[Z3,seval,-ae,T,rdB,S,tq,h0,decide_true,decide_false];generalize G1=G2
 all_goals
  refine zFO Y hB λwO wP wC O P C L sm=>?_;have N:=L.O.one;have Q:=L.P.one;have R:=L.C.one;have Hj:=sm.sz;simp only[Z3,seval,-ae,N,Q,R];refine zEs L Hj λp5 Pe Pm W5 B5 c5 t5 r5 R5 o5 l5=>?_;have V:=R5.P.one;have U:=R5.B.one;simp only[Z3,seval,-ae,N,Q,R,V,U];refine zFz L Hj λp6 Pd Pk W6 B6 c6 r6 X=>?_;have iF:=lr_bd r5;have Jz:=r5.unique r6;simp only[Y7]at Jz;obtain⟨⟨rfl,rfl,rfl⟩,rfl⟩:=Jz;have CX:=X.P.one;have CW:=X.B.one;simp only[Z3,seval,-ae,N,Q,R,V,U,CX,CW];refine zDr R5 X iF λt h=>?_;obtain rfl:t=DF:=h rfl rfl rfl;clear h;by_cases Iv:c5=0;rotate_left
  .simp only[Z3,seval,-ae,Iv,decide_false];exact hk _
  subst Iv;have CN:ra O P C []=0:=by
   have e:=r5.eq;unfold uj at e;split at e
   .rename_i h1;exact h1
   .simp only[Y7]at e;exact e.2.symm
  obtain⟨g,k,_⟩:=zFE CN;obtain⟨cz,z,e1,e2,e3⟩:=zSB g k;obtain⟨_,rfl,rfl,rfl⟩:=zME CN r5;obtain⟨J,dS⟩:=zQt z;simp only[Z3,seval,-ae,N,Q,R,V,U,CX,CW];refine zD1 X iF λPf Pc Pj O9 P9 C9 c9 t9 oE pC Rf Rb=>?_;obtain⟨⟨rfl,rfl,rfl⟩,rfl⟩:=oE.unique (.inr ⟨.inr (.inr ⟨⟨J.1,λy hy=>by cases hy⟩,J.2,rfl⟩),rfl,rfl,rfl,rfl⟩);have IW:=pC.O.one;have IV:=pC.P.one;have IU:=pC.C.one;simp only[Z3,seval,-ae,N,Q,R,V,U,CX,CW,IW,IV,IU];refine zLq X iF λt h=>?_;obtain rfl:t=DF:=h.2 J;clear h;simp only[Z3,seval,-ae,N,Q,R,V,U,CX,CW,IW,IV,IU];refine zDB pC L (lg_bd oE) λt h=>?_;rw[dS]at h;obtain rfl:t=DF:=h.2 ⟨e1,e2,e3⟩;refine Lk ?_;exact hk _
end Go.Proofs
namespace Go.Proofs.YtnfnaniemocleaaGreat
open Go.ChangeShapes Go.WideShapes Go.ChangeAt Go.RowKit Go.Ab Go.Joins Go.Lie Go.Proofs
set_option maxRecDepth 100000 in
theorem zEM{H:Type}{enc:TypeId×Value->H}(W:World)(base:Nat)(args:Array Value)(A gs:List (DataW H))(before:List MemPlace)
  (I:∀(j:Nat) t v,Tryz.f4.params[j]? = Dc t->args[j]? = Dc v->Value.okWide Tryz.prog W .any base t v)
  (E:DataW.Whole enc Tryz.prog Tryz.f4.params.toList Rows.fnLazardBackSpec.vars false W args.toList A gs before):
  Calls Tryz.prog 4 args W λe u=>∃v,e=.returned v/\Rows.fnLazardBackSpec.post enc Tryz.prog Tryz.f4 false DF false false W args v u:=by
 have L:=E;obtain⟨p,q,N,hV,rfl,Rp,lU⟩:=E;have D:DataW.TrodAll enc Tryz.prog W 0 (λ_=>DF) DF Tryz.f4.params.toList args.toList A p:=N;rw[Tryz.params4]at D I;obtain⟨h,Hi,d0,R1,p0,q0,bg,rfl,rfl,l,r0⟩:=trodAll_cons D;obtain⟨rfl,rfl,rfl⟩:=trodAll_nil r0;obtain rfl:args = #[h]:=by cases args;simp_all
 obtain⟨Y,l⟩:=l;obtain⟨s0,Pw,Ko,X⟩:=okWide_slice Tryz.underlying22 (I 0 22 h rfl rfl);have R:h.cells.toList=[h]:=by rw[X];rfl
 rw[R]at l;obtain⟨j0,S,M,X0,J,l0,e0,V,Z,_,R0,y0⟩:=layB _ _ _ DF Y _ _ (MR.empty W) l;have pc:zA Tryz.prog 4 [M] (cg.start S) (λv _=>v=.bool DF):=zHV R0 y0 (λ_=>rfl);have Q:=pc.law J.wf ⟨Z,DJ⟩;refine(Q.calls J (cargs:=#[h]) ⟨_,_,rfl,V,rfl⟩).mono λe u ⟨U,T⟩=>?_;exact⟨_,U,zId rfl laidOut (by rw[Tryz.params4];intro t G;simp only[YH,Ym,or_false]at G;rcases G with rfl<;>exact⟨by kernel_rfl,of_decide_eq_true (by kernel_rfl)⟩) (by kernel_rfl) Tryz.underlying4 rfl L T⟩
set_option maxRecDepth 100000 in
theorem zFx(h:Os)(started:h.Started)(H:Type)(enc:TypeId×Value->H):
  ReturnsInHanded {} Tryz.checked h 4 .any (Rows.fnLazardBackSpec.pre6 enc Tryz.prog Tryz.f4 Rows.fnLazardBackRow.domain false) (Rows.fnLazardBackSpec.post enc Tryz.prog Tryz.f4 false DF false false):=by
 refine returnsInHanded_of_change (C:=Tryz.checked) own started (by kernel_rfl) Tryz.func4
  (ChangeSpec.witness6 (enc:=enc) (C:=Tryz.checked) false ⟨#[],#[.slice none 0 0],[]⟩ 8 (by kernel_rfl) (by kernel_rfl) (by kernel_rfl) (by kernel_rfl)) ?_
 intro W base args l gs before A u _ _;exact zEM W base args l gs before A u
set_option maxRecDepth 100000 in
theorem zGr:Tryz.prog.funcNamed Rows.fnLazardBackRow.func=Dc 4:=by kernel_rfl
set_option maxRecDepth 100000 in
set_option maxHeartbeats 1600000 in
set_option maxRecDepth 100000 in
theorem zFy:joinedFacts Tryz.prog 4 Tryz.f4 Rows.fnLazardBackSpec Rows.fnLazardBackRow=DF:=by
 unfold joinedFacts;simp only[Yo]
 repeat' apply YX
 all_goals (as_aux_lemma=>kernel_rfl)
theorem lazardBackProved:Rows.FnLazardBackSaid:=
 OpenClaim.holds_of_wide 4 Tryz.f4 rfl rfl rfl rfl rfl rfl rfl ⟨rfl,rfl,rfl,rfl,rfl⟩ rfl rfl rfl rfl rfl zGr Tryz.func4 zFy
  (of_decide_eq_true (by kernel_rfl)) (by unfold Func.isWrapper;first|(rw[DK (by decide +kernel)];kernel_rfl)|(rw[DL (by decide +kernel)];exact⟨rfl,rfl⟩))
  (λh started H enc _=>zFx h started H enc)
end Go.Proofs.YtnfnaniemocleaaGreat
