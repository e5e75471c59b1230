/- The statement on proofs of membership. -/
import Derived.Test.YtkhbdmlhjnijaaaDP28
import Derived.Test.YtkhbdmlhjnijaaaDP29
import Derived.Test.YtkhbdmlhjnijaaaDP31
import Derived.Test.YtkhbdmlhjnijaaaDP33
import Derived.Test.YtkhbdmlhjnijaaaDP36
import Derived.Test.YtkhbdmlhjnijaaaDP41
import Derived.Test.YtkhbdmlhjnijaaaDP42
open Int renaming reduceNatCast'→iQ0
namespace Go.Grp
end Go.Grp
set_option linter.unusedSimpArgs false
set_option linter.unusedVariables false
namespace Go.Proofs
open Go.Ab Go.Lie Go.Grp Go.Mx
theorem MRes.bd {O:List Int} {P:List (List Int)} {C:List (List (List Int))} {L:List (List Int)} {x:List Int} {k c:Int} {G:List Pre} {Z:List (List Int)} (h:MRes O P C L x k G Z c) (sz:SzP O P C) (szL:SzL L):G.length≤1∧SzG G∧SzL Z:=by
 have nl:(([]:List Pre).length≤1∧SzG []∧SzL []):=⟨by simp,⟨by simp,fun g hg=>by cases hg⟩,⟨by simp,fun g hg=>by cases hg⟩⟩
 rcases h with ⟨a1,⟨rfl,rfl,rfl⟩,rfl⟩|⟨a1,a2,⟨rfl,rfl,rfl⟩,rfl⟩|⟨a1,m,w,hf,hw,⟨l1,⟨rfl,rfl,rfl⟩,rfl⟩|⟨l1,⟨rfl,rfl,rfl⟩,rfl⟩⟩
 ·exact nl
 ·exact nl
 ·exact nl
 ·have hn6:=a1.lg.s.le
  have h6:=a1.2.1;have hxl:=a1.2.2.gS.len;refine⟨by simp,⟨by simp,fun g hg=>by rw [List.mem_singleton.1 hg];exact sz⟩,⟨by simp;omega,fun y hy=>?_⟩⟩
  simp only [List.cons_append,List.nil_append,List.mem_cons]at hy
  rcases hy with rfl|rfl|hy
  ·omega
  ·omega
  ·exact szL.r y hy
theorem zBH (sw:SWC Try.prog 62) {h:AHeap} {Or:List Int} {Pr:List (List Int)} {Cr:List (List (List Int))} {vOr vPr vCr:PV} (hRr:IsPr vOr vPr vCr Or Pr Cr) (mxr:MxP Or Pr Cr) {l:List (List Int)} {vl:PV} (hl:FII vl l) (mxl:l.length≤9223372036854775807) (myl:∀y∈l,y.length≤9223372036854775807) {x:List Int} {vx:PV} (hx:FI vx x) (mxx:x.length≤9223372036854775807) (ha:∀o∈eads [.agg [vOr,vPr,vCr],vl,vx],o<h.next):
  vm Try.prog if5.body (retP if5.res zCU) (PEnv.mk if5.params [.agg [vOr,vPr,vCr],vl,vx]) (PHeap.start h):=by
 have h0r:=hRr.O.one;have h1r:=hRr.P.one;have h2r:=hRr.C.one;have lenx:pLen vx=some (.int .i64 x.length):=by obtain⟨wx,ax,rfl⟩:=hx;rfl
 have havOr:∀o∈ead vOr,o<h.next:=fun o ho=>ha o (by simp [eads,ead,ho])
 have havPr:∀o∈ead vPr,o<h.next:=fun o ho=>ha o (by simp [eads,ead,ho])
 have havCr:∀o∈ead vCr,o<h.next:=fun o ho=>ha o (by simp [eads,ead,ho])
 have havl:∀o∈ead vl,o<h.next:=fun o ho=>ha o (by simp [eads,ead,ho])
 have havx:∀o∈ead vx,o<h.next:=fun o ho=>ha o (by simp [eads,ead,ho])
 dsimp only [if5,eI,qD,eD,mI0,kI0,tI0,LI0,bI0,cI0,nI0,sI0,eI0,C1,C2,C3,G0,gm0,oI0,vI0,R0,S0];simp only [pm0,pwA,seval,-iQ0,h0r,h1r,h2r,lenx];refine iteI (fun hgt=>rfl) fun hlex=>?_
 have szx:x.length≤1048576:=by omega
 refine CallM.pure ?_;simp only [pm0,pwA,seval,-iQ0];refine zCa hRr mxr (by unfold left_;omega) fun rr hr=>?_
 rcases hr with rfl|⟨lr,szr⟩
 ·simp only [pm0,pwA,seval,-iQ0]
  rfl
 have hrr:¬rr<0:=by unfold left_ at lr;omega
 simp only [pm0,pwA,seval,-iQ0,hrr];refine CallM.pure ?_;simp only [pm0,pwA,seval,-iQ0];refine zAQ hl mxl myl lr fun rl hr=>?_
 rcases hr with rfl|⟨ll,szl⟩
 ·simp only [pm0,pwA,seval,-iQ0]
  rfl
 have hrl:¬rl<0:=by unfold left_ at ll;omega
 simp only [pm0,pwA,seval,-iQ0,hrl];refine CallM.pure ?_;simp only [pm0,pwA,seval,-iQ0];refine Z9 hRr szr fun aOr aPr aCr aqr=>?_
 simp only [pm0,pwA,seval,-iQ0];refine CallM.pure ?_;simp only [pm0,pwA,seval,-iQ0];refine Zr hl szl fun avl aql=>?_
 simp only [pm0,pwA,seval,-iQ0];refine CallM.pure ?_;simp only [pm0,pwA,seval,-iQ0];refine QA hx szx fun avx aqx=>?_
 simp only [pm0,pwA,seval,-iQ0];refine CallM.pure ?_;simp only [pm0,pwA,seval,-iQ0];refine zE1 szr aqr aql szl aqx szx fun k0 G0 Z0 w1 w2 c hz hG0 hL0=>?_
 obtain⟨hg1,szG,szL⟩:=hz.bd szr szl;simp only [pm0,pwA,seval,-iQ0,hG0.one,hL0.one,hL0.cells];refine CallM.topH fun t0 ht0 hb0 hbh=>?_
 have bw':=hbh ((PHeap.start h).next+1) [.int .i64 k0,w1,w2] (by simp only [pm0,pwA,seval,-iQ0])
 have bw1:∀o∈ead w1,o<t0:=fun o ho=>bw' o (by simp [eads,ead,ho])
 have bw2:∀o∈ead w2,o<t0:=fun o ho=>bw' o (by simp [eads,ead,ho])
 simp only [zFM,zHR]at ht0
 refine CallM.pure ?_;simp only [pm0,pwA,seval,-iQ0];refine zC7 hRr szr fun xOr xPr xCr t1 qr or hh1=>?_
 simp only [zA5]at or hh1
 simp only [pm0,pwA,seval,-iQ0,qr.O.one,qr.P.one,qr.C.one,up_up];refine CallM.pure ?_;simp only [pm0,pwA,seval,-iQ0];refine zAv hl szl fun xvl t2 ql ol hh2=>?_
 simp only [zA5]at ol hh2
 simp only [pm0,pwA,seval,-iQ0];refine CallM.pure ?_;simp only [pm0,pwA,seval,-iQ0];refine zBJ hx szx fun xvx t3 qx ox hh3=>?_
 simp only [zA5]at ox hh3
 simp only [pm0,pwA,seval,-iQ0];refine CallM.pure ?_;simp only [pm0,pwA,seval,-iQ0];refine zBq sw szr qr ql szl qx szx fun k1 G1 Z1 g1 g2 c' t4 hz' hG1 hL1 og hh4=>?_
 simp only [zA5]at og hh4
 obtain⟨⟨rfl,rfl,rfl⟩,rfl⟩:=hz'.unique hz;have lg1:∀o∈ead g1,t3≤o∧o<t4:=fun o ho=>og.lt o (by simp [eads,ho])
 have lg2:∀o∈ead g2,t3≤o∧o<t4:=fun o ho=>og.lt o (by simp [eads,ho])
 have oC:Own t3 t4 (.agg [.int .i64 k1,g1,g2]):=⟨⟨trivial,og.wh⟩,og.nd,og.lt⟩;simp only [pm0,pwA,seval,-iQ0,hG1.one,hL1.one,hL1.cells];refine CallM.pure ?_;simp only [pm0,pwA,seval,-iQ0];refine QL hG1 hL1 hG0 hL0 szG szL fun t ht=>?_
 obtain rfl:=ht.2 ⟨rfl,rfl,rfl⟩;simp only [pm0,pwA,seval,-iQ0];refine Z9 hRr szr fun b1r b2r b3r sr=>?_
 simp only [pm0,pwA,seval,-iQ0];refine zAB qr sr szr fun t ht=>?_
 obtain rfl:=ht.2 ⟨rfl,rfl,rfl⟩;simp only [pm0,pwA,seval,-iQ0];refine CallM.pure ?_;simp only [pm0,pwA,seval,-iQ0];refine Zr hl szl fun b1l sl=>?_
 simp only [pm0,pwA,seval,-iQ0];refine CallM.pure ?_;simp only [pm0,pwA,seval,-iQ0];refine Qg ql sl szl fun t ht=>?_
 obtain rfl:=ht.2 rfl;simp only [pm0,pwA,seval,-iQ0];refine CallM.pure ?_;simp only [pm0,pwA,seval,-iQ0];refine QA hx szx fun b1x sx=>?_
 simp only [pm0,pwA,seval,-iQ0];refine CallM.pure ?_;simp only [pm0,pwA,seval,-iQ0];refine zA0 qx sx (by omega) ?_
 simp only [pm0,pwA,seval,-iQ0];have hbtr:=zE7 szr;have hbtl:=zAh szl;refine CallM.mark' (by simp only [pm0,pwA,seval,-iQ0]) (zB3 (k:=1) qr or szr (by omega) (by omega)) ?_
 have kk0:=keysP (k:=1) qr or;generalize mkPr (1) xOr xPr xCr Or Pr Cr=L1 at *
 have m0_0:Go.Ab.rm L1 vOr=vOr:=qM kk0 fun o ho=>.inl (by have:=havOr o ho;omega)
 have m0_1:Go.Ab.rm L1 vPr=vPr:=qM kk0 fun o ho=>.inl (by have:=havPr o ho;omega)
 have m0_2:Go.Ab.rm L1 vCr=vCr:=qM kk0 fun o ho=>.inl (by have:=havCr o ho;omega)
 have m0_3:Go.Ab.rm L1 vl=vl:=qM kk0 fun o ho=>.inl (by have:=havl o ho;omega)
 have m0_4:Go.Ab.rm L1 vx=vx:=qM kk0 fun o ho=>.inl (by have:=havx o ho;omega)
 have m0_w1:Go.Ab.rm L1 w1=w1:=qM kk0 fun o ho=>.inl (by have:=bw1 o ho;omega)
 have m0_w2:Go.Ab.rm L1 w2=w2:=qM kk0 fun o ho=>.inl (by have:=bw2 o ho;omega)
 have m0_l:Go.Ab.rm L1 xvl=xvl:=qM kk0 fun o ho=>.inr (by have:=ol.lt o ho;omega)
 have m0_x:Go.Ab.rm L1 xvx=xvx:=qM kk0 fun o ho=>.inr (by have:=ox.lt o ho;omega)
 have m0_g1:Go.Ab.rm L1 g1=g1:=qM kk0 fun o ho=>.inr (by have:=lg1 o ho;omega)
 have m0_g2:Go.Ab.rm L1 g2=g2:=qM kk0 fun o ho=>.inr (by have:=lg2 o ho;omega)
 simp only [pm0,pwA,seval,-iQ0,m0_0,m0_1,m0_2,m0_3,m0_4,m0_w1,m0_w2,m0_l,m0_x,m0_g1,m0_g2];refine CallM.mark' (by simp only [pm0,pwA,seval,-iQ0]) (zEr (k:=1+(totP Or Pr Cr:Int)) ql ol (by have:=szl.l;omega) (fun y hy=>by have:=szl.r y hy;omega) (by omega) (by omega)) ?_
 have kk1:=zNR (k:=1+(totP Or Pr Cr:Int)) ql ol;generalize mkF mkI List.length (1+(totP Or Pr Cr:Int)) xvl l=L2 at *
 have m1_0:Go.Ab.rm L2 vOr=vOr:=qM kk1 fun o ho=>.inl (by have:=havOr o ho;omega)
 have m1_1:Go.Ab.rm L2 vPr=vPr:=qM kk1 fun o ho=>.inl (by have:=havPr o ho;omega)
 have m1_2:Go.Ab.rm L2 vCr=vCr:=qM kk1 fun o ho=>.inl (by have:=havCr o ho;omega)
 have m1_3:Go.Ab.rm L2 vl=vl:=qM kk1 fun o ho=>.inl (by have:=havl o ho;omega)
 have m1_4:Go.Ab.rm L2 vx=vx:=qM kk1 fun o ho=>.inl (by have:=havx o ho;omega)
 have m1_w1:Go.Ab.rm L2 w1=w1:=qM kk1 fun o ho=>.inl (by have:=bw1 o ho;omega)
 have m1_w2:Go.Ab.rm L2 w2=w2:=qM kk1 fun o ho=>.inl (by have:=bw2 o ho;omega)
 have m1_x:Go.Ab.rm L2 xvx=xvx:=qM kk1 fun o ho=>.inr (by have:=ox.lt o ho;omega)
 have m1_g1:Go.Ab.rm L2 g1=g1:=qM kk1 fun o ho=>.inr (by have:=lg1 o ho;omega)
 have m1_g2:Go.Ab.rm L2 g2=g2:=qM kk1 fun o ho=>.inr (by have:=lg2 o ho;omega)
 simp only [pm0,pwA,seval,-iQ0,m1_0,m1_1,m1_2,m1_3,m1_4,m1_w1,m1_w2,m1_x,m1_g1,m1_g2];refine CallM.mark' (by simp only [pm0,pwA,seval,-iQ0]) (zFb (k:=1+(totP Or Pr Cr:Int)+(totL List.length l:Int)) qx ox (by omega) (by omega) (by omega)) ?_
 have kk2:=keysI (k:=1+(totP Or Pr Cr:Int)+(totL List.length l:Int)) qx ox;generalize mkI (1+(totP Or Pr Cr:Int)+(totL List.length l:Int)) xvx x=L3 at *
 have m2_0:Go.Ab.rm L3 vOr=vOr:=qM kk2 fun o ho=>.inl (by have:=havOr o ho;omega)
 have m2_1:Go.Ab.rm L3 vPr=vPr:=qM kk2 fun o ho=>.inl (by have:=havPr o ho;omega)
 have m2_2:Go.Ab.rm L3 vCr=vCr:=qM kk2 fun o ho=>.inl (by have:=havCr o ho;omega)
 have m2_3:Go.Ab.rm L3 vl=vl:=qM kk2 fun o ho=>.inl (by have:=havl o ho;omega)
 have m2_4:Go.Ab.rm L3 vx=vx:=qM kk2 fun o ho=>.inl (by have:=havx o ho;omega)
 have m2_w1:Go.Ab.rm L3 w1=w1:=qM kk2 fun o ho=>.inl (by have:=bw1 o ho;omega)
 have m2_w2:Go.Ab.rm L3 w2=w2:=qM kk2 fun o ho=>.inl (by have:=bw2 o ho;omega)
 have m2_g1:Go.Ab.rm L3 g1=g1:=qM kk2 fun o ho=>.inr (by have:=lg1 o ho;omega)
 have m2_g2:Go.Ab.rm L3 g2=g2:=qM kk2 fun o ho=>.inr (by have:=lg2 o ho;omega)
 have hn:¬(1+(totP Or Pr Cr:Int)+(totL List.length l:Int)+(x.length:Int)<0):=by omega
 simp only [pm0,pwA,seval,-iQ0,m2_0,m2_1,m2_2,m2_3,m2_4,m2_w1,m2_w2,m2_g1,m2_g2,hn];refine CallM.pure ?_;simp only [pm0,pwA,seval,-iQ0];refine QL hG1 hL1 hG0 hL0 szG szL fun t ht=>?_
 obtain rfl:=ht.2 ⟨rfl,rfl,rfl⟩;simp only [pm0,pwA,seval,-iQ0];have htt:totC G1 Z1≤1153000000000000000+1099511627776:=by
  have h2:=zAh szL;have h1:totG G1≤1153000000000000000:=by
   unfold totG
   split
   ·exact zE7 (szG.r _ (List.mem_singleton.2 rfl))
   ·omega
  unfold totC;omega
 refine CallM.mark' (by simp only [pm0,pwA,seval,-iQ0]) (zCd (k:=1) hG1 hg1 hL1 oC szG szL (by omega) (by omega)) ?_
 have kg:=keysC (k:=1) hG1 hg1 hL1 oC;obtain⟨hgm1,hgm2⟩:=rmC (k:=1) hG1 hg1 hL1 oC;generalize mkC 1 g1 g2 G1 Z1=Lg at *
 have mg_0:Go.Ab.rm Lg vOr=vOr:=qM kg fun o ho=>.inl (by have:=havOr o ho;omega)
 have mg_1:Go.Ab.rm Lg vPr=vPr:=qM kg fun o ho=>.inl (by have:=havPr o ho;omega)
 have mg_2:Go.Ab.rm Lg vCr=vCr:=qM kg fun o ho=>.inl (by have:=havCr o ho;omega)
 have mg_3:Go.Ab.rm Lg vl=vl:=qM kg fun o ho=>.inl (by have:=havl o ho;omega)
 have mg_4:Go.Ab.rm Lg vx=vx:=qM kg fun o ho=>.inl (by have:=havx o ho;omega)
 have mg_w1:Go.Ab.rm Lg w1=w1:=qM kg fun o ho=>.inl (by have:=bw1 o ho;omega)
 have mg_w2:Go.Ab.rm Lg w2=w2:=qM kg fun o ho=>.inl (by have:=bw2 o ho;omega)
 obtain⟨q1,mg_g1⟩:∃q1,Go.Ab.rm Lg g1=q1:=⟨_,rfl⟩
 obtain⟨q2,mg_g2⟩:∃q2,Go.Ab.rm Lg g2=q2:=⟨_,rfl⟩
 rw [mg_g1]at hgm1
 rw [mg_g2]at hgm2
 simp only [pm0,pwA,seval,-iQ0,mg_0,mg_1,mg_2,mg_3,mg_4,mg_w1,mg_w2,mg_g1,mg_g2];refine CallM.pure ?_;simp only [pm0,pwA,seval,-iQ0];refine Q5 hgm1 hgm2 szG szL (by omega) (by omega) ?_
 have hn1:¬(1+(totC G1 Z1:Int)<0):=by omega
 simp only [pm0,pwA,seval,-iQ0,hn1];refine CallM.pure ?_;simp only [pm0,pwA,seval,-iQ0];refine Z9 hRr szr fun dOr dPr dCr dqr=>?_
 simp only [pm0,pwA,seval,-iQ0];refine CallM.pure ?_;simp only [pm0,pwA,seval,-iQ0];refine Zr hl szl fun dvl dql=>?_
 simp only [pm0,pwA,seval,-iQ0];refine CallM.pure ?_;simp only [pm0,pwA,seval,-iQ0];refine QA hx szx fun dvx dqx=>?_
 simp only [pm0,pwA,seval,-iQ0];refine CallM.pure ?_;simp only [pm0,pwA,seval,-iQ0];refine zBq sw szr dqr dql szl dqx szx fun k2 G2 Z2 f1 f2 c2 tz hz2 hG2 hL2 og2 hhz=>?_
 obtain⟨⟨rfl,rfl,rfl⟩,rfl⟩:=hz2.unique hz;simp only [pm0,pwA,seval,-iQ0,hG2.one,hL2.one,hL2.cells];refine CallM.pure ?_;simp only [pm0,pwA,seval,-iQ0];refine QL hG2 hL2 hG0 hL0 szG szL fun t ht=>?_
 obtain rfl:=ht.2 ⟨rfl,rfl,rfl⟩;simp only [pm0,pwA,seval,-iQ0];refine CallM.pure ?_;simp only [pm0,pwA,seval,-iQ0];refine Q5 hgm1 hgm2 szG szL (by omega) (by omega) ?_
 simp only [pm0,pwA,seval,-iQ0,hn1]
 rfl
end Go.Proofs
namespace Go.Proofs.Ytkhbdmlhjnijaaa
open Go.ChangeShapes Go.WideShapes Go.ChangeAt Go.RowKit Go.Ab Go.Joins Go.Lie Go.Proofs
set_option maxRecDepth 100000 in
theorem zBr {H:Type} {enc:TypeId×Value→H} (W:World) (base:Nat) (args:Array Value) (ds gs:List (DataW H)) (before:List MemPlace)
  (hval:∀(j:Nat) t v,Try.f5.params[j]? = some t→args[j]? = some v→Value.okWide Try.prog W .any base t v)
  (hW:DataW.Whole enc Try.prog Try.f5.params.toList Rows.fnExactProveMemberSpec.vars false W args.toList ds gs before):
  Calls Try.prog 5 args W fun e W'=>∃v,e=.returned v∧Rows.fnExactProveMemberSpec.post enc Try.prog Try.f5 false true false false W args v W':=by
 have hW':=hW;obtain⟨p,q,hA0,hV,rfl,hfz,hnd⟩:=hW;have hA:DataW.TrodAll enc Try.prog W 0 (fun _=>true) true Try.f5.params.toList args.toList ds p:=hA0
 rw [Try.params5]at hA hval
 obtain⟨v0,vs0,d0,ds0,p0,q0,hargs,rfl,rfl,t0,r0⟩:=trodAll_cons hA;obtain⟨v1,vs1,d1,ds1,p1,q1,rfl,rfl,rfl,t1,r1⟩:=trodAll_cons r0;obtain⟨v2,vs2,d2,ds2,p2,q2,rfl,rfl,rfl,t2,r2⟩:=trodAll_cons r1;obtain⟨rfl,rfl,rfl⟩:=trodAll_nil r2;obtain rfl:args = #[v0,v1,v2]:=by cases args;simp_all
 obtain⟨j0,h0,vO0,vP0,vC0,O0,W0,C0,m0,l0,e0,i0,o0,R0,x0⟩:=layPr (MR.empty W) (hval 0 26 v0 rfl rfl) t0;obtain⟨n1,t1⟩:=t1;obtain⟨s1,s1',s1'',hv1⟩:=okWide_slice Try.underlying23 (hval 1 23 v1 rfl rfl);have hc1:v1.cells.toList=[v1]:=by rw [hv1];rfl
 rw [hc1]at t1
 obtain⟨j1,h1,vX1,X1,m1,l1,e1,i1,o1,_,R1,y1,z1⟩:=layII _ _ _ true n1 _ _ (m0) t1;obtain⟨n2,t2⟩:=t2;obtain⟨s2,s2',s2'',hv2⟩:=okWide_slice Try.underlying22 (hval 2 22 v2 rfl rfl);have hc2:v2.cells.toList=[v2]:=by rw [hv2];rfl
 rw [hc2]at t2
 obtain⟨j2,h2,vX2,X2,m2,l2,e2,i2,o2,_,R2,y2⟩:=layI _ _ _ true n2 _ _ (m1) t2;have ac:=zJR (h:=h2) mix Try.func5 cf5 (args:=[.agg [vO0,vP0,vC0],vX1,vX2]) rfl m2.wf ⟨(e1.trans e2).vok o0,e2.vok o1,o2,trivial⟩ fun ha=>zBH zDa R0 x0 R1 y1 z1 R2 y2 ha
 refine(ac.calls m2 (cargs:=#[v0,v1,v2]) ⟨_,_,rfl,VI.mono (l1.trans l2) _ _ i0,_,_,rfl,VI.mono l2 _ _ i1,_,_,rfl,i2,rfl⟩).mono fun e W' ⟨he,hb⟩=>?_
 exact⟨_,he,zEn rfl laidOut (by rw [Try.params5];intro t ht;simp only [List.mem_cons,List.not_mem_nil,or_false]at ht;rcases ht with rfl | rfl | rfl<;>exact⟨by kernel_rfl,of_decide_eq_true (by kernel_rfl)⟩) (by kernel_rfl) Try.underlying4 rfl hW' hb⟩
set_option maxRecDepth 100000 in
theorem zCb (os:Os) (started:os.Started) (H:Type) (enc:TypeId×Value→H):
  ReturnsInHanded {} Try.checked os 5 .any (Rows.fnExactProveMemberSpec.pre6 enc Try.prog Try.f5 Rows.fnExactProveMemberRow.domain false) (Rows.fnExactProveMemberSpec.post enc Try.prog Try.f5 false true false false):=by
 refine returnsInHanded_of_change (C:=Try.checked) own started (by kernel_rfl) Try.func5
  (ChangeSpec.witness6 (enc:=enc) (C:=Try.checked) false ⟨#[],#[.agg #[.slice none 0 0,.slice none 0 0,.slice none 0 0],.slice none 0 0,.slice none 0 0],[]⟩ 8 (by kernel_rfl) (by kernel_rfl) (by kernel_rfl) (by kernel_rfl)) ?_
 intro W base args ds gs before hval hW _ _;exact zBr W base args ds gs before hval hW
set_option maxRecDepth 100000 in
theorem zDC:Try.prog.funcNamed Rows.fnExactProveMemberRow.func=some 5:=by kernel_rfl
set_option maxRecDepth 100000 in
set_option maxHeartbeats 1600000 in
set_option maxRecDepth 100000 in
theorem zCc:joinedFacts Try.prog 5 Try.f5 Rows.fnExactProveMemberSpec Rows.fnExactProveMemberRow=true:=by
 unfold joinedFacts;simp only [Bool.and_eq_true]
 repeat' apply And.intro
 all_goals (as_aux_lemma=>kernel_rfl)
theorem proveMemberProved:Rows.FnExactProveMemberSaid:=
 OpenClaim.holds_of_wide 5 Try.f5 rfl rfl rfl rfl rfl rfl rfl ⟨rfl,rfl,rfl,rfl,rfl⟩ rfl rfl rfl rfl rfl zDC Try.func5 zCc
  (of_decide_eq_true (by kernel_rfl)) (by unfold Func.isWrapper;first | (rw [if_pos (by decide +kernel)];kernel_rfl) | (rw [if_neg (by decide +kernel)];exact⟨rfl,rfl⟩))
  (fun os started H enc _=>zCb os started H enc)
end Go.Proofs.Ytkhbdmlhjnijaaa
