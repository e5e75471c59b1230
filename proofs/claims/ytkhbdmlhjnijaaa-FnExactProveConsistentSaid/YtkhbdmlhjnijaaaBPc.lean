/- The statement on certificates of consistency. -/
import Derived.Test.YtkhbdmlhjnijaaaBP26
import Derived.Test.YtkhbdmlhjnijaaaBP27
import Derived.Test.YtkhbdmlhjnijaaaBP29
import Derived.Test.YtkhbdmlhjnijaaaBP31
import Derived.Test.YtkhbdmlhjnijaaaBP34
import Derived.Test.YtkhbdmlhjnijaaaBP39
open Int renaming reduceNatCast'→iQ0
namespace Go.Grp
end Go.Grp
set_option linter.unusedSimpArgs false
set_option linter.unusedVariables false
namespace Go.Proofs
open Go.Ab Go.Lie Go.Grp Go.Mx
theorem CRes.bd {O:List Int} {P:List (List Int)} {C:List (List (List Int))} {k c:Int} {G:List Pre} {L:List (List Int)} (h:CRes O P C k G L c) (sz:SzP O P C):G.length≤1∧SzG G∧SzL L:=by
 have nl:(([]:List Pre).length≤1∧SzG []∧SzL []):=⟨by simp,⟨by simp,fun g hg=>by cases hg⟩,⟨by simp,fun g hg=>by cases hg⟩⟩
 rcases h with ⟨a,⟨rfl,rfl,rfl⟩,rfl⟩|⟨a,b,⟨rfl,rfl,rfl⟩,rfl⟩|⟨a,b,d,⟨rfl,rfl,rfl⟩,rfl⟩|⟨a,b,d,⟨rfl,rfl,rfl⟩,rfl⟩
 ·exact nl
 ·exact nl
 ·exact nl
 ·have hn6:=a.shp.le
  have hN:=(zEb a.shp).1;refine⟨by simp,⟨by simp,fun g hg=>by rw [List.mem_singleton.1 hg];exact sz⟩,⟨by simp [regul];omega,fun x hx=>?_⟩⟩
  obtain⟨i,_,rfl⟩:=List.mem_map.1 hx;simp only [Zl,List.length_map,List.length_range];omega
theorem Qp {h:AHeap} {Or:List Int} {Pr:List (List Int)} {Cr:List (List (List Int))} {vOr vPr vCr:PV} (hRr:IsPr vOr vPr vCr Or Pr Cr) (mxr:MxP Or Pr Cr) (ha:∀o∈eads [.agg [vOr,vPr,vCr]],o<h.next):
  vm Try.prog if3.body (retP if3.res zBn) (PEnv.mk if3.params [.agg [vOr,vPr,vCr]]) (PHeap.start h):=by
 have h0r:=hRr.O.one;have h1r:=hRr.P.one;have h2r:=hRr.C.one;have havOr:∀o∈ead vOr,o<h.next:=fun o ho=>ha o (by simp [eads,ead,ho])
 have havPr:∀o∈ead vPr,o<h.next:=fun o ho=>ha o (by simp [eads,ead,ho])
 have havCr:∀o∈ead vCr,o<h.next:=fun o ho=>ha o (by simp [eads,ead,ho])
 dsimp only [if3,eI,qD,eD,mI0,kI0,tI0,LI0,bI0,cI0,nI0,eI0,C1,C2,G0,gm0,oI0,vI0,R0,S0];simp only [pm0,pwA,seval,-iQ0,h0r,h1r,h2r];refine CallM.pure ?_;simp only [pm0,pwA,seval,-iQ0];refine zBs hRr mxr (by unfold left_;omega) fun rr hr=>?_
 rcases hr with rfl|⟨lr,szr⟩
 ·simp only [pm0,pwA,seval,-iQ0]
  rfl
 have hrr:¬rr<0:=by unfold left_ at lr;omega
 simp only [pm0,pwA,seval,-iQ0,hrr];refine CallM.pure ?_;simp only [pm0,pwA,seval,-iQ0];refine Zj hRr szr fun aOr aPr aCr aqr=>?_
 simp only [pm0,pwA,seval,-iQ0];refine CallM.pure ?_;simp only [pm0,pwA,seval,-iQ0];refine zB0 szr aqr fun k0 G0 Z0 w1 w2 c hz hG0 hL0=>?_
 obtain⟨hg1,szG,szL⟩:=hz.bd szr;simp only [pm0,pwA,seval,-iQ0,hG0.one,hL0.one,hL0.cells];refine CallM.topH fun t0 ht0 hb0 hbh=>?_
 have bw':=hbh ((PHeap.start h).next+1) [.int .i64 k0,w1,w2] (by simp only [pm0,pwA,seval,-iQ0])
 have bw1:∀o∈ead w1,o<t0:=fun o ho=>bw' o (by simp [eads,ead,ho])
 have bw2:∀o∈ead w2,o<t0:=fun o ho=>bw' o (by simp [eads,ead,ho])
 simp only [zEM,zGQ]at ht0
 refine CallM.pure ?_;simp only [pm0,pwA,seval,-iQ0];refine zCM hRr szr fun xOr xPr xCr t1 qr or hh1=>?_
 simp only [zDY]at or hh1
 simp only [pm0,pwA,seval,-iQ0,qr.O.one,qr.P.one,qr.C.one,up_up];refine CallM.pure ?_;simp only [pm0,pwA,seval,-iQ0];refine Qg szr qr fun k1 G1 Z1 g1 g2 c' t2 hz' hG1 hL1 og hh2=>?_
 simp only [zDY]at og hh2
 obtain⟨⟨rfl,rfl,rfl⟩,rfl⟩:=hz'.unique hz;have lg1:∀o∈ead g1,t1≤o∧o<t2:=fun o ho=>og.lt o (by simp [eads,ho])
 have lg2:∀o∈ead g2,t1≤o∧o<t2:=fun o ho=>og.lt o (by simp [eads,ho])
 have oC:Own t1 t2 (.agg [.int .i64 k1,g1,g2]):=⟨⟨trivial,og.wh⟩,og.nd,og.lt⟩;simp only [pm0,pwA,seval,-iQ0,hG1.one,hL1.one,hL1.cells];refine CallM.pure ?_;simp only [pm0,pwA,seval,-iQ0];refine Zw hG1 hL1 hG0 hL0 szG szL fun t ht=>?_
 obtain rfl:=ht.2 ⟨rfl,rfl,rfl⟩;simp only [pm0,pwA,seval,-iQ0];refine Zj hRr szr fun b1r b2r b3r sr=>?_
 simp only [pm0,pwA,seval,-iQ0];refine Qf qr sr szr fun t ht=>?_
 obtain rfl:=ht.2 ⟨rfl,rfl,rfl⟩;simp only [pm0,pwA,seval,-iQ0];have hbtr:=zD8 szr;refine CallM.mark' (by simp only [pm0,pwA,seval,-iQ0]) (zBO (k:=1) qr or szr (by omega) (by omega)) ?_
 have kk0:=keysP (k:=1) qr or;generalize mkPr (1) xOr xPr xCr Or Pr Cr=L1 at *
 have m0_0:Go.Ab.rm L1 vOr=vOr:=ZU kk0 fun o ho=>.inl (by have:=havOr o ho;omega)
 have m0_1:Go.Ab.rm L1 vPr=vPr:=ZU kk0 fun o ho=>.inl (by have:=havPr o ho;omega)
 have m0_2:Go.Ab.rm L1 vCr=vCr:=ZU kk0 fun o ho=>.inl (by have:=havCr o ho;omega)
 have m0_w1:Go.Ab.rm L1 w1=w1:=ZU kk0 fun o ho=>.inl (by have:=bw1 o ho;omega)
 have m0_w2:Go.Ab.rm L1 w2=w2:=ZU kk0 fun o ho=>.inl (by have:=bw2 o ho;omega)
 have m0_g1:Go.Ab.rm L1 g1=g1:=ZU kk0 fun o ho=>.inr (by have:=lg1 o ho;omega)
 have m0_g2:Go.Ab.rm L1 g2=g2:=ZU kk0 fun o ho=>.inr (by have:=lg2 o ho;omega)
 have hn:¬(1+(totP Or Pr Cr:Int)<0):=by omega
 simp only [pm0,pwA,seval,-iQ0,m0_0,m0_1,m0_2,m0_w1,m0_w2,m0_g1,m0_g2,hn];refine CallM.pure ?_;simp only [pm0,pwA,seval,-iQ0];refine Zw hG1 hL1 hG0 hL0 szG szL fun t ht=>?_
 obtain rfl:=ht.2 ⟨rfl,rfl,rfl⟩;simp only [pm0,pwA,seval,-iQ0];have htt:totC G1 Z1≤1153000000000000000+1099511627776:=by
  have h2:=zBA szL;have h1:totG G1≤1153000000000000000:=by
   unfold totG
   split
   ·exact zD8 (szG.r _ (List.mem_singleton.2 rfl))
   ·omega
  unfold totC;omega
 refine CallM.mark' (by simp only [pm0,pwA,seval,-iQ0]) (zBt (k:=1) hG1 hg1 hL1 oC szG szL (by omega) (by omega)) ?_
 have kg:=keysC (k:=1) hG1 hg1 hL1 oC;obtain⟨hgm1,hgm2⟩:=rmC (k:=1) hG1 hg1 hL1 oC;generalize mkC 1 g1 g2 G1 Z1=Lg at *
 have mg_0:Go.Ab.rm Lg vOr=vOr:=ZU kg fun o ho=>.inl (by have:=havOr o ho;omega)
 have mg_1:Go.Ab.rm Lg vPr=vPr:=ZU kg fun o ho=>.inl (by have:=havPr o ho;omega)
 have mg_2:Go.Ab.rm Lg vCr=vCr:=ZU kg fun o ho=>.inl (by have:=havCr o ho;omega)
 have mg_w1:Go.Ab.rm Lg w1=w1:=ZU kg fun o ho=>.inl (by have:=bw1 o ho;omega)
 have mg_w2:Go.Ab.rm Lg w2=w2:=ZU kg fun o ho=>.inl (by have:=bw2 o ho;omega)
 obtain⟨q1,mg_g1⟩:∃q1,Go.Ab.rm Lg g1=q1:=⟨_,rfl⟩
 obtain⟨q2,mg_g2⟩:∃q2,Go.Ab.rm Lg g2=q2:=⟨_,rfl⟩
 rw [mg_g1]at hgm1
 rw [mg_g2]at hgm2
 simp only [pm0,pwA,seval,-iQ0,mg_0,mg_1,mg_2,mg_w1,mg_w2,mg_g1,mg_g2];refine CallM.pure ?_;simp only [pm0,pwA,seval,-iQ0];refine QW hgm1 hgm2 szG szL (by omega) (by omega) ?_
 have hn1:¬(1+(totC G1 Z1:Int)<0):=by omega
 simp only [pm0,pwA,seval,-iQ0,hn1];refine CallM.pure ?_;simp only [pm0,pwA,seval,-iQ0];refine Zj hRr szr fun dOr dPr dCr dqr=>?_
 simp only [pm0,pwA,seval,-iQ0];refine CallM.pure ?_;simp only [pm0,pwA,seval,-iQ0];refine Qg szr dqr fun k2 G2 Z2 f1 f2 c2 tz hz2 hG2 hL2 og2 hhz=>?_
 obtain⟨⟨rfl,rfl,rfl⟩,rfl⟩:=hz2.unique hz;simp only [pm0,pwA,seval,-iQ0,hG2.one,hL2.one,hL2.cells];refine CallM.pure ?_;simp only [pm0,pwA,seval,-iQ0];refine Zw hG2 hL2 hG0 hL0 szG szL fun t ht=>?_
 obtain rfl:=ht.2 ⟨rfl,rfl,rfl⟩;simp only [pm0,pwA,seval,-iQ0];refine CallM.pure ?_;simp only [pm0,pwA,seval,-iQ0];refine QW hgm1 hgm2 szG szL (by omega) (by omega) ?_
 simp only [pm0,pwA,seval,-iQ0,hn1]
 rfl
end Go.Proofs
namespace Go.Proofs.Ytkhbdmlhjnijaaa
open Go.ChangeShapes Go.WideShapes Go.ChangeAt Go.RowKit Go.Ab Go.Joins Go.Lie Go.Proofs
set_option maxRecDepth 100000 in
theorem Q8 {H:Type} {enc:TypeId×Value→H} (W:World) (base:Nat) (args:Array Value) (ds gs:List (DataW H)) (before:List MemPlace)
  (hval:∀(j:Nat) t v,Try.f3.params[j]? = some t→args[j]? = some v→Value.okWide Try.prog W .any base t v)
  (hW:DataW.Whole enc Try.prog Try.f3.params.toList Rows.fnExactProveConsistentSpec.vars false W args.toList ds gs before):
  Calls Try.prog 3 args W fun e W'=>∃v,e=.returned v∧Rows.fnExactProveConsistentSpec.post enc Try.prog Try.f3 false true false false W args v W':=by
 have hW':=hW;obtain⟨p,q,hA0,hV,rfl,hfz,hnd⟩:=hW;have hA:DataW.TrodAll enc Try.prog W 0 (fun _=>true) true Try.f3.params.toList args.toList ds p:=hA0
 rw [Try.params3]at hA hval
 obtain⟨v0,vs0,d0,ds0,p0,q0,hargs,rfl,rfl,t0,r0⟩:=trodAll_cons hA;obtain⟨rfl,rfl,rfl⟩:=trodAll_nil r0;obtain rfl:args = #[v0]:=by cases args;simp_all
 obtain⟨j0,h0,vO0,vP0,vC0,O0,W0,C0,m0,l0,e0,i0,o0,R0,x0⟩:=layPr (MR.empty W) (hval 0 26 v0 rfl rfl) t0;have ac:=zH6 (h:=h0) mix Try.func3 cf3 (args:=[.agg [vO0,vP0,vC0]]) rfl m0.wf ⟨o0,trivial⟩ fun ha=>Qp R0 x0 ha
 refine(ac.calls m0 (cargs:=#[v0]) ⟨_,_,rfl,i0,rfl⟩).mono fun e W' ⟨he,hb⟩=>?_
 exact⟨_,he,zDs rfl laidOut (by rw [Try.params3];intro t ht;simp only [List.mem_cons,List.not_mem_nil,or_false]at ht;rcases ht with rfl<;>exact⟨by kernel_rfl,of_decide_eq_true (by kernel_rfl)⟩) (by kernel_rfl) Try.underlying4 rfl hW' hb⟩
set_option maxRecDepth 100000 in
theorem zAR (os:Os) (started:os.Started) (H:Type) (enc:TypeId×Value→H):
  ReturnsInHanded {} Try.checked os 3 .any (Rows.fnExactProveConsistentSpec.pre6 enc Try.prog Try.f3 Rows.fnExactProveConsistentRow.domain false) (Rows.fnExactProveConsistentSpec.post enc Try.prog Try.f3 false true false false):=by
 refine returnsInHanded_of_change (C:=Try.checked) own started (by kernel_rfl) Try.func3
  (ChangeSpec.witness6 (enc:=enc) (C:=Try.checked) false ⟨#[],#[.agg #[.slice none 0 0,.slice none 0 0,.slice none 0 0]],[]⟩ 8 (by kernel_rfl) (by kernel_rfl) (by kernel_rfl) (by kernel_rfl)) ?_
 intro W base args ds gs before hval hW _ _;exact Q8 W base args ds gs before hval hW
set_option maxRecDepth 100000 in
theorem zAj:Try.prog.funcNamed Rows.fnExactProveConsistentRow.func=some 3:=by kernel_rfl
set_option maxRecDepth 100000 in
set_option maxHeartbeats 1600000 in
set_option maxRecDepth 100000 in
theorem zAS:joinedFacts Try.prog 3 Try.f3 Rows.fnExactProveConsistentSpec Rows.fnExactProveConsistentRow=true:=by
 unfold joinedFacts;simp only [Bool.and_eq_true]
 repeat' apply And.intro
 all_goals (as_aux_lemma=>kernel_rfl)
theorem proveConsistentProved:Rows.FnExactProveConsistentSaid:=
 OpenClaim.holds_of_wide 3 Try.f3 rfl rfl rfl rfl rfl rfl rfl ⟨rfl,rfl,rfl,rfl,rfl⟩ rfl rfl rfl rfl rfl zAj Try.func3 zAS
  (of_decide_eq_true (by kernel_rfl)) (by unfold Func.isWrapper;first | (rw [if_pos (by decide +kernel)];kernel_rfl) | (rw [if_neg (by decide +kernel)];exact⟨rfl,rfl⟩))
  (fun os started H enc _=>zAR os started H enc)
end Go.Proofs.Ytkhbdmlhjnijaaa
