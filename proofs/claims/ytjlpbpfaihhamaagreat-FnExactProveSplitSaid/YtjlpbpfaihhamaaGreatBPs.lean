/- The statement on proofs that a group splits. -/
import Derived.Test.YtjlpbpfaihhamaaGreatBP19
import Derived.Test.YtjlpbpfaihhamaaGreatBP29
import Derived.Test.YtjlpbpfaihhamaaGreatBP30
import Derived.Test.YtjlpbpfaihhamaaGreatBP32
import Derived.Test.YtjlpbpfaihhamaaGreatBP34
import Derived.Test.YtjlpbpfaihhamaaGreatBP37
import Derived.Test.YtjlpbpfaihhamaaGreatBP43
import Derived.Test.YtjlpbpfaihhamaaGreatBP44
import Derived.Test.YtjlpbpfaihhamaaGreatBP45
import Derived.Test.YtjlpbpfaihhamaaGreatBP46
open Int renaming reduceNatCast'→iQ0
namespace Go.Mx
end Go.Mx
namespace Go.Grp
end Go.Grp
set_option linter.unusedSimpArgs false
set_option linter.unusedVariables false
namespace Go.Proofs
open Go.Ab Go.Lie Go.Grp Go.Mx
theorem SplR.bd {O:List Int} {P:List (List Int)} {C:List (List (List Int))} {u:List (List Int)} {k c:Int} {G:List Pre} {Z:List (List Int)} (h:SplR O P C u k G Z c) (sz:SzP O P C) (szL:SzL u):G.length≤1∧SzG G∧SzL Z:=by
 have nl:(([]:List Pre).length≤1∧SzG []∧SzL []):=⟨by simp,⟨by simp,fun g hg=>by cases hg⟩,⟨by simp,fun g hg=>by cases hg⟩⟩
 obtain⟨Y,cc,hY,h⟩:=h;rcases h with ⟨a1,⟨rfl,rfl,rfl⟩,rfl⟩|⟨a1,a2,⟨rfl,rfl,rfl⟩,rfl⟩|⟨rfl,w,Y',rfl,⟨rfl,rfl,rfl⟩,rfl⟩
 ·exact nl
 ·exact nl
 ·obtain⟨lg,su,hsub⟩:=hY.sub
  have sw:=hsub w (by simp)
  have hul:=su.len;have hwl:=sw.len;have hn6:=lg.s.le;refine⟨by simp,⟨by simp,fun g hg=>by rw [List.mem_singleton.1 hg];exact sz⟩,⟨by simp;omega,fun y hy=>?_⟩⟩
  simp only [List.cons_append,List.nil_append,List.mem_cons,List.mem_append]at hy
  rcases hy with rfl|hy|hy
  ·simp
  ·exact szL.r y hy
  ·exact(qJ.sz lg sw).r y hy
theorem zCn {h:AHeap} {Or:List Int} {Pr:List (List Int)} {Cr:List (List (List Int))} {vOr vPr vCr:PV} (hRr:IsPr vOr vPr vCr Or Pr Cr) (mxr:MxP Or Pr Cr) {l:List (List Int)} {vl:PV} (hl:FII vl l) (mxl:l.length≤9223372036854775807) (myl:∀y∈l,y.length≤9223372036854775807) (ha:∀o∈eads [.agg [vOr,vPr,vCr],vl],o<h.next):
  vm Tryz.prog if4.body (retP if4.res zDs) (PEnv.mk if4.params [.agg [vOr,vPr,vCr],vl]) (PHeap.start h):=by
 have h0r:=hRr.O.one;have h1r:=hRr.P.one;have h2r:=hRr.C.one;have havOr:∀o∈ead vOr,o<h.next:=fun o ho=>ha o (by simp [eads,ead,ho])
 have havPr:∀o∈ead vPr,o<h.next:=fun o ho=>ha o (by simp [eads,ead,ho])
 have havCr:∀o∈ead vCr,o<h.next:=fun o ho=>ha o (by simp [eads,ead,ho])
 have havl:∀o∈ead vl,o<h.next:=fun o ho=>ha o (by simp [eads,ead,ho])
 dsimp only [if4,eI,qD,eD,mI0,kI0,tI0,LI0,bI0,cI0,nI0,eI0,C1,C2,G0,gm0,oI0,vI0,R0,S0];simp only [pm0,pwA,seval,-iQ0,h0r,h1r,h2r];refine CallM.pure ?_;simp only [pm0,pwA,seval,-iQ0];refine zD1 hRr mxr (by unfold left_;omega) fun rr hr=>?_
 rcases hr with rfl|⟨lr,szr⟩
 ·simp only [pm0,pwA,seval,-iQ0]
  rfl
 have hrr:¬rr<0:=by unfold left_ at lr;omega
 simp only [pm0,pwA,seval,-iQ0,hrr];refine CallM.pure ?_;simp only [pm0,pwA,seval,-iQ0];refine zBD hl mxl myl lr fun rl hr=>?_
 rcases hr with rfl|⟨ll,szl⟩
 ·simp only [pm0,pwA,seval,-iQ0]
  rfl
 have hrl:¬rl<0:=by unfold left_ at ll;omega
 simp only [pm0,pwA,seval,-iQ0,hrl];refine CallM.pure ?_;simp only [pm0,pwA,seval,-iQ0];refine Qh hRr szr fun aOr aPr aCr aqr=>?_
 simp only [pm0,pwA,seval,-iQ0];refine CallM.pure ?_;simp only [pm0,pwA,seval,-iQ0];refine QU hl szl fun avl aql=>?_
 simp only [pm0,pwA,seval,-iQ0];refine CallM.pure ?_;simp only [pm0,pwA,seval,-iQ0];refine zIu szr aqr aql szl fun k0 G0 Z0 w1 w2 c hz hG0 hL0=>?_
 obtain⟨hg1,szG,szL⟩:=hz.bd szr szl;simp only [pm0,pwA,seval,-iQ0,hG0.one,hL0.one,hL0.cells];refine CallM.topH fun t0 ht0 hb0 hbh=>?_
 have bw':=hbh ((PHeap.start h).next+1) [.int .i64 k0,w1,w2] (by simp only [pm0,pwA,seval,-iQ0])
 have bw1:∀o∈ead w1,o<t0:=fun o ho=>bw' o (by simp [eads,ead,ho])
 have bw2:∀o∈ead w2,o<t0:=fun o ho=>bw' o (by simp [eads,ead,ho])
 simp only [zHo,zKe]at ht0
 refine CallM.pure ?_;simp only [pm0,pwA,seval,-iQ0];refine zEd hRr szr fun xOr xPr xCr t1 qr or hh1=>?_
 simp only [zDm]at or hh1
 simp only [pm0,pwA,seval,-iQ0,qr.O.one,qr.P.one,qr.C.one,up_up];refine CallM.pure ?_;simp only [pm0,pwA,seval,-iQ0];refine zBr hl szl fun xvl t2 ql ol hh2=>?_
 simp only [zDm]at ol hh2
 simp only [pm0,pwA,seval,-iQ0];refine CallM.pure ?_;simp only [pm0,pwA,seval,-iQ0];refine zDh szr qr ql szl fun k1 G1 Z1 g1 g2 c' t3 hz' hG1 hL1 og hh3=>?_
 simp only [zDm]at og hh3
 obtain⟨⟨rfl,rfl,rfl⟩,rfl⟩:=hz'.unique hz;have lg1:∀o∈ead g1,t2≤o∧o<t3:=fun o ho=>og.lt o (by simp [eads,ho])
 have lg2:∀o∈ead g2,t2≤o∧o<t3:=fun o ho=>og.lt o (by simp [eads,ho])
 have oC:Own t2 t3 (.agg [.int .i64 k1,g1,g2]):=⟨⟨trivial,og.wh⟩,og.nd,og.lt⟩;simp only [pm0,pwA,seval,-iQ0,hG1.one,hL1.one,hL1.cells];refine CallM.pure ?_;simp only [pm0,pwA,seval,-iQ0];refine Qx hG1 hL1 hG0 hL0 szG szL fun t ht=>?_
 obtain rfl:=ht.2 ⟨rfl,rfl,rfl⟩;simp only [pm0,pwA,seval,-iQ0];refine Qh hRr szr fun b1r b2r b3r sr=>?_
 simp only [pm0,pwA,seval,-iQ0];refine zAt qr sr szr fun t ht=>?_
 obtain rfl:=ht.2 ⟨rfl,rfl,rfl⟩;simp only [pm0,pwA,seval,-iQ0];refine CallM.pure ?_;simp only [pm0,pwA,seval,-iQ0];refine QU hl szl fun b1l sl=>?_
 simp only [pm0,pwA,seval,-iQ0];refine CallM.pure ?_;simp only [pm0,pwA,seval,-iQ0];refine zAK ql sl szl fun t ht=>?_
 obtain rfl:=ht.2 rfl;simp only [pm0,pwA,seval,-iQ0];have hbtr:=zHX szr;have hbtl:=zBf szl;refine CallM.mark' (by simp only [pm0,pwA,seval,-iQ0]) (zDG (k:=1) qr or szr (by omega) (by omega)) ?_
 have kk0:=keysP (k:=1) qr or;generalize mkPr (1) xOr xPr xCr Or Pr Cr=L1 at *
 have m0_0:Go.Ab.rm L1 vOr=vOr:=ZF kk0 fun o ho=>.inl (by have:=havOr o ho;omega)
 have m0_1:Go.Ab.rm L1 vPr=vPr:=ZF kk0 fun o ho=>.inl (by have:=havPr o ho;omega)
 have m0_2:Go.Ab.rm L1 vCr=vCr:=ZF kk0 fun o ho=>.inl (by have:=havCr o ho;omega)
 have m0_3:Go.Ab.rm L1 vl=vl:=ZF kk0 fun o ho=>.inl (by have:=havl o ho;omega)
 have m0_w1:Go.Ab.rm L1 w1=w1:=ZF kk0 fun o ho=>.inl (by have:=bw1 o ho;omega)
 have m0_w2:Go.Ab.rm L1 w2=w2:=ZF kk0 fun o ho=>.inl (by have:=bw2 o ho;omega)
 have m0_l:Go.Ab.rm L1 xvl=xvl:=ZF kk0 fun o ho=>.inr (by have:=ol.lt o ho;omega)
 have m0_g1:Go.Ab.rm L1 g1=g1:=ZF kk0 fun o ho=>.inr (by have:=lg1 o ho;omega)
 have m0_g2:Go.Ab.rm L1 g2=g2:=ZF kk0 fun o ho=>.inr (by have:=lg2 o ho;omega)
 simp only [pm0,pwA,seval,-iQ0,m0_0,m0_1,m0_2,m0_3,m0_w1,m0_w2,m0_l,m0_g1,m0_g2];refine CallM.mark' (by simp only [pm0,pwA,seval,-iQ0]) (zG3 (k:=1+(totP Or Pr Cr:Int)) ql ol (by have:=szl.l;omega) (fun y hy=>by have:=szl.r y hy;omega) (by omega) (by omega)) ?_
 have kk1:=zRi (k:=1+(totP Or Pr Cr:Int)) ql ol;generalize mkF mkI List.length (1+(totP Or Pr Cr:Int)) xvl l=L2 at *
 have m1_0:Go.Ab.rm L2 vOr=vOr:=ZF kk1 fun o ho=>.inl (by have:=havOr o ho;omega)
 have m1_1:Go.Ab.rm L2 vPr=vPr:=ZF kk1 fun o ho=>.inl (by have:=havPr o ho;omega)
 have m1_2:Go.Ab.rm L2 vCr=vCr:=ZF kk1 fun o ho=>.inl (by have:=havCr o ho;omega)
 have m1_3:Go.Ab.rm L2 vl=vl:=ZF kk1 fun o ho=>.inl (by have:=havl o ho;omega)
 have m1_w1:Go.Ab.rm L2 w1=w1:=ZF kk1 fun o ho=>.inl (by have:=bw1 o ho;omega)
 have m1_w2:Go.Ab.rm L2 w2=w2:=ZF kk1 fun o ho=>.inl (by have:=bw2 o ho;omega)
 have m1_g1:Go.Ab.rm L2 g1=g1:=ZF kk1 fun o ho=>.inr (by have:=lg1 o ho;omega)
 have m1_g2:Go.Ab.rm L2 g2=g2:=ZF kk1 fun o ho=>.inr (by have:=lg2 o ho;omega)
 have hn:¬(1+(totP Or Pr Cr:Int)+(totL List.length l:Int)<0):=by omega
 simp only [pm0,pwA,seval,-iQ0,m1_0,m1_1,m1_2,m1_3,m1_w1,m1_w2,m1_g1,m1_g2,hn];refine CallM.pure ?_;simp only [pm0,pwA,seval,-iQ0];refine Qx hG1 hL1 hG0 hL0 szG szL fun t ht=>?_
 obtain rfl:=ht.2 ⟨rfl,rfl,rfl⟩;simp only [pm0,pwA,seval,-iQ0];have htt:totC G1 Z1≤1153000000000000000+1099511627776:=by
  have h2:=zBf szL;have h1:totG G1≤1153000000000000000:=by
   unfold totG
   split
   ·exact zHX (szG.r _ (List.mem_singleton.2 rfl))
   ·omega
  unfold totC;omega
 refine CallM.mark' (by simp only [pm0,pwA,seval,-iQ0]) (zD2 (k:=1) hG1 hg1 hL1 oC szG szL (by omega) (by omega)) ?_
 have kg:=keysC (k:=1) hG1 hg1 hL1 oC;obtain⟨hgm1,hgm2⟩:=rmC (k:=1) hG1 hg1 hL1 oC;generalize mkC 1 g1 g2 G1 Z1=Lg at *
 have mg_0:Go.Ab.rm Lg vOr=vOr:=ZF kg fun o ho=>.inl (by have:=havOr o ho;omega)
 have mg_1:Go.Ab.rm Lg vPr=vPr:=ZF kg fun o ho=>.inl (by have:=havPr o ho;omega)
 have mg_2:Go.Ab.rm Lg vCr=vCr:=ZF kg fun o ho=>.inl (by have:=havCr o ho;omega)
 have mg_3:Go.Ab.rm Lg vl=vl:=ZF kg fun o ho=>.inl (by have:=havl o ho;omega)
 have mg_w1:Go.Ab.rm Lg w1=w1:=ZF kg fun o ho=>.inl (by have:=bw1 o ho;omega)
 have mg_w2:Go.Ab.rm Lg w2=w2:=ZF kg fun o ho=>.inl (by have:=bw2 o ho;omega)
 obtain⟨q1,mg_g1⟩:∃q1,Go.Ab.rm Lg g1=q1:=⟨_,rfl⟩
 obtain⟨q2,mg_g2⟩:∃q2,Go.Ab.rm Lg g2=q2:=⟨_,rfl⟩
 rw [mg_g1]at hgm1
 rw [mg_g2]at hgm2
 simp only [pm0,pwA,seval,-iQ0,mg_0,mg_1,mg_2,mg_3,mg_w1,mg_w2,mg_g1,mg_g2];refine CallM.pure ?_;simp only [pm0,pwA,seval,-iQ0];refine zAk hgm1 hgm2 szG szL (by omega) (by omega) ?_
 have hn1:¬(1+(totC G1 Z1:Int)<0):=by omega
 simp only [pm0,pwA,seval,-iQ0,hn1];refine CallM.pure ?_;simp only [pm0,pwA,seval,-iQ0];refine Qh hRr szr fun dOr dPr dCr dqr=>?_
 simp only [pm0,pwA,seval,-iQ0];refine CallM.pure ?_;simp only [pm0,pwA,seval,-iQ0];refine QU hl szl fun dvl dql=>?_
 simp only [pm0,pwA,seval,-iQ0];refine CallM.pure ?_;simp only [pm0,pwA,seval,-iQ0];refine zDh szr dqr dql szl fun k2 G2 Z2 f1 f2 c2 tz hz2 hG2 hL2 og2 hhz=>?_
 obtain⟨⟨rfl,rfl,rfl⟩,rfl⟩:=hz2.unique hz;simp only [pm0,pwA,seval,-iQ0,hG2.one,hL2.one,hL2.cells];refine CallM.pure ?_;simp only [pm0,pwA,seval,-iQ0];refine Qx hG2 hL2 hG0 hL0 szG szL fun t ht=>?_
 obtain rfl:=ht.2 ⟨rfl,rfl,rfl⟩;simp only [pm0,pwA,seval,-iQ0];refine CallM.pure ?_;simp only [pm0,pwA,seval,-iQ0];refine zAk hgm1 hgm2 szG szL (by omega) (by omega) ?_
 simp only [pm0,pwA,seval,-iQ0,hn1]
 rfl
end Go.Proofs
namespace Go.Proofs.YtjlpbpfaihhamaaGreat
open Go.ChangeShapes Go.WideShapes Go.ChangeAt Go.RowKit Go.Ab Go.Joins Go.Lie Go.Proofs
set_option maxRecDepth 100000 in
theorem zC7 {H:Type} {enc:TypeId×Value→H} (W:World) (base:Nat) (args:Array Value) (ds gs:List (DataW H)) (before:List MemPlace)
  (hval:∀(j:Nat) t v,Tryz.f4.params[j]? = some t→args[j]? = some v→Value.okWide Tryz.prog W .any base t v)
  (hW:DataW.Whole enc Tryz.prog Tryz.f4.params.toList Rows.fnExactProveSplitSpec.vars false W args.toList ds gs before):
  Calls Tryz.prog 4 args W fun e W'=>∃v,e=.returned v∧Rows.fnExactProveSplitSpec.post enc Tryz.prog Tryz.f4 false true false false W args v W':=by
 have hW':=hW;obtain⟨p,q,hA0,hV,rfl,hfz,hnd⟩:=hW;have hA:DataW.TrodAll enc Tryz.prog W 0 (fun _=>true) true Tryz.f4.params.toList args.toList ds p:=hA0
 rw [Tryz.params4]at hA hval
 obtain⟨v0,vs0,d0,ds0,p0,q0,hargs,rfl,rfl,t0,r0⟩:=trodAll_cons hA;obtain⟨v1,vs1,d1,ds1,p1,q1,rfl,rfl,rfl,t1,r1⟩:=trodAll_cons r0;obtain⟨rfl,rfl,rfl⟩:=trodAll_nil r1;obtain rfl:args = #[v0,v1]:=by cases args;simp_all
 obtain⟨j0,h0,vO0,vP0,vC0,O0,W0,C0,m0,l0,e0,i0,o0,R0,x0⟩:=layPr (MR.empty W) (hval 0 38 v0 rfl rfl) t0;obtain⟨n1,t1⟩:=t1;obtain⟨s1,s1',s1'',hv1⟩:=okWide_slice Tryz.underlying23 (hval 1 23 v1 rfl rfl);have hc1:v1.cells.toList=[v1]:=by rw [hv1];rfl
 rw [hc1]at t1
 obtain⟨j1,h1,vX1,X1,m1,l1,e1,i1,o1,_,R1,y1,z1⟩:=layII _ _ _ true n1 _ _ (m0) t1;have ac:=zMm (h:=h1) mix Tryz.func4 cf4 (args:=[.agg [vO0,vP0,vC0],vX1]) rfl m1.wf ⟨e1.vok o0,o1,trivial⟩ fun ha=>zCn R0 x0 R1 y1 z1 ha
 refine(ac.calls m1 (cargs:=#[v0,v1]) ⟨_,_,rfl,VI.mono l1 _ _ i0,_,_,rfl,i1,rfl⟩).mono fun e W' ⟨he,hb⟩=>?_
 exact⟨_,he,zGy rfl laidOut (by rw [Tryz.params4];intro t ht;simp only [List.mem_cons,List.not_mem_nil,or_false]at ht;rcases ht with rfl | rfl<;>exact⟨by kernel_rfl,of_decide_eq_true (by kernel_rfl)⟩) (by kernel_rfl) Tryz.underlying4 rfl hW' hb⟩
set_option maxRecDepth 100000 in
theorem zEj (os:Os) (started:os.Started) (H:Type) (enc:TypeId×Value→H):
  ReturnsInHanded {} Tryz.checked os 4 .any (Rows.fnExactProveSplitSpec.pre6 enc Tryz.prog Tryz.f4 Rows.fnExactProveSplitRow.domain false) (Rows.fnExactProveSplitSpec.post enc Tryz.prog Tryz.f4 false true false false):=by
 refine returnsInHanded_of_change (C:=Tryz.checked) own started (by kernel_rfl) Tryz.func4
  (ChangeSpec.witness6 (enc:=enc) (C:=Tryz.checked) false ⟨#[],#[.agg #[.slice none 0 0,.slice none 0 0,.slice none 0 0],.slice none 0 0],[]⟩ 8 (by kernel_rfl) (by kernel_rfl) (by kernel_rfl) (by kernel_rfl)) ?_
 intro W base args ds gs before hval hW _ _;exact zC7 W base args ds gs before hval hW
set_option maxRecDepth 100000 in
theorem zFN:Tryz.prog.funcNamed Rows.fnExactProveSplitRow.func=some 4:=by kernel_rfl
set_option maxRecDepth 100000 in
set_option maxHeartbeats 1600000 in
set_option maxRecDepth 100000 in
theorem zEk:joinedFacts Tryz.prog 4 Tryz.f4 Rows.fnExactProveSplitSpec Rows.fnExactProveSplitRow=true:=by
 unfold joinedFacts;simp only [Bool.and_eq_true]
 repeat' apply And.intro
 all_goals (as_aux_lemma=>kernel_rfl)
theorem proveSplitProved:Rows.FnExactProveSplitSaid:=
 OpenClaim.holds_of_wide 4 Tryz.f4 rfl rfl rfl rfl rfl rfl rfl ⟨rfl,rfl,rfl,rfl,rfl⟩ rfl rfl rfl rfl rfl zFN Tryz.func4 zEk
  (of_decide_eq_true (by kernel_rfl)) (by unfold Func.isWrapper;first | (rw [if_pos (by decide +kernel)];kernel_rfl) | (rw [if_neg (by decide +kernel)];exact⟨rfl,rfl⟩))
  (fun os started H enc _=>zEj os started H enc)
end Go.Proofs.YtjlpbpfaihhamaaGreat
