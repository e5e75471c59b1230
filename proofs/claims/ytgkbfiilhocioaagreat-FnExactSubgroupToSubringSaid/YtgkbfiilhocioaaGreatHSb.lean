/- . -/
import Derived.Test.YtgkbfiilhocioaaGreatHP9
open Int renaming reduceNatCast'->ae
set_option linter.unusedSimpArgs false
set_option linter.unusedVariables false
namespace Go.Proofs
open Go.Ab Go.Lie
theorem zA5{h:AHeap}{pr:Int}{Wr:L4}{Br:L5}{kv kx:PV}(nq:IsR kv kx Wr Br)(Ad:MxR Wr Br){u:L4}{vu:PV}(hu:FII vu u)(Ac:u.length<=9223372036854775807)(Aa:∀y∈u,y.length<=9223372036854775807)(ha:∀o∈eads [.agg [.int .i64 pr,kv,kx],vu],o<h.next):
  vm Tryz.prog if4.body (retP if4.res zDx) (PEnv.mk if4.params [.agg [.int .i64 pr,kv,kx],vu]) (PHeap.start h):=by
 have Cj:=nq.P.one;have Ch:=nq.B.one;have j5:∀o∈ead kv,o<h.next:=λo ho=>ha o (by simp[eads,ead,ho]);have j6:∀o∈ead kx,o<h.next:=λo ho=>ha o (by simp[eads,ead,ho]);have nl:∀o∈ead vu,o<h.next:=λo ho=>ha o (by simp[eads,ead,ho]);dsimp only[if4,eI,qD,eD,mI0,kI0,tI0,LI0,bI0,cI0,nI0,eI0,C1,C2,G0,gm0,oI0,vI0,R0,S0];simp only[pm0,Z3,seval,-ae,Cj,Ch];refine CallM.pure ?_;simp only[pm0,Z3,seval,-ae];refine zHS nq Ad (by unfold left_;omega) λrr hr=>?_;rcases hr with rfl|⟨lr,fM⟩
 .simp only[pm0,Z3,seval,-ae];rfl
 have mM:¬rr<0:=by unfold left_ at lr;omega
 simp only[pm0,Z3,seval,-ae,mM];refine CallM.pure ?_;simp only[pm0,Z3,seval,-ae];refine zBY hu Ac Aa lr λru hr=>?_;rcases hr with rfl|⟨lu,eW⟩
 .simp only[pm0,Z3,seval,-ae];rfl
 have fG:¬ru<0:=by unfold left_ at lu;omega
 simp only[pm0,Z3,seval,-ae,fG];refine CallM.pure ?_;simp only[pm0,Z3,seval,-ae];refine zBX nq fM λD2 D3 CF=>?_;simp only[pm0,Z3,seval,-ae];refine CallM.pure ?_;simp only[pm0,Z3,seval,-ae];refine Qq hu eW λDZ CE=>?_;simp only[pm0,Z3,seval,-ae];refine CallM.pure ?_;simp only[pm0,Z3,seval,-ae];refine zPu CF fM CE eW λw0 z c hz oW=>?_;have ky:=hz.bd;simp only[pm0,Z3,seval,-ae];refine CallM.top λt0 nL kI=>?_;have bw:=kI 6;simp only[pm0,Z3,seval,-ae]at bw;simp only[zEg,zK5]at nL;refine CallM.pure ?_;simp only[pm0,Z3,seval,-ae];refine zIz nq fM λyE yF t1 qr or Bb=>?_;simp only[zBM]at or Bb;simp only[pm0,Z3,seval,-ae,qr.P.one,qr.B.one,up_up];refine CallM.pure ?_;simp only[pm0,Z3,seval,-ae];refine zCA hu eW λtA t2 qu ou Ba=>?_;simp only[zBM]at ou Ba;simp only[pm0,Z3,seval,-ae];refine CallM.pure ?_;simp only[pm0,Z3,seval,-ae];refine zIu qr fM qu eW λg0 z' c' t3 cU rf og A9=>?_;simp only[zBM]at og A9;obtain⟨rfl,rfl⟩:=cU.unique hz;simp only[pm0,Z3,seval,-ae];refine CallM.pure ?_;simp only[pm0,Z3,seval,-ae];refine QQ rf oW ky λt ht=>?_;obtain rfl:=ht.2 rfl;simp only[pm0,Z3,seval,-ae];refine zBX nq fM λDS DQ sr=>?_;simp only[pm0,Z3,seval,-ae];refine zIW qr sr fM λt ht=>?_;obtain rfl:=ht.2 ⟨rfl,rfl,rfl⟩;simp only[pm0,Z3,seval,-ae];refine CallM.pure ?_;simp only[pm0,Z3,seval,-ae];refine Qq hu eW λDR su=>?_;simp only[pm0,Z3,seval,-ae];refine CallM.pure ?_;simp only[pm0,Z3,seval,-ae];refine QQ qu su eW λt ht=>?_;obtain rfl:=ht.2 rfl;simp only[pm0,Z3,seval,-ae];have BG:=zQA fM;have BE:=zHN eW;refine CallM.mark' (by simp only[pm0,Z3,seval,-ae]) (zG6 (k:=1) qr or fM (by omega) (by omega)) ?_;have k0:=keysR (k:=1) qr or;generalize mkR (1) yE yF Wr Br=L1 at *
 have tY:rm L1 kv=kv:=Z7 k0 λo ho=>.inl (by have:=j5 o ho;omega);have tX:rm L1 kx=kx:=Z7 k0 λo ho=>.inl (by have:=j6 o ho;omega);have tW:rm L1 vu=vu:=Z7 k0 λo ho=>.inl (by have:=nl o ho;omega);have oJ:rm L1 w0=w0:=Z7 k0 λo ho=>.inl (by have:=bw o ho;omega);have tV:rm L1 tA=tA:=Z7 k0 λo ho=>.inr (by have:=ou.lt o ho;omega);have oK:rm L1 g0=g0:=Z7 k0 λo ho=>.inr (by have:=og.lt o ho;omega);simp only[pm0,Z3,seval,-ae,tY,tX,tW,oJ,tV,oK];refine CallM.mark' (by simp only[pm0,Z3,seval,-ae]) (zC4 (k:=1+(totR Wr Br:Int)) qu ou (by have:=eW.l;omega) (λy hy=>by have:=eW.r y hy;omega) (by omega) (by omega)) ?_;have k1:=zNX (k:=1+(totR Wr Br:Int)) qu ou;generalize mkF mkI List.length (1+(totR Wr Br:Int)) tA u=L2 at *
 have tU:rm L2 kv=kv:=Z7 k1 λo ho=>.inl (by have:=j5 o ho;omega);have tT:rm L2 kx=kx:=Z7 k1 λo ho=>.inl (by have:=j6 o ho;omega);have tS:rm L2 vu=vu:=Z7 k1 λo ho=>.inl (by have:=nl o ho;omega);have oG:rm L2 w0=w0:=Z7 k1 λo ho=>.inl (by have:=bw o ho;omega);have oH:rm L2 g0=g0:=Z7 k1 λo ho=>.inr (by have:=og.lt o ho;omega);have hn:¬(1+(totR Wr Br:Int)+(totL List.length u:Int)<0):=by omega
 simp only[pm0,Z3,seval,-ae,tU,tT,tS,oG,oH,hn];refine CallM.pure ?_;simp only[pm0,Z3,seval,-ae];refine QQ rf oW ky λt ht=>?_;obtain rfl:=ht.2 rfl;simp only[pm0,Z3,seval,-ae];have CZ:=zHN ky;refine CallM.mark' (by simp only[pm0,Z3,seval,-ae]) (zC4 (k:=1) rf og (by have:=ky.l;omega) (λy hy=>by have:=ky.r y hy;omega) (by omega) (by omega)) ?_;have kg:=zNX (k:=1) rf og;have qn:=mkT_I.F.rd (k:=1) rf og.wh og.nd;generalize mkF mkI List.length 1 g0 z'=Lg at *
 have tQ:rm Lg kv=kv:=Z7 kg λo ho=>.inl (by have:=j5 o ho;omega);have tP:rm Lg kx=kx:=Z7 kg λo ho=>.inl (by have:=j6 o ho;omega);have tO:rm Lg vu=vu:=Z7 kg λo ho=>.inl (by have:=nl o ho;omega);have oE:rm Lg w0=w0:=Z7 kg λo ho=>.inl (by have:=bw o ho;omega);obtain⟨g1,oF⟩:∃g1,rm Lg g0=g1:=⟨_,rfl⟩
 rw[oF]at qn;simp only[pm0,Z3,seval,-ae,tQ,tP,tO,oE,oF];refine CallM.pure ?_;simp only[pm0,Z3,seval,-ae];refine zCU qn (by have:=ky.l;omega) (λy hy=>by have:=ky.r y hy;omega) (by omega) (by omega) ?_;have jo:¬(1+(totL List.length z':Int)<0):=by omega
 simp only[pm0,Z3,seval,-ae,jo];refine CallM.pure ?_;simp only[pm0,Z3,seval,-ae];refine zBX nq fM λDJ DK CB=>?_;simp only[pm0,Z3,seval,-ae];refine CallM.pure ?_;simp only[pm0,Z3,seval,-ae];refine Qq hu eW λDF CA=>?_;simp only[pm0,Z3,seval,-ae];refine CallM.pure ?_;simp only[pm0,Z3,seval,-ae];refine zIu CB fM CA eW λg2 z2 c2 tz cK nX CV Dq=>?_;obtain⟨rfl,rfl⟩:=cK.unique hz;simp only[pm0,Z3,seval,-ae];refine CallM.pure ?_;simp only[pm0,Z3,seval,-ae];refine QQ nX oW ky λt ht=>?_;obtain rfl:=ht.2 rfl;simp only[pm0,Z3,seval,-ae];refine CallM.pure ?_;simp only[pm0,Z3,seval,-ae];refine zCU qn (by have:=ky.l;omega) (λy hy=>by have:=ky.r y hy;omega) (by omega) (by omega) ?_;simp only[pm0,Z3,seval,-ae,jo];rfl
end Go.Proofs
namespace Go.Proofs.YtgkbfiilhocioaaGreat
open Go.ChangeShapes Go.WideShapes Go.ChangeAt Go.RowKit Go.Ab Go.Joins Go.Lie Go.Proofs
set_option maxRecDepth 100000 in
theorem zBA{H:Type}{enc:TypeId×Value->H}(W:World)(base:Nat)(args:Array Value)(ds gs:List (DataW H))(before:List MemPlace)
  (fU:∀(j:Nat) t v,Tryz.f4.params[j]? = some t->args[j]? = some v->Value.okWide Tryz.prog W .any base t v)
  (hW:DataW.Whole enc Tryz.prog Tryz.f4.params.toList Rows.fnExactSubgroupToSubringSpec.vars false W args.toList ds gs before):
  Calls Tryz.prog 4 args W λe W'=>∃v,e=.returned v/\Rows.fnExactSubgroupToSubringSpec.post enc Tryz.prog Tryz.f4 false true false false W args v W':=by
 have wG:=hW;obtain⟨p,q,Cd,hV,rfl,Ds,c7⟩:=hW;have hA:DataW.TrodAll enc Tryz.prog W 0 (λ_=>true) true Tryz.f4.params.toList args.toList ds p:=Cd;rw[Tryz.params4]at hA fU;obtain⟨v0,xn,d0,DH,p0,q0,aM,rfl,rfl,t0,r0⟩:=trodAll_cons hA;obtain⟨v1,xm,d1,DG,p1,q1,rfl,rfl,rfl,t1,r1⟩:=trodAll_cons r0;obtain⟨rfl,rfl,rfl⟩:=trodAll_nil r1;obtain rfl:args = #[v0,v1]:=by cases args;simp_all
 obtain⟨j0,h0,a0,yM,yO,W0,B0,m0,l0,e0,i0,o0,R0,x0⟩:=zR2 (MR.empty W) (fU 0 25 v0 rfl rfl) t0;obtain⟨n1,t1⟩:=t1;obtain⟨s1,CN,yU,fB⟩:=okWide_slice Tryz.underlying22 (fU 1 22 v1 rfl rfl);have mb:v1.cells.toList=[v1]:=by rw[fB];rfl
 rw[mb]at t1;obtain⟨j1,h1,yK,X1,m1,l1,e1,i1,o1,_,R1,y1,z1⟩:=layII _ _ _ true n1 _ _ (m0) t1;have ac:=zNQ (h:=h1) mix Tryz.func4 cf4 (args:=[.agg [.int .i64 a0,yM,yO],yK]) rfl m1.wf ⟨e1.vok o0,o1,trivial⟩ λha=>zA5 R0 x0 R1 y1 z1 ha;refine(ac.calls m1 (cargs:=#[v0,v1]) ⟨_,_,rfl,VI.mono l1 _ _ i0,_,_,rfl,i1,rfl⟩).mono λe W' ⟨he,hb⟩=>?_;exact⟨_,he,zG2 rfl laidOut (by rw[Tryz.params4];intro t ht;simp only[List.mem_cons,List.not_mem_nil,or_false]at ht;rcases ht with rfl|rfl<;>exact⟨by kernel_rfl,of_decide_eq_true (by kernel_rfl)⟩) (by kernel_rfl) Tryz.underlying4 rfl wG hb⟩
set_option maxRecDepth 100000 in
theorem zBr(os:Os)(started:os.Started)(H:Type)(enc:TypeId×Value->H):
  ReturnsInHanded {} Tryz.checked os 4 .any (Rows.fnExactSubgroupToSubringSpec.pre6 enc Tryz.prog Tryz.f4 Rows.fnExactSubgroupToSubringRow.domain false) (Rows.fnExactSubgroupToSubringSpec.post enc Tryz.prog Tryz.f4 false true false false):=by
 refine returnsInHanded_of_change (C:=Tryz.checked) own started (by kernel_rfl) Tryz.func4
  (ChangeSpec.witness6 (enc:=enc) (C:=Tryz.checked) false ⟨#[],#[.agg #[.int .i64 0,.slice none 0 0,.slice none 0 0],.slice none 0 0],[]⟩ 8 (by kernel_rfl) (by kernel_rfl) (by kernel_rfl) (by kernel_rfl)) ?_
 intro W base args ds gs before fU hW _ _;exact zBA W base args ds gs before fU hW
set_option maxRecDepth 100000 in
theorem zCC:Tryz.prog.funcNamed Rows.fnExactSubgroupToSubringRow.func=some 4:=by kernel_rfl
set_option maxRecDepth 100000 in
set_option maxHeartbeats 1600000 in
set_option maxRecDepth 100000 in
theorem zBs:joinedFacts Tryz.prog 4 Tryz.f4 Rows.fnExactSubgroupToSubringSpec Rows.fnExactSubgroupToSubringRow=true:=by
 unfold joinedFacts;simp only[Bool.and_eq_true]
 repeat' apply And.intro
 all_goals (as_aux_lemma=>kernel_rfl)
theorem subgroupToSubringProved:Rows.FnExactSubgroupToSubringSaid:=
 OpenClaim.holds_of_wide 4 Tryz.f4 rfl rfl rfl rfl rfl rfl rfl ⟨rfl,rfl,rfl,rfl,rfl⟩ rfl rfl rfl rfl rfl zCC Tryz.func4 zBs
  (of_decide_eq_true (by kernel_rfl)) (by unfold Func.isWrapper;first|(rw[if_pos (by decide +kernel)];kernel_rfl)|(rw[if_neg (by decide +kernel)];exact⟨rfl,rfl⟩))
  (λos started H enc _=>zBr os started H enc)
end Go.Proofs.YtgkbfiilhocioaaGreat
