/- . -/
import Derived.Test.YtgkbfiilhocioaaGreatGP8
open Int renaming reduceNatCast'->ae
set_option linter.unusedSimpArgs false
set_option linter.unusedVariables false
namespace Go.Proofs
open Go.Ab Go.Lie
theorem zA2{h:AHeap}{pr:Int}{Wr:L4}{Br:L5}{jU jV:PV}(mO:IsR jU jV Wr Br)(yn:MxR Wr Br){u:L4}{vu:PV}(hu:FII vu u)(ym:u.length<=9223372036854775807)(yk:∀y∈u,y.length<=9223372036854775807)(ha:∀o∈eads [.agg [.int .i64 pr,jU,jV],vu],o<h.next):
  vm Tryz.prog if3.body (retP if3.res zDr) (PEnv.mk if3.params [.agg [.int .i64 pr,jU,jV],vu]) (PHeap.start h):=by
 have Bw:=mO.P.one;have Bu:=mO.B.one;have jJ:∀o∈ead jU,o<h.next:=λo ho=>ha o (by simp[eads,ead,ho]);have jK:∀o∈ead jV,o<h.next:=λo ho=>ha o (by simp[eads,ead,ho]);have mK:∀o∈ead vu,o<h.next:=λo ho=>ha o (by simp[eads,ead,ho]);dsimp only[if3,eI,qD,eD,mI0,kI0,tI0,LI0,bI0,cI0,nI0,eI0,C1,C2,G0,gm0,oI0,vI0,R0,S0];simp only[pm0,Z3,seval,-ae,Bw,Bu];refine CallM.pure ?_;simp only[pm0,Z3,seval,-ae];refine zHC mO yn (by unfold left_;omega) λrr hr=>?_;rcases hr with rfl|⟨lr,fe⟩
 .simp only[pm0,Z3,seval,-ae];rfl
 have mc:¬rr<0:=by unfold left_ at lr;omega
 simp only[pm0,Z3,seval,-ae,mc];refine CallM.pure ?_;simp only[pm0,Z3,seval,-ae];refine zBT hu ym yk lr λru hr=>?_;rcases hr with rfl|⟨lu,gu⟩
 .simp only[pm0,Z3,seval,-ae];rfl
 have fP:¬ru<0:=by unfold left_ at lu;omega
 simp only[pm0,Z3,seval,-ae,fP];refine CallM.pure ?_;simp only[pm0,Z3,seval,-ae];refine zBS mO fe λDj Dk BR=>?_;simp only[pm0,Z3,seval,-ae];refine CallM.pure ?_;simp only[pm0,Z3,seval,-ae];refine Qo hu gu λDg BQ=>?_;simp only[pm0,Z3,seval,-ae];refine CallM.pure ?_;simp only[pm0,Z3,seval,-ae];refine zPg BR fe BQ gu λw0 z c hz nV=>?_;have jW:=hz.bd;simp only[pm0,Z3,seval,-ae];refine CallM.top λt0 rI j4=>?_;have bw:=j4 6;simp only[pm0,Z3,seval,-ae]at bw;simp only[zEV,zKt]at rI;refine CallM.pure ?_;simp only[pm0,Z3,seval,-ae];refine zIk mO fe λxK xL t1 qr or Aq=>?_;simp only[zCF]at or Aq;simp only[pm0,Z3,seval,-ae,qr.P.one,qr.B.one,up_up];refine CallM.pure ?_;simp only[pm0,Z3,seval,-ae];refine zB1 hu gu λsy t2 qu ou Ap=>?_;simp only[zCF]at ou Ap;simp only[pm0,Z3,seval,-ae];refine CallM.pure ?_;simp only[pm0,Z3,seval,-ae];refine zIe qr fe qu gu λg0 z' c' t3 cq pa og Ao=>?_;simp only[zCF]at og Ao;obtain⟨rfl,rfl⟩:=cq.unique hz;simp only[pm0,Z3,seval,-ae];refine CallM.pure ?_;simp only[pm0,Z3,seval,-ae];refine QM pa nV jW λt ht=>?_;obtain rfl:=ht.2 rfl;simp only[pm0,Z3,seval,-ae];refine zBS mO fe λDa C8 sr=>?_;simp only[pm0,Z3,seval,-ae];refine zIF qr sr fe λt ht=>?_;obtain rfl:=ht.2 ⟨rfl,rfl,rfl⟩;simp only[pm0,Z3,seval,-ae];refine CallM.pure ?_;simp only[pm0,Z3,seval,-ae];refine Qo hu gu λC9 su=>?_;simp only[pm0,Z3,seval,-ae];refine CallM.pure ?_;simp only[pm0,Z3,seval,-ae];refine QM qu su gu λt ht=>?_;obtain rfl:=ht.2 rfl;simp only[pm0,Z3,seval,-ae];have AS:=zPw fe;have AQ:=zG7 gu;refine CallM.mark' (by simp only[pm0,Z3,seval,-ae]) (zGr (k:=1) qr or fe (by omega) (by omega)) ?_;have k0:=keysR (k:=1) qr or;generalize mkR (1) xK xL Wr Br=L1 at *
 have s6:rm L1 jU=jU:=Z5 k0 λo ho=>.inl (by have:=jJ o ho;omega);have s5:rm L1 jV=jV:=Z5 k0 λo ho=>.inl (by have:=jK o ho;omega);have s4:rm L1 vu=vu:=Z5 k0 λo ho=>.inl (by have:=mK o ho;omega);have nK:rm L1 w0=w0:=Z5 k0 λo ho=>.inl (by have:=bw o ho;omega);have sZ:rm L1 sy=sy:=Z5 k0 λo ho=>.inr (by have:=ou.lt o ho;omega);have nL:rm L1 g0=g0:=Z5 k0 λo ho=>.inr (by have:=og.lt o ho;omega);simp only[pm0,Z3,seval,-ae,s6,s5,s4,nK,sZ,nL];refine CallM.mark' (by simp only[pm0,Z3,seval,-ae]) (zCv (k:=1+(totR Wr Br:Int)) qu ou (by have:=gu.l;omega) (λy hy=>by have:=gu.r y hy;omega) (by omega) (by omega)) ?_;have k1:=zNG (k:=1+(totR Wr Br:Int)) qu ou;generalize mkF mkI List.length (1+(totR Wr Br:Int)) sy u=L2 at *
 have sY:rm L2 jU=jU:=Z5 k1 λo ho=>.inl (by have:=jJ o ho;omega);have sX:rm L2 jV=jV:=Z5 k1 λo ho=>.inl (by have:=jK o ho;omega);have sW:rm L2 vu=vu:=Z5 k1 λo ho=>.inl (by have:=mK o ho;omega);have nH:rm L2 w0=w0:=Z5 k1 λo ho=>.inl (by have:=bw o ho;omega);have nJ:rm L2 g0=g0:=Z5 k1 λo ho=>.inr (by have:=og.lt o ho;omega);have hn:¬(1+(totR Wr Br:Int)+(totL List.length u:Int)<0):=by omega
 simp only[pm0,Z3,seval,-ae,sY,sX,sW,nH,nJ,hn];refine CallM.pure ?_;simp only[pm0,Z3,seval,-ae];refine QM pa nV jW λt ht=>?_;obtain rfl:=ht.2 rfl;simp only[pm0,Z3,seval,-ae];have Cd:=zG7 jW;refine CallM.mark' (by simp only[pm0,Z3,seval,-ae]) (zCv (k:=1) pa og (by have:=jW.l;omega) (λy hy=>by have:=jW.r y hy;omega) (by omega) (by omega)) ?_;have kg:=zNG (k:=1) pa og;have o6:=mkT_I.F.rd (k:=1) pa og.wh og.nd;generalize mkF mkI List.length 1 g0 z'=Lg at *
 have sU:rm Lg jU=jU:=Z5 kg λo ho=>.inl (by have:=jJ o ho;omega);have sS:rm Lg jV=jV:=Z5 kg λo ho=>.inl (by have:=jK o ho;omega);have sR:rm Lg vu=vu:=Z5 kg λo ho=>.inl (by have:=mK o ho;omega);have nF:rm Lg w0=w0:=Z5 kg λo ho=>.inl (by have:=bw o ho;omega);obtain⟨g1,nG⟩:∃g1,rm Lg g0=g1:=⟨_,rfl⟩
 rw[nG]at o6;simp only[pm0,Z3,seval,-ae,sU,sS,sR,nF,nG];refine CallM.pure ?_;simp only[pm0,Z3,seval,-ae];refine zCM o6 (by have:=jW.l;omega) (λy hy=>by have:=jW.r y hy;omega) (by omega) (by omega) ?_;have iX:¬(1+(totL List.length z':Int)<0):=by omega
 simp only[pm0,Z3,seval,-ae,iX];refine CallM.pure ?_;simp only[pm0,Z3,seval,-ae];refine zBS mO fe λCX CY BM=>?_;simp only[pm0,Z3,seval,-ae];refine CallM.pure ?_;simp only[pm0,Z3,seval,-ae];refine Qo hu gu λCU BL=>?_;simp only[pm0,Z3,seval,-ae];refine CallM.pure ?_;simp only[pm0,Z3,seval,-ae];refine zIe BM fe BL gu λg2 z2 c2 tz cM mE B9 CD=>?_;obtain⟨rfl,rfl⟩:=cM.unique hz;simp only[pm0,Z3,seval,-ae];refine CallM.pure ?_;simp only[pm0,Z3,seval,-ae];refine QM mE nV jW λt ht=>?_;obtain rfl:=ht.2 rfl;simp only[pm0,Z3,seval,-ae];refine CallM.pure ?_;simp only[pm0,Z3,seval,-ae];refine zCM o6 (by have:=jW.l;omega) (λy hy=>by have:=jW.r y hy;omega) (by omega) (by omega) ?_;simp only[pm0,Z3,seval,-ae,iX];rfl
end Go.Proofs
namespace Go.Proofs.YtgkbfiilhocioaaGreat
open Go.ChangeShapes Go.WideShapes Go.ChangeAt Go.RowKit Go.Ab Go.Joins Go.Lie Go.Proofs
set_option maxRecDepth 100000 in
theorem zA7{H:Type}{enc:TypeId×Value->H}(W:World)(base:Nat)(args:Array Value)(ds gs:List (DataW H))(before:List MemPlace)
  (fG:∀(j:Nat) t v,Tryz.f3.params[j]? = some t->args[j]? = some v->Value.okWide Tryz.prog W .any base t v)
  (hW:DataW.Whole enc Tryz.prog Tryz.f3.params.toList Rows.fnExactSubringToSubgroupSpec.vars false W args.toList ds gs before):
  Calls Tryz.prog 3 args W λe W'=>∃v,e=.returned v/\Rows.fnExactSubringToSubgroupSpec.post enc Tryz.prog Tryz.f3 false true false false W args v W':=by
 have uZ:=hW;obtain⟨p,q,Bo,hV,rfl,CG,cV⟩:=hW;have hA:DataW.TrodAll enc Tryz.prog W 0 (λ_=>true) true Tryz.f3.params.toList args.toList ds p:=Bo;rw[Tryz.params3]at hA fG;obtain⟨v0,vN,d0,CW,p0,q0,aJ,rfl,rfl,t0,r0⟩:=trodAll_cons hA;obtain⟨v1,vM,d1,CV,p1,q1,rfl,rfl,rfl,t1,r1⟩:=trodAll_cons r0;obtain⟨rfl,rfl,rfl⟩:=trodAll_nil r1;obtain rfl:args = #[v0,v1]:=by cases args;simp_all
 obtain⟨j0,h0,a0,xU,xW,W0,B0,m0,l0,e0,i0,o0,R0,x0⟩:=zRp (MR.empty W) (fG 0 25 v0 rfl rfl) t0;obtain⟨n1,t1⟩:=t1;obtain⟨s1,B2,xZ,e7⟩:=okWide_slice Tryz.underlying22 (fG 1 22 v1 rfl rfl);have lK:v1.cells.toList=[v1]:=by rw[e7];rfl
 rw[lK]at t1;obtain⟨j1,h1,xR,X1,m1,l1,e1,i1,o1,_,R1,y1,z1⟩:=layII _ _ _ true n1 _ _ (m0) t1;have ac:=zM9 (h:=h1) mix Tryz.func3 cf3 (args:=[.agg [.int .i64 a0,xU,xW],xR]) rfl m1.wf ⟨e1.vok o0,o1,trivial⟩ λha=>zA2 R0 x0 R1 y1 z1 ha;refine(ac.calls m1 (cargs:=#[v0,v1]) ⟨_,_,rfl,VI.mono l1 _ _ i0,_,_,rfl,i1,rfl⟩).mono λe W' ⟨he,hb⟩=>?_;exact⟨_,he,zGn rfl laidOut (by rw[Tryz.params3];intro t ht;simp only[List.mem_cons,List.not_mem_nil,or_false]at ht;rcases ht with rfl|rfl<;>exact⟨by kernel_rfl,of_decide_eq_true (by kernel_rfl)⟩) (by kernel_rfl) Tryz.underlying4 rfl uZ hb⟩
set_option maxRecDepth 100000 in
theorem zBk(os:Os)(started:os.Started)(H:Type)(enc:TypeId×Value->H):
  ReturnsInHanded {} Tryz.checked os 3 .any (Rows.fnExactSubringToSubgroupSpec.pre6 enc Tryz.prog Tryz.f3 Rows.fnExactSubringToSubgroupRow.domain false) (Rows.fnExactSubringToSubgroupSpec.post enc Tryz.prog Tryz.f3 false true false false):=by
 refine returnsInHanded_of_change (C:=Tryz.checked) own started (by kernel_rfl) Tryz.func3
  (ChangeSpec.witness6 (enc:=enc) (C:=Tryz.checked) false ⟨#[],#[.agg #[.int .i64 0,.slice none 0 0,.slice none 0 0],.slice none 0 0],[]⟩ 8 (by kernel_rfl) (by kernel_rfl) (by kernel_rfl) (by kernel_rfl)) ?_
 intro W base args ds gs before fG hW _ _;exact zA7 W base args ds gs before fG hW
set_option maxRecDepth 100000 in
theorem zB4:Tryz.prog.funcNamed Rows.fnExactSubringToSubgroupRow.func=some 3:=by kernel_rfl
set_option maxRecDepth 100000 in
set_option maxHeartbeats 1600000 in
set_option maxRecDepth 100000 in
theorem zBl:joinedFacts Tryz.prog 3 Tryz.f3 Rows.fnExactSubringToSubgroupSpec Rows.fnExactSubringToSubgroupRow=true:=by
 unfold joinedFacts;simp only[Bool.and_eq_true]
 repeat' apply And.intro
 all_goals (as_aux_lemma=>kernel_rfl)
theorem subringToSubgroupProved:Rows.FnExactSubringToSubgroupSaid:=
 OpenClaim.holds_of_wide 3 Tryz.f3 rfl rfl rfl rfl rfl rfl rfl ⟨rfl,rfl,rfl,rfl,rfl⟩ rfl rfl rfl rfl rfl zB4 Tryz.func3 zBl
  (of_decide_eq_true (by kernel_rfl)) (by unfold Func.isWrapper;first|(rw[if_pos (by decide +kernel)];kernel_rfl)|(rw[if_neg (by decide +kernel)];exact⟨rfl,rfl⟩))
  (λos started H enc _=>zBk os started H enc)
end Go.Proofs.YtgkbfiilhocioaaGreat
