/- The program's ImageSubspace returns what the reference's returns, for all arguments: the statement that is given. -/
import Derived.Test.YtcooahfdjlhmdaaEP26
import Derived.Test.YtcooahfdjlhmdaaEP28
import Derived.Test.YtcooahfdjlhmdaaEP30
import Derived.Test.YtcooahfdjlhmdaaEP36
open Int renaming reduceNatCast'→iQ0
namespace Go.Grp
end Go.Grp
set_option linter.unusedSimpArgs false
set_option linter.unusedVariables false
namespace Go.Proofs
open Go.Ab Go.Lie Go.Grp Go.Mx
theorem Qq {h:AHeap} {pa da:Int} {Fa:List (List Int)} {vFa:PV} (hFa:FII vFa Fa) (mxa:Fa.length≤9223372036854775807) (mya:∀x∈Fa,x.length≤9223372036854775807) {pb db:Int} {Fb:List (List Int)} {vFb:PV} (hFb:FII vFb Fb) (mxb:Fb.length≤9223372036854775807) (myb:∀x∈Fb,x.length≤9223372036854775807) (ha:∀o∈eads [.agg [.int .i64 pa,.int .i64 da,vFa],.agg [.int .i64 pb,.int .i64 db,vFb]],o<h.next):
  vm Try.prog if4.body (retP if4.res zBU) (PEnv.mk if4.params [.agg [.int .i64 pa,.int .i64 da,vFa],.agg [.int .i64 pb,.int .i64 db,vFb]]) (PHeap.start h):=by
 have h3a:=hFa.one;have h3b:=hFb.one;have havFa:∀o∈ead vFa,o<h.next:=fun o ho=>ha o (by simp [eads,ead,ho])
 have havFb:∀o∈ead vFb,o<h.next:=fun o ho=>ha o (by simp [eads,ead,ho])
 dsimp only [if4,eI,qD,eD,mI0,kI0,tI0,LI0,bI0,cI0,nI0,eI0,C1,C2,mD0,G0,gm0,oI0,vI0,wD0,R0,S0];simp only [pm0,pwA,seval,-iQ0,h3a,h3b];refine CallM.pure ?_;simp only [pm0,pwA,seval,-iQ0];refine zBe hFa mxa mya (by unfold left_;omega) fun ra hr=>?_
 rcases hr with rfl|⟨la,sza⟩
 ·simp only [pm0,pwA,seval,-iQ0]
  rfl
 have hra:¬ra<0:=by unfold left_ at la;omega
 simp only [pm0,pwA,seval,-iQ0,hra];refine CallM.pure ?_;simp only [pm0,pwA,seval,-iQ0];refine zBe hFb mxb myb la fun rb hr=>?_
 rcases hr with rfl|⟨lb,szb⟩
 ·simp only [pm0,pwA,seval,-iQ0]
  rfl
 have hrb:¬rb<0:=by unfold left_ at lb;omega
 simp only [pm0,pwA,seval,-iQ0,hrb];refine Zc hFa sza fun aFa aqa=>?_
 simp only [pm0,pwA,seval,-iQ0];refine Zc hFb szb fun aFb aqb=>?_
 simp only [pm0,pwA,seval,-iQ0];refine zCB aqa sza aqb szb fun w0 za zb z c hz hw0=>?_
 have hzb:=im_bd hz;simp only [pm0,pwA,seval,-iQ0,hw0.one,hw0.cells];refine CallM.topH fun t0 ht0 hb0 hbh=>?_
 have bw:∀o∈ead w0,o<t0:=fun o ho=>hbh ((PHeap.start h).next+2) [.int .i64 za,.int .i64 zb,w0] (by simp only [pm0,pwA,seval,-iQ0]) o (by simp [eads,ead,ho])
 simp only [zD7,zGf]at ht0
 refine CallM.pure ?_;simp only [pm0,pwA,seval,-iQ0];refine zCG hFa sza fun xFa t1 qa oa hh1=>?_
 simp only [zBP]at oa hh1
 simp only [pm0,pwA,seval,-iQ0,qa.one,qa.cells,up_up];refine CallM.pure ?_;simp only [pm0,pwA,seval,-iQ0];refine zCG hFb szb fun xFb t2 qb ob hh2=>?_
 simp only [zBP]at ob hh2
 simp only [pm0,pwA,seval,-iQ0,qb.one,qb.cells,up_up];refine CallM.pure ?_;simp only [pm0,pwA,seval,-iQ0];refine Qp qa sza qb szb fun g0 ya yb z' c' t3 hz' hg0 og hh3=>?_
 simp only [zBP]at og hh3
 have hzz:=Img.unique hz' hz;cases hzz;simp only [pm0,pwA,seval,-iQ0,hg0.one,hg0.cells];refine CallM.pure ?_;simp only [pm0,pwA,seval,-iQ0];refine Zt hg0 hw0 hzb fun t ht=>?_
 obtain rfl:=ht.2 ⟨rfl,rfl,rfl⟩;simp only [pm0,pwA,seval,-iQ0];refine Zc hFa sza fun b1a sa=>?_
 simp only [pm0,pwA,seval,-iQ0];refine Zt qa sa sza fun t ht=>?_
 obtain rfl:=ht.2 ⟨rfl,rfl,rfl⟩;simp only [pm0,pwA,seval,-iQ0];refine Zc hFb szb fun b1b sb=>?_
 simp only [pm0,pwA,seval,-iQ0];refine Zt qb sb szb fun t ht=>?_
 obtain rfl:=ht.2 ⟨rfl,rfl,rfl⟩;simp only [pm0,pwA,seval,-iQ0];have hbta:=zAq sza;have hbtb:=zAq szb;refine CallM.mark' (by simp only [pm0,pwA,seval,-iQ0]) (zA0 (p:=pa) (d:=da) (k:=1) qa oa sza (by omega) (by omega)) ?_
 have k0:=keysX (k:=1) qa oa;generalize mkF mkI List.length (1) xFa Fa=L1 at *
 have m0_0:rm L1 vFa=vFa:=Zg k0 fun o ho=>.inl (by have:=havFa o ho;omega)
 have m0_1:rm L1 vFb=vFb:=Zg k0 fun o ho=>.inl (by have:=havFb o ho;omega)
 have m0_w0:rm L1 w0=w0:=Zg k0 fun o ho=>.inl (by have:=bw o ho;omega)
 have m0_b:rms L1 [.int .i64 pb,.int .i64 db,xFb]=[.int .i64 pb,.int .i64 db,xFb]:=QN fun o ho=>qf.2 fun hm=>by have:=k0 o hm;have:=ob.lt o ho;omega
 have m0_g0:rm L1 g0=g0:=Zg k0 fun o ho=>.inr (by have:=og.lt o ho;omega)
 simp only [pm0,pwA,seval,-iQ0,m0_0,m0_1,m0_w0,m0_b,m0_g0];refine CallM.mark' (by simp only [pm0,pwA,seval,-iQ0]) (zA0 (p:=pb) (d:=db) (k:=1+(totL List.length Fa:Int)) qb ob szb (by omega) (by omega)) ?_
 have k1:=keysX (k:=1+(totL List.length Fa:Int)) qb ob;generalize mkF mkI List.length (1+(totL List.length Fa:Int)) xFb Fb=L2 at *
 have m1_0:rm L2 vFa=vFa:=Zg k1 fun o ho=>.inl (by have:=havFa o ho;omega)
 have m1_1:rm L2 vFb=vFb:=Zg k1 fun o ho=>.inl (by have:=havFb o ho;omega)
 have m1_w0:rm L2 w0=w0:=Zg k1 fun o ho=>.inl (by have:=bw o ho;omega)
 have m1_g0:rm L2 g0=g0:=Zg k1 fun o ho=>.inr (by have:=og.lt o ho;omega)
 have hn:¬(1+(totL List.length Fa:Int)+(totL List.length Fb:Int)<0):=by omega
 simp only [pm0,pwA,seval,-iQ0,m1_0,m1_1,m1_w0,m1_g0,hn];refine CallM.pure ?_;simp only [pm0,pwA,seval,-iQ0];refine Zt hg0 hw0 hzb fun t ht=>?_
 obtain rfl:=ht.2 ⟨rfl,rfl,rfl⟩;simp only [pm0,pwA,seval,-iQ0];have hzt:=zAq hzb;refine CallM.mark' (by simp only [pm0,pwA,seval,-iQ0]) (zDZ (p:=za) (d:=zb) (k:=1) hg0 og hzb (by omega) (by omega)) ?_
 have kg:=zMO (k:=1) hg0 og;have hgm:=zLU (k:=1) hg0 og;generalize mkF mkI List.length 1 g0 z=Lg at *
 have mg_0:rm Lg vFa=vFa:=Zg kg fun o ho=>.inl (by have:=havFa o ho;omega)
 have mg_1:rm Lg vFb=vFb:=Zg kg fun o ho=>.inl (by have:=havFb o ho;omega)
 have mg_w0:rm Lg w0=w0:=Zg kg fun o ho=>.inl (by have:=bw o ho;omega)
 obtain⟨g1,mg_g⟩:∃g1,rm Lg g0=g1:=⟨_,rfl⟩
 rw [mg_g]at hgm
 simp only [pm0,pwA,seval,-iQ0,mg_0,mg_1,mg_w0,mg_g];refine CallM.pure ?_;simp only [pm0,pwA,seval,-iQ0];refine zAh hgm hzb (by omega) (by omega) ?_
 have hn1:¬(1+(totL List.length z:Int)<0):=by omega
 simp only [pm0,pwA,seval,-iQ0,hn1];refine Zc hFa sza fun dFa dqa=>?_
 simp only [pm0,pwA,seval,-iQ0];refine Zc hFb szb fun dFb dqb=>?_
 simp only [pm0,pwA,seval,-iQ0];refine Qp dqa sza dqb szb fun g2 xa xb z2 c2 tz hz2 hg2 og2 hhz=>?_
 have hzz:=Img.unique hz2 hz;cases hzz;simp only [pm0,pwA,seval,-iQ0,hg2.one,hg2.cells];refine CallM.pure ?_;simp only [pm0,pwA,seval,-iQ0];refine Zt hg2 hw0 hzb fun t ht=>?_
 obtain rfl:=ht.2 ⟨rfl,rfl,rfl⟩;simp only [pm0,pwA,seval,-iQ0];refine CallM.pure ?_;simp only [pm0,pwA,seval,-iQ0];refine zAh hgm hzb (by omega) (by omega) ?_
 simp only [pm0,pwA,seval,-iQ0,hn1]
 rfl
end Go.Proofs
namespace Go.Proofs.Ytcooahfdjlhmdaa
open Go.ChangeShapes Go.WideShapes Go.ChangeAt Go.RowKit Go.Ab Go.Joins Go.Lie Go.Proofs
set_option maxRecDepth 100000 in
theorem zAE {H:Type} {enc:TypeId×Value→H} (W:World) (base:Nat) (args:Array Value) (ds gs:List (DataW H)) (before:List MemPlace)
  (hval:∀(j:Nat) t v,Try.f4.params[j]? = some t→args[j]? = some v→Value.okWide Try.prog W .any base t v)
  (hW:DataW.Whole enc Try.prog Try.f4.params.toList Rows.fnExactImageSubspaceSpec.vars false W args.toList ds gs before):
  Calls Try.prog 4 args W fun e W'=>∃v,e=.returned v∧Rows.fnExactImageSubspaceSpec.post enc Try.prog Try.f4 false true false false W args v W':=by
 have hW':=hW;obtain⟨p,q,hA0,hV,rfl,hfz,hnd⟩:=hW;have hA:DataW.TrodAll enc Try.prog W 0 (fun _=>true) true Try.f4.params.toList args.toList ds p:=hA0
 rw [Try.params4]at hA hval
 obtain⟨v0,vs0,d0,ds0,p0,q0,hargs,rfl,rfl,t0,r0⟩:=trodAll_cons hA;obtain⟨v1,vs1,d1,ds1,p1,q1,rfl,rfl,rfl,t1,r1⟩:=trodAll_cons r0;obtain⟨rfl,rfl,rfl⟩:=trodAll_nil r1;obtain rfl:args = #[v0,v1]:=by cases args;simp_all
 obtain⟨j0,h0,p0,dd0,vA0,As0,m0,l0,e0,i0,o0,R0,x0,xx0⟩:=layMx (MR.empty W) (hval 0 33 v0 rfl rfl) t0;obtain⟨j1,h1,p1,dd1,vA1,As1,m1,l1,e1,i1,o1,R1,x1,xx1⟩:=layMx (m0) (hval 1 33 v1 rfl rfl) t1;have ac:=zIb (h:=h1) mix Try.func4 cf4 (args:=[.agg [.int .i64 p0,.int .i64 dd0,vA0],.agg [.int .i64 p1,.int .i64 dd1,vA1]]) rfl m1.wf ⟨e1.vok o0,o1,trivial⟩ fun ha=>Qq R0 x0 xx0 R1 x1 xx1 ha
 refine(ac.calls m1 (cargs:=#[v0,v1]) ⟨_,_,rfl,VI.mono l1 _ _ i0,_,_,rfl,i1,rfl⟩).mono fun e W' ⟨he,hb⟩=>?_
 exact⟨_,he,zDV rfl laidOut (by rw [Try.params4];intro t ht;simp only [List.mem_cons,List.not_mem_nil,or_false]at ht;rcases ht with rfl | rfl<;>exact⟨by kernel_rfl,of_decide_eq_true (by kernel_rfl)⟩) (by kernel_rfl) Try.underlying4 rfl hW' hb⟩
set_option maxRecDepth 100000 in
theorem zAk (os:Os) (started:os.Started) (H:Type) (enc:TypeId×Value→H):
  ReturnsInHanded {} Try.checked os 4 .any (Rows.fnExactImageSubspaceSpec.pre6 enc Try.prog Try.f4 Rows.fnExactImageSubspaceRow.domain false) (Rows.fnExactImageSubspaceSpec.post enc Try.prog Try.f4 false true false false):=by
 refine returnsInHanded_of_change (C:=Try.checked) own started (by kernel_rfl) Try.func4
  (ChangeSpec.witness6 (enc:=enc) (C:=Try.checked) false ⟨#[],#[.agg #[.int .i64 0,.int .i64 0,.slice none 0 0],.agg #[.int .i64 0,.int .i64 0,.slice none 0 0]],[]⟩ 8 (by kernel_rfl) (by kernel_rfl) (by kernel_rfl) (by kernel_rfl)) ?_
 intro W base args ds gs before hval hW _ _;exact zAE W base args ds gs before hval hW
set_option maxRecDepth 100000 in
theorem zA7:Try.prog.funcNamed Rows.fnExactImageSubspaceRow.func=some 4:=by kernel_rfl
set_option maxRecDepth 100000 in
set_option maxHeartbeats 1600000 in
set_option maxRecDepth 100000 in
theorem zAl:joinedFacts Try.prog 4 Try.f4 Rows.fnExactImageSubspaceSpec Rows.fnExactImageSubspaceRow=true:=by
 unfold joinedFacts;simp only [Bool.and_eq_true]
 repeat' apply And.intro
 all_goals (as_aux_lemma=>kernel_rfl)
theorem imageSubspaceProved:Rows.FnExactImageSubspaceSaid:=
 OpenClaim.holds_of_wide 4 Try.f4 rfl rfl rfl rfl rfl rfl rfl ⟨rfl,rfl,rfl,rfl,rfl⟩ rfl rfl rfl rfl rfl zA7 Try.func4 zAl
  (of_decide_eq_true (by kernel_rfl)) (by unfold Func.isWrapper;first | (rw [if_pos (by decide +kernel)];kernel_rfl) | (rw [if_neg (by decide +kernel)];exact⟨rfl,rfl⟩))
  (fun os started H enc _=>zAk os started H enc)
end Go.Proofs.Ytcooahfdjlhmdaa
