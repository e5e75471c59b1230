/- The given statement on transposes (FnTransposes): its law holds for every input. -/
import Derived.Test.YtcooahfdjlhmdaaAP26
import Derived.Test.YtcooahfdjlhmdaaAP28
import Derived.Test.YtcooahfdjlhmdaaAP30
import Derived.Test.YtcooahfdjlhmdaaAP35
open Int renaming reduceNatCast'→iQ0
namespace Go.Grp
end Go.Grp
set_option linter.unusedSimpArgs false
set_option linter.unusedVariables false
namespace Go.Proofs
open Go.Ab Go.Lie Go.Grp Go.Mx
variable {σ:PHeap} {K:PV→PHeap→Prop} {vC:PV} {bs:List Int}
theorem SzL.nil:SzL []:=⟨by simp,fun x hx=>by cases hx⟩
theorem isMx.sz {p c:Int} {F:List (List Int)} (h:isMx p c F):SzL F:=by
 obtain⟨n,rfl,hn,hp,hl,hA⟩:=mx_n h;exact⟨by omega,fun r hr=>by rw [(hA r hr).len];omega⟩
theorem zBe (hb:FB vC bs) (hbd:∀b∈bs,0≤b∧b≤255) (hk:∀σ',K (.bool true) σ'):zC Try.prog 3 [vC] σ K:=by
 have hb1:=hb.one;have hb2:=hb.cells;refine Zq mix Try.func3 cf3 rfl ?_;dsimp only [if3,eI,mI0,tI0,LI0,bI0,cI0,eI0,C1,C2,I0,G0,gm0,oI0,aI0,vI0,R0,S0];simp only [pwA,seval,-iQ0,hb1];refine zIh hb fun t ht=>?_
 cases t with
 | true=>
  simp only [pwA,seval,-iQ0];exact hk _
 | false=>
 have hlen:bs.length≤4096:=by
  rcases Nat.lt_or_ge 4096 bs.length with e|e
  ·have:=ht.2 e;cases this
  ·exact e
 clear ht;have hB:Byt bs:=⟨by omega,hbd⟩
 simp only [pwA,seval,-iQ0,hb1];refine Qc hb hB fun p c zA A p' c' zB B hA dm hB' dm'=>?_
 have a1:=hA.one;have b1:=hB'.one;simp only [pwA,seval,-iQ0,a1,b1];refine QC hA dm.sz hB' dm'.sz fun vX hX=>?_
 have x1:=hX.one;simp only [pwA,seval,-iQ0,x1];refine zBd hA dm.sz hB' dm'.sz fun vY hY=>?_
 have y1:=hY.one
 by_cases hm:isMx p c A∧isMx p' c' B
 rotate_left
 ·have e:mpRes p c A p' c' B=((0,0,[]),1):=by unfold mpRes;rw [if_neg hm]
  rw [e]at hX hY ⊢
  simp only [pwA,seval,-iQ0,x1,y1];refine Z6 hX hY SzL.nil fun t ht=>?_
  obtain rfl:t=true:=ht.2 ⟨rfl,rfl,rfl⟩;simp only [pwA,seval,-iQ0];exact hk _
 by_cases hf:p=p'∧(B.length:Int)=c
 rotate_left
 ·have e:mpRes p c A p' c' B=((0,0,[]),2):=by unfold mpRes;rw [if_pos hm,if_neg hf]
  rw [e]at hX hY ⊢
  simp only [pwA,seval,-iQ0,x1,y1];refine Z6 hX hY SzL.nil fun t ht=>?_
  obtain rfl:t=true:=ht.2 ⟨rfl,rfl,rfl⟩;simp only [pwA,seval,-iQ0];exact hk _
 obtain⟨hmA,hmB⟩:=hm;obtain⟨rfl,rfl⟩:=hf;obtain⟨n,rfl,hn,hp,hlB,hMB⟩:=mx_n hmB;obtain⟨m,em,hm8,_,hlA,hMA⟩:=mx_n hmA;obtain rfl:B.length=m:=by omega
 clear em;have hp0:0<p:=by have:=hp.bd;omega
 have e:mpRes p B.length A p n B=((p,(n:Int),mm p n A B),0):=by unfold mpRes;rw [if_pos ⟨hmA,hmB⟩,if_pos ⟨rfl,rfl⟩];rfl
 rw [e]at hX hY ⊢
 have hmm:=mm_ma hp0 hMA hMB;have hml:(mm p n A B).length=A.length:=qC;have hmC:isMx p n (mm p n A B):=⟨hp,by omega,by omega,by simpa using hmm⟩
 have tA:=ZG hp0 hMA;have tB:=ZG hp0 hMB;have hmAt:isMx p A.length (trm B.length A):=⟨hp,by omega,by rw [zN];omega,by simpa using tA⟩
 have hmBt:isMx p B.length (trm n B):=⟨hp,by omega,by rw [zN];omega,by simpa using tB⟩
 simp only [pwA,seval,-iQ0,x1,y1];refine Z6 hX hY hmC.sz fun t ht=>?_
 obtain rfl:t=true:=ht.2 ⟨rfl,rfl,rfl⟩;simp only [pwA,seval,-iQ0];refine qo hmA hA fun vAt hAt=>?_
 have at1:=hAt.one;simp only [pwA,seval,-iQ0,at1];refine qo hmB hB' fun vBt hBt=>?_
 have bt1:=hBt.one;simp only [pwA,seval,-iQ0,bt1];refine qo hmC hX fun vCt hCt=>?_
 have ct1:=hCt.one;simp only [pwA,seval,-iQ0,ct1];refine QC hBt hmBt.sz hAt hmAt.sz fun vD hD=>?_
 have d1:=hD.one;have e2:mpRes p B.length (trm n B) p A.length (trm B.length A)=((p,(A.length:Int),mm p A.length (trm n B) (trm B.length A)),0):=by
  unfold mpRes;rw [if_pos ⟨hmBt,hmAt⟩,if_pos ⟨rfl,by rw [zN]⟩]
  rfl
 rw [e2]at hD ⊢
 rw [hml];have eq:=zIJ hp0 hMA hMB;have hmD:SzL (trm n (mm p n A B)):=⟨by rw [zN];omega,fun r hr=>by
  have:=ZG hp0 hmm
  rw [(this r hr).len];omega⟩
 simp only [pwA,seval,-iQ0,d1];refine Z6 hCt hD hmD fun t ht=>?_
 obtain rfl:t=true:=ht.2 ⟨rfl,rfl,eq⟩;simp only [pwA,seval,-iQ0];refine Q8 hmA hA fun vU u hU hu=>?_
 have u1:=hU.one;simp only [pwA,seval,-iQ0,u1];refine Q8 hmAt hAt fun vW w hW hw=>?_
 have w1:=hW.one;have hr:=zHf hp hMA hu hw;have lu:pLen vU=some (.int .i64 u.length):=by obtain⟨w,a,r,rfl,_⟩:=hU;rfl
 have lw:pLen vW=some (.int .i64 u.length):=by obtain⟨w,a,r,rfl,_⟩:=hW;rw [←hr];rfl
 simp only [pwA,seval,-iQ0,w1,lu,lw];exact hk _
end Go.Proofs
namespace Go.Proofs.Ytcooahfdjlhmdaa
open Go.ChangeShapes Go.WideShapes Go.ChangeAt Go.RowKit Go.Ab Go.Joins Go.Lie Go.Proofs
set_option maxRecDepth 100000 in
theorem Qi {H:Type} {enc:TypeId×Value→H} (W:World) (base:Nat) (args:Array Value) (ds gs:List (DataW H)) (before:List MemPlace)
  (hval:∀(j:Nat) t v,Try.f3.params[j]? = some t→args[j]? = some v→Value.okWide Try.prog W .any base t v)
  (hW:DataW.Whole enc Try.prog Try.f3.params.toList Rows.fnTransposesSpec.vars false W args.toList ds gs before):
  Calls Try.prog 3 args W fun e W'=>∃v,e=.returned v∧Rows.fnTransposesSpec.post enc Try.prog Try.f3 false true false false W args v W':=by
 have hW':=hW;obtain⟨p,q,hA0,hV,rfl,hfz,hnd⟩:=hW;have hA:DataW.TrodAll enc Try.prog W 0 (fun _=>true) true Try.f3.params.toList args.toList ds p:=hA0
 rw [Try.params3]at hA hval
 obtain⟨v0,vs0,d0,ds0,p0,q0,hargs,rfl,rfl,t0,r0⟩:=trodAll_cons hA;obtain⟨rfl,rfl,rfl⟩:=trodAll_nil r0;obtain rfl:args = #[v0]:=by cases args;simp_all
 obtain⟨n0,t0⟩:=t0;obtain⟨s0,s0',s0'',hv0⟩:=okWide_slice Try.underlying22 (hval 0 22 v0 rfl rfl);have hc0:v0.cells.toList=[v0]:=by rw [hv0];rfl
 rw [hc0]at t0
 obtain⟨j0,h0,vX0,X0,m0,l0,e0,i0,o0,_,R0,y0⟩:=layB _ _ _ true n0 _ _ (MR.empty W) t0;have pc:zC Try.prog 3 [vX0] (PHeap.start h0) (fun v _=>v=.bool true):=zBe R0 y0 (fun _=>rfl)
 have ac:=pc.law m0.wf ⟨o0,trivial⟩;refine(ac.calls m0 (cargs:=#[v0]) ⟨_,_,rfl,i0,rfl⟩).mono fun e W' ⟨he,hb⟩=>?_
 exact⟨_,he,zCL rfl laidOut (by rw [Try.params3];intro t ht;simp only [List.mem_cons,List.not_mem_nil,or_false]at ht;rcases ht with rfl<;>exact⟨by kernel_rfl,of_decide_eq_true (by kernel_rfl)⟩) (by kernel_rfl) Try.underlying4 rfl hW' hb⟩
set_option maxRecDepth 100000 in
theorem zAj (os:Os) (started:os.Started) (H:Type) (enc:TypeId×Value→H):
  ReturnsInHanded {} Try.checked os 3 .any (Rows.fnTransposesSpec.pre6 enc Try.prog Try.f3 Rows.fnTransposesRow.domain false) (Rows.fnTransposesSpec.post enc Try.prog Try.f3 false true false false):=by
 refine returnsInHanded_of_change (C:=Try.checked) own started (by kernel_rfl) Try.func3
  (ChangeSpec.witness6 (enc:=enc) (C:=Try.checked) false ⟨#[],#[.slice none 0 0],[]⟩ 8 (by kernel_rfl) (by kernel_rfl) (by kernel_rfl) (by kernel_rfl)) ?_
 intro W base args ds gs before hval hW _ _;exact Qi W base args ds gs before hval hW
set_option maxRecDepth 100000 in
theorem zA2:Try.prog.funcNamed Rows.fnTransposesRow.func=some 3:=by kernel_rfl
set_option maxRecDepth 100000 in
set_option maxHeartbeats 1600000 in
set_option maxRecDepth 100000 in
theorem zAk:joinedFacts Try.prog 3 Try.f3 Rows.fnTransposesSpec Rows.fnTransposesRow=true:=by
 unfold joinedFacts;simp only [Bool.and_eq_true]
 repeat' apply And.intro
 all_goals (as_aux_lemma=>kernel_rfl)
theorem transposesProved:Rows.FnTransposesSaid:=
 OpenClaim.holds_of_wide 3 Try.f3 rfl rfl rfl rfl rfl rfl rfl ⟨rfl,rfl,rfl,rfl,rfl⟩ rfl rfl rfl rfl rfl zA2 Try.func3 zAk
  (of_decide_eq_true (by kernel_rfl)) (by unfold Func.isWrapper;first | (rw [if_pos (by decide +kernel)];kernel_rfl) | (rw [if_neg (by decide +kernel)];exact⟨rfl,rfl⟩))
  (fun os started H enc _=>zAj os started H enc)
end Go.Proofs.Ytcooahfdjlhmdaa
