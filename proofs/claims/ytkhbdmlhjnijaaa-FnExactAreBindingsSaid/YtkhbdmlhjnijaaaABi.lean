/- The law of bindings: the statement that is given. -/
import Derived.Test.YtkhbdmlhjnijaaaAP26
import Derived.Test.YtkhbdmlhjnijaaaAP27
import Derived.Test.YtkhbdmlhjnijaaaAP29
import Derived.Test.YtkhbdmlhjnijaaaAP31
open Int renaming reduceNatCast'→iQ0
namespace Go.Grp
end Go.Grp
set_option linter.unusedSimpArgs false
set_option linter.unusedVariables false
namespace Go.Proofs
open Go.Ab Go.Lie Go.Grp Go.Mx
variable {σ:PHeap} {K:PV→PHeap→Prop} {G:List Bnd} {vG:PV}
theorem Z9 (hG:FB4 vG G) (mx:MxB G) (hk:∀σ',K (.bool true) σ'):
  zA Try.prog 4 [vG] σ K:=by
 have h0:=hG.one;refine qH mix Try.func4 cf4 rfl ?_;dsimp only [if4,qI,mI0,kI0,tI0,cI0,nI0,C1,C2,R0,S0];simp only [pwA,seval,-iQ0,h0];refine zBb hG mx (by unfold left_;omega) fun r h=>?_
 rcases h with rfl|⟨l1,sz⟩
 ·simp only [pwA,seval,-iQ0]
  exact hk _
 have:¬r<0:=by unfold left_ at l1;omega
 simp only [pwA,seval,-iQ0,this,h0];refine ZI hG sz fun a1 q1=>?_
 simp only [pwA,seval,-iQ0,h0,q1.one];refine Q5 q1 sz fun t ht=>?_
 simp only [pwA,seval,-iQ0,h0];refine ZI hG sz fun b1 r1=>?_
 simp only [pwA,seval,-iQ0,h0,r1.one];refine zBU r1 sz fun t2 ht2=>?_
 have ht3:t2=t:=by
  cases t<;>cases t2
  ·rfl
  ·exact absurd (ht.2 (ht2.1 rfl)) (by simp)
  ·exact absurd (ht2.2 (ht.1 rfl)) (by simp)
  ·rfl
 subst ht3;have hxor:(t2 != t2)=false:=by cases t2<;>rfl
 simp only [pwA,seval,-iQ0,beq_self_eq_true,hxor,h0,r1.one];refine ZI hG sz fun c1 s1=>?_
 simp only [pwA,seval,-iQ0,h0,r1.one];refine zBn r1 s1 sz fun t ht=>?_
 obtain rfl:=ht.2 rfl;simp only [pwA,seval,-iQ0];exact hk _
end Go.Proofs
namespace Go.Proofs.Ytkhbdmlhjnijaaa
open Go.ChangeShapes Go.WideShapes Go.ChangeAt Go.RowKit Go.Ab Go.Joins Go.Lie Go.Proofs
set_option maxRecDepth 100000 in
theorem QS {H:Type} {enc:TypeId×Value→H} (W:World) (base:Nat) (args:Array Value) (ds gs:List (DataW H)) (before:List MemPlace)
  (hval:∀(j:Nat) t v,Try.f4.params[j]? = some t→args[j]? = some v→Value.okWide Try.prog W .any base t v)
  (hW:DataW.Whole enc Try.prog Try.f4.params.toList Rows.fnExactAreBindingsSpec.vars false W args.toList ds gs before):
  Calls Try.prog 4 args W fun e W'=>∃v,e=.returned v∧Rows.fnExactAreBindingsSpec.post enc Try.prog Try.f4 false true false false W args v W':=by
 have hW':=hW;obtain⟨p,q,hA0,hV,rfl,hfz,hnd⟩:=hW;have hA:DataW.TrodAll enc Try.prog W 0 (fun _=>true) true Try.f4.params.toList args.toList ds p:=hA0
 rw [Try.params4]at hA hval
 obtain⟨v0,vs0,d0,ds0,p0,q0,hargs,rfl,rfl,t0,r0⟩:=trodAll_cons hA;obtain⟨rfl,rfl,rfl⟩:=trodAll_nil r0;obtain rfl:args = #[v0]:=by cases args;simp_all
 obtain⟨n0,t0⟩:=t0;obtain⟨s0,s0',s0'',hv0⟩:=okWide_slice Try.underlying40 (hval 0 40 v0 rfl rfl);have hc0:v0.cells.toList=[v0]:=by rw [hv0];rfl
 rw [hc0]at t0
 obtain⟨j0,h0,vG0,G0,m0,l0,e0,i0,o0,_,R0,x0⟩:=zG7 _ _ _ true n0 _ _ (MR.empty W) t0;have pc:zA Try.prog 4 [vG0] (PHeap.start h0) (fun v _=>v=.bool true):=Z9 R0 x0 (fun _=>rfl)
 have ac:=pc.law m0.wf ⟨o0,trivial⟩;refine(ac.calls m0 (cargs:=#[v0]) ⟨_,_,rfl,i0,rfl⟩).mono fun e W' ⟨he,hb⟩=>?_
 exact⟨_,he,zBf rfl laidOut (by rw [Try.params4];intro t ht;simp only [List.mem_cons,List.not_mem_nil,or_false]at ht;rcases ht with rfl<;>exact⟨by kernel_rfl,of_decide_eq_true (by kernel_rfl)⟩) (by kernel_rfl) Try.underlying4 rfl hW' hb⟩
set_option maxRecDepth 100000 in
theorem zAC (os:Os) (started:os.Started) (H:Type) (enc:TypeId×Value→H):
  ReturnsInHanded {} Try.checked os 4 .any (Rows.fnExactAreBindingsSpec.pre6 enc Try.prog Try.f4 Rows.fnExactAreBindingsRow.domain false) (Rows.fnExactAreBindingsSpec.post enc Try.prog Try.f4 false true false false):=by
 refine returnsInHanded_of_change (C:=Try.checked) own started (by kernel_rfl) Try.func4
  (ChangeSpec.witness6 (enc:=enc) (C:=Try.checked) false ⟨#[],#[.slice none 0 0],[]⟩ 8 (by kernel_rfl) (by kernel_rfl) (by kernel_rfl) (by kernel_rfl)) ?_
 intro W base args ds gs before hval hW _ _;exact QS W base args ds gs before hval hW
theorem areBindingsProved:Rows.FnExactAreBindingsSaid:=
 OpenClaim.holds_of_wide 4 Try.f4 rfl rfl rfl rfl rfl rfl rfl ⟨rfl,rfl,rfl,rfl,rfl⟩ rfl rfl rfl rfl rfl (by kernel_rfl) Try.func4 (by kernel_rfl)
  (of_decide_eq_true (by kernel_rfl)) (by unfold Func.isWrapper;first | (rw [if_pos (by decide +kernel)];kernel_rfl) | (rw [if_neg (by decide +kernel)];exact⟨rfl,rfl⟩))
  (fun os started H enc _=>zAC os started H enc)
end Go.Proofs.Ytkhbdmlhjnijaaa
