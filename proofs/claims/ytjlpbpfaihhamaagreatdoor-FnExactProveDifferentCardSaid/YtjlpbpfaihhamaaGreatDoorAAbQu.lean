/- QUIET CALLS: what is told of a function over frozen values, used in a walk of the program's own text; and the way back. No program in sight. -/
import Derived.Test.YtjlpbpfaihhamaaGreatDoorAAbPg
import Derived.Test.YtjlpbpfaihhamaaGreatDoorAAbTop
set_option linter.unusedVariables false
namespace Go.Ab
open Go.RowKit
variable {P:Program} {B:Nat} {w0 w w':World} {j:Inj} {h h':AHeap} {ι:Nat→Nat} {Z:Nat→Prop} {σ:PHeap} {n:Nat}
theorem MR.quiet (m:MR B w0 j h w) (hb:Below w.heap.size w w'):MR B w0 j h w':=by
 refine⟨m.below.trans (hb.mono m.bnd),Nat.le_trans m.bnd hb.size,m.gd,m.fresh,fun o ob l ho hl=>?_,m.apart⟩
 have q:=m.obj o ob l ho hl;obtain⟨cur,ty,fz,r1,r2,r3,r4⟩:=q.row;have hlt:l.blk<w.heap.size:=(Array.getElem?_eq_some_iff.1 r1).1;exact⟨q.one,cur,ty,fz,by rw [hb.block _ hlt];exact r1,r2,r3,r4⟩
theorem zA.quietS {f:FuncId} {args:List PV} {q:List UInt8} {K:PV→PHeap→Prop}
  (H:∀(ι:Nat→Nat) (Z:Nat→Prop) (h:AHeap),Rel ι Z σ h→VOKs Z h σ.next args→∀(B:Nat) (w0:World) (j:Inj) (w:World) (cargs:List Value),MR B w0 j h w→VIs j (ers ι args) cargs→
   Calls P f cargs.toArray w fun e w'=>e=.returned (.string ⟨q.toArray⟩)∧Below w.heap.size w w') (hk:K (.str q) σ):zA P f args σ K:=
 fun ι Z h r va B w0 j w cargs m vi=>(H ι Z h r va B w0 j w cargs m vi).mono fun e w' ⟨he,hb⟩=>
  ⟨.str q,h,j,_,he,FR.refl _ _,m.quiet hb,rfl,.str q,σ,ι,Z,r,⟨Nat.le_refl _,Nat.le_refl _,fun _ _=>rfl,fun o ho=>⟨ho,rfl⟩,fun _ _ x=>x,fun s cs hs ho=>by rw [r.wf s hs]at ho;cases ho⟩,trivial,rfl,hk⟩
end Go.Ab
