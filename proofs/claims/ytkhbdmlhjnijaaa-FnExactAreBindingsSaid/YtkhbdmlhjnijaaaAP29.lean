/- Certificates: what they are, both sides. -/
import Derived.Test.YtkhbdmlhjnijaaaAP26
import Derived.Test.YtkhbdmlhjnijaaaAAbPt
import Derived.Test.YtkhbdmlhjnijaaaAP27
import Derived.Test.YtkhbdmlhjnijaaaAAbPy
import Derived.Test.YtkhbdmlhjnijaaaRows
import Derived.Lib.SmallJoins
import Derived.WalkKit
import Derived.ProofKit
namespace Go.Proofs.Ytkhbdmlhjnijaaa
open Go.ChangeShapes Go.WideShapes Go.ChangeAt Go.RowKit Go.Ab Go.Joins Go.Lie Go.Proofs
set_option linter.unusedVariables false
theorem own:ownKnob Try.prog.godebug=none:=by kernel_rfl
theorem laidOut:laidOutB Try.prog=true:=by kernel_rfl
theorem zHd:Try.prog.cellsOf 23=1:=by kernel_rfl
theorem cell2:Try.prog.cellsOf 2=1:=by kernel_rfl
theorem zHe:Try.prog.cellsOf 22=1:=by kernel_rfl
variable {H:Type} {enc:TypeId×Value→H} {W w0:World} {j:Inj} {h:AHeap}
def LII (v:PV) (xs:List (List Int)):Prop:=FII v xs∧xs.length≤9223372036854775807∧∀x∈xs,x.length≤9223372036854775807
def LIII (v:PV) (xs:List (List (List Int))):Prop:=FIII v xs∧xs.length≤9223372036854775807∧∀q∈xs,q.length≤9223372036854775807∧∀x∈q,x.length≤9223372036854775807
theorem layI:Lay1 enc Try.prog W 22 (fun v (xs:List Int)=>FI v xs∧xs.length≤9223372036854775807):=zGH (e:=2) Try.underlying22 cell2 Try.underlying2
theorem layII:Lay1 enc Try.prog W 23 LII:=by
 intro w0 j h held fuel v x m hx;obtain⟨j',h',pv,a,g1,g2,g3,g4,g5,g6,g7,g8⟩:=Qf Try.underlying23 zHe layI w0 j h held fuel v x m hx;exact⟨j',h',pv,a,g1,g2,g3,g4,g5,g6,g7.imp fun _ _ k=>k.1,g8,g7.all fun _ _ k=>k.2⟩
theorem zHY:Lay1 enc Try.prog W 24 LIII:=by
 intro w0 j h held fuel v x m hx;obtain⟨j',h',pv,a,g1,g2,g3,g4,g5,g6,g7,g8⟩:=Qf Try.underlying24 zHd layII w0 j h held fuel v x m hx;exact⟨j',h',pv,a,g1,g2,g3,g4,g5,g6,g7.imp fun _ _ k=>k.1,g8,g7.all fun _ _ k=>k.2⟩
end Go.Proofs.Ytkhbdmlhjnijaaa
namespace Go.Grp
end Go.Grp
set_option linter.unusedSimpArgs false
namespace Go.Proofs
open Go.Ab Go.Lie Go.Grp Go.Mx
abbrev Pre:=List Int×List (List Int)×List (List (List Int))
variable {σ:PHeap} {K:PV→PHeap→Prop} {k k':Int} {G G':List Pre} {L L':List (List Int)} {vG vL vG' vL':PV} {s:Nat}
end Go.Proofs
