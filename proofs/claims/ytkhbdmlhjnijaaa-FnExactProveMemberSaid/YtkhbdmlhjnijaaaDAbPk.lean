/- MATRICES IN SLOTS OF THEIR OWN: rows in slots, named in slots of matrices, named in one slot; all are frozen at a function's end, all new. -/
import Derived.Test.YtkhbdmlhjnijaaaDAbPj
set_option linter.unusedVariables false
set_option linter.unusedSimpArgs false
namespace Go.Ab
variable {σ0 σ1 σ2:PHeap} {K:PV→PHeap→Prop} {n lo hi:Nat}
structure SR where
 s:Nat
 cap:Cap
 x:List Int
end Go.Ab
