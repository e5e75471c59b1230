/- ROWS IN SLOTS OF THEIR OWN: they are frozen at a function's end, all new. -/
import Derived.Test.YtfoidnlodahfjaaGreatBAbPz
import Derived.Test.YtfoidnlodahfjaaGreatBAbPn
set_option linter.unusedVariables false
set_option linter.unusedSimpArgs false
namespace Go.Ab
variable {σ0 σ1:PHeap} {K:PV→PHeap→Prop} {n lo hi:Nat}
theorem All2.imp {α β:Type} {R S:α→β→Prop} {as:List α} {bs:List β} (h:All2 R as bs) (hi:∀a b,R a b→S a b):All2 S as bs:=⟨h.1,fun k a b ha hb=>hi a b (h.2 k a b ha hb)⟩
end Go.Ab
