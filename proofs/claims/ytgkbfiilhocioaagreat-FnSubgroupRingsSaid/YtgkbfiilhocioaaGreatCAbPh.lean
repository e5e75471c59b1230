/- LISTS OF ROWS AND OF MATRICES THAT GROW IN SLOTS: what one step of a loop keeps. -/
import Derived.Test.YtgkbfiilhocioaaGreatCAbPk
set_option linter.unusedVariables false
set_option linter.unusedSimpArgs false
namespace Go.Ab
variable {H hg hk h:PHeap} {K:PV×PHeap→Prop} {v:PV} {p d:Int}
theorem SR.ok.keep {b:Nat} {h':PHeap} {q:SR} (a:q.ok h b) (k:Keep h h'):q.ok h' b:=⟨a.1,by rw [k.obj _ a.2.2.2];exact a.2.1,a.2.2.1,Nat.lt_of_lt_of_le a.2.2.2 k.next⟩
end Go.Ab
