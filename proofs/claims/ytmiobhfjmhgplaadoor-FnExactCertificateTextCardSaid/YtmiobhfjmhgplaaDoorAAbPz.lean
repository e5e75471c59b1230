/- MORE ON SLOTS: a slot that is lent to a call that only reads it; rows in slots that are appended and frozen there. -/
import Derived.Test.YtmiobhfjmhgplaaDoorAAbPy
set_option linter.unusedVariables false
set_option linter.unusedSimpArgs false
namespace Go.Ab
theorem PAcc.pos {b e n:Nat} {h:PHeap} {v:PV} {cs:List PV} (a:PAcc b e h v n cs) (hn:0<n):PSl b e h v n cs:=by
 rcases a with ⟨_,h0,_⟩|a
 ·omega
 ·exact a
end Go.Ab
