/- MORE ON SLOTS: a slot that is lent to a call that only reads it; rows in slots that are appended and frozen there. -/
import Derived.Test.YtngdcibjjomfjaaEAbPy
set_option linter.unusedVariables false
set_option linter.unusedSimpArgs false
namespace Go.Ab
theorem PAcc.low {b b' e n : Nat} {h : PHeap} {v : PV} {cs : List PV} (a : PAcc b e h v n cs) (hb : b' ≤ b) : PAcc b' e h v n cs := by
  rcases a with a | ⟨s, cap, rfl, h1, h2, h3, h4, h5⟩
  · exact .inl a
  · exact .inr ⟨s, cap, rfl, h1, h2, h3, Nat.le_trans hb h4, h5⟩
end Go.Ab
