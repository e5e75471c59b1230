/- A STRUCT WHOSE LAST CELL IS A RESULT: what holds of the cell holds of the struct. -/
import Derived.Test.YtpkibanhkjboeaaHAbPq
set_option linter.unusedVariables false
set_option linter.unusedSimpArgs false
namespace Go.Ab
variable {σ0 σ1 : PHeap} {K : PV → PHeap → Prop} {p d : Int}
theorem PAcc.setX {b e n s : Nat} {h : PHeap} {v : PV} {cs ds : List PV} (a : PAcc b e h v n cs) (hs : s < b) : PAcc b e (h.set s ds) v n cs := by
  rcases a with a | ⟨t, cap, rfl, h1, h2, h3, h4, h5⟩
  · exact .inl a
  · exact .inr ⟨t, cap, rfl, h1, by rw [pobj_set, if_neg (by omega)]; exact h2, h3, h4, h5⟩
end Go.Ab
