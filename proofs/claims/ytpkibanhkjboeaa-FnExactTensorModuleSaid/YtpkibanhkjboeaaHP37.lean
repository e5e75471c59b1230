/- Inner derivations, both sides. -/
import Derived.Test.YtpkibanhkjboeaaHP31
import Derived.Test.YtpkibanhkjboeaaHAbPq
set_option linter.unusedSimpArgs false
set_option linter.unusedVariables false
namespace Go.Proofs
open Go.Ab Go.Lie Go.Grp Go.Mx
variable {σ : PHeap} {K : PV → PHeap → Prop} {p d : Int} {n na : Nat} {v w x xs ys : List Int} {A B M vals : List (List Int)} {As : List (List (List Int))} {vA vB vM vv vx vw vV v0 : PV} {O : List Int} {P : List (List Int)} {C : List (List (List Int))} {vO vP vC : PV} {s sp : Nat}
/-- What both sides return: a value and a code. -/
structure ResR {α : Type} (r : α × Int) (z : α) (c : Int) : Prop where
  eq : (z, c) = r
theorem ResR.unique {α : Type} {r : α × Int} {z z' : α} {c c' : Int} (h : ResR r z c) (h' : ResR r z' c') : z = z' ∧ c = c' := by
  have := h.eq.trans h'.eq.symm
  simp only [Prod.mk.injEq] at this
  exact this
end Go.Proofs
