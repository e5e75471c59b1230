/- . -/
import Derived.Test.YtjlpbpfaihhamaaGreatAAbPm
set_option linter.unusedVariables false
set_option linter.unusedSimpArgs false
namespace Go.Ab
variable{h:AHeap}
variable{α:Type}{R:PV->α->Prop}
theorem All2.tl{β γ:Type}{R:β->γ->Prop}{a:β}{as:List β}{b:γ}{bs:List γ}(h:All2 R (a::as) (b::bs)):R a b∧All2 R as bs:=
 ⟨h.2 0 a b rfl rfl,by have:=h.1;simpa using this,fun k x y hx hy=>h.2 (k+1) x y (by simpa using hx) (by simpa using hy)⟩
end Go.Ab
