/- The heap that a call finds: what an argument reads as, laid as objects that nobody writes. -/
import Derived.Test.YtjlpbpfaihhamaaGreatDoorBAbAid
import Derived.Deep.Matrix
set_option linter.unusedVariables false
namespace Go.Ab
open Go.ChangeShapes Go.WideShapes Go.RowKit Go.Deep
variable {B:Nat} {w0 w:World} {j:Inj} {h:AHeap}
theorem MR.empty (w:World) (g:Gd w.heap.size w):MR w.heap.size w (fun _=>none) ⟨0,fun _=>none⟩ w:=
 ⟨Below.refl _ _,Nat.le_refl _,g,fun _ _=>⟨rfl,rfl⟩,fun _ _ _ ho=>(by cases ho),fun _ _ _ _ _ _ _ ho=>(by cases ho)⟩
theorem MR.wf (m:MR B w0 j h w):HWF h:=fun o ho=>(m.fresh o ho).1
end Go.Ab
