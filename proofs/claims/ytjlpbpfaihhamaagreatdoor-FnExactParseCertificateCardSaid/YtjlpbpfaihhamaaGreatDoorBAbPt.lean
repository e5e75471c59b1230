/- THE TOP: what an argument reads as, laid as frozen values; what a law's call answers. -/
import Derived.Test.YtjlpbpfaihhamaaGreatDoorBAbPy
import Derived.Test.YtjlpbpfaihhamaaGreatDoorBAbClose
set_option linter.unusedVariables false
set_option linter.unusedSimpArgs false
namespace Go.Ab
open Go.ChangeShapes Go.WideShapes Go.RowKit Go.Deep
variable {w0 W:World} {j:Inj} {h h':AHeap} {H:Type} {enc:TypeId×Value→H} {P:Program} {α:Type}
abbrev zlt (h:AHeap):Nat→Prop:=fun o=>o<h.next
def PHeap.start (h:AHeap):PHeap:=⟨0,h.next,fun _=>none⟩
theorem zJj (hw:HWF h):Rel idz (zlt h) (PHeap.start h) h:=⟨hw,fun _ ho=>ho,Nat.le_refl _,fun _ _=>rfl,fun _ _ ho=>(by cases ho),fun _ _ _ _ ho=>(by cases ho)⟩
end Go.Ab
