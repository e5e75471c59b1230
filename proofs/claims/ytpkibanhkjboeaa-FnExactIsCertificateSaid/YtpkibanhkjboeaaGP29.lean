/- What a law is handed, laid as frozen values: presentations. -/
import Derived.Test.YtpkibanhkjboeaaGP26
import Derived.Test.YtpkibanhkjboeaaGAbPt
import Derived.Test.YtpkibanhkjboeaaRows
import Derived.Lib.SmallJoins
import Derived.WalkKit
import Derived.ProofKit
namespace Go.Proofs.Ytpkibanhkjboeaa
open Go.ChangeShapes Go.WideShapes Go.ChangeAt Go.RowKit Go.Ab Go.Joins Go.Lie Go.Proofs
set_option linter.unusedVariables false
theorem own : ownKnob Try.prog.godebug = none := by kernel_rfl
theorem laidOut : laidOutB Try.prog = true := by kernel_rfl
theorem cell23 : Try.prog.cellsOf 23 = 1 := by kernel_rfl
theorem cell2 : Try.prog.cellsOf 2 = 1 := by kernel_rfl
theorem cell22 : Try.prog.cellsOf 22 = 1 := by kernel_rfl
variable {H : Type} {enc : TypeId × Value → H} {W w0 : World} {j : Inj} {h : AHeap}
/-- Lists of lists. -/
def LII (v : PV) (xs : List (List Int)) : Prop := FII v xs ∧ xs.length ≤ 9223372036854775807 ∧ ∀ x ∈ xs, x.length ≤ 9223372036854775807
def LIII (v : PV) (xs : List (List (List Int))) : Prop := FIII v xs ∧ xs.length ≤ 9223372036854775807 ∧ ∀ q ∈ xs, q.length ≤ 9223372036854775807 ∧ ∀ x ∈ q, x.length ≤ 9223372036854775807
theorem layI : Lay1 enc Try.prog W 22 (fun v (xs : List Int) => FI v xs ∧ xs.length ≤ 9223372036854775807) := lay_ints (e := 2) Try.underlying22 cell2 Try.underlying2
theorem layII : Lay1 enc Try.prog W 23 LII := by
  intro w0 j h held fuel v x m hx
  obtain ⟨j', h', pv, a, g1, g2, g3, g4, g5, g6, g7, g8⟩ := lay_slice Try.underlying23 cell22 layI w0 j h held fuel v x m hx
  exact ⟨j', h', pv, a, g1, g2, g3, g4, g5, g6, g7.imp fun _ _ k => k.1, g8, g7.all fun _ _ k => k.2⟩
theorem layIII : Lay1 enc Try.prog W 24 LIII := by
  intro w0 j h held fuel v x m hx
  obtain ⟨j', h', pv, a, g1, g2, g3, g4, g5, g6, g7, g8⟩ := lay_slice Try.underlying24 cell23 layII w0 j h held fuel v x m hx
  exact ⟨j', h', pv, a, g1, g2, g3, g4, g5, g6, g7.imp fun _ _ k => k.1, g8, g7.all fun _ _ k => k.2⟩
end Go.Proofs.Ytpkibanhkjboeaa
namespace Go.Proofs.Ytpkibanhkjboeaa
open Go.ChangeShapes Go.WideShapes Go.ChangeAt Go.RowKit Go.Ab Go.Joins Go.Lie Go.Proofs
set_option linter.unusedVariables false
theorem cell26 : Try.prog.cellsOf 26 = 3 := by kernel_rfl
variable {H : Type} {enc : TypeId × Value → H} {W w0 : World} {j : Inj} {h : AHeap}
end Go.Proofs.Ytpkibanhkjboeaa
