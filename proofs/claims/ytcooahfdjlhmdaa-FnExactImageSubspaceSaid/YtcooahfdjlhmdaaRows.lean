/-
  No cell of these rows narrows 'for every input' (looked for: loops, veiled, ifaces, maps, wideKeys, modest, calm, conditions, laid).
  DERIVED. THE GIVEN ROWS OF THIS SEAT. 5 by the template 'for every input the law returns true; each argument reads behind the call as it read before'; 0 by the template 'total and deterministic' (their statements: YtcooahfdjlhmdaaTotals.lean).
  GIVEN WITH THE SEED: the statements are not yours to turn. If you find one false, say at which input.
  Laid BY PROGRAM, IN A SANDBOX (cutbox-rows.mjs): the forced cells as the released guide's own fill.sh prints them over the translation a53f0c3399a1a312… (all of the seat's roots in one cut). By AI agents, Wed Nov 11 2026. No macro, syntax, notation, axiom, sorry.
-/
import Derived.Test.YtcooahfdjlhmdaaChecked
import GoSem.Claim
import GoSem.ClaimJoined
import GoSem.ClaimMapViews
import Derived.JoinedTies
import Derived.KernelRfl
namespace Go.Proofs.Ytcooahfdjlhmdaa
/- THE CELL 'sum', in the pinned program and in every row, IS THE sha256 OF THE DUMP (.gsa) THAT YtcooahfdjlhmdaaProg.lean LOADS. Nothing in Lean hashes anything: it is a label: what it is worth is what the hold of that sum in a sandbox is worth. -/
noncomputable def Try.pinned : Pinned := { name := "ytcooahfdjlhmdaa", sum := "a53f0c3399a1a312552a1fa0754496a8201f8cef2b36e95154fd03e61a2e301c", checked := Try.checked }
namespace Rows
def none {H : Type} : Left H := { results := [], args := [] }

/-- 'laws.FnTransposes': WHATEVER THE INPUT: true; the input reads as it did. -/
def fnTransposesSpec : ChangeSpec := { name := "fnTransposes", fn := fun _ => fun
  | [d] => { results := [.lit (.bool true)], args := [d] }
  | _ => none }
def fnTransposesRow : OpenClaim := { program := "ytcooahfdjlhmdaa", sum := "a53f0c3399a1a312552a1fa0754496a8201f8cef2b36e95154fd03e61a2e301c", func := "loop.example/g01076/laws.FnTransposes", spec := "fnTransposes", apart := false }
def FnTransposesSaid : Prop := fnTransposesRow.holds Try.pinned (OpenSpec.ofChange fnTransposesSpec)

/-- ITS FALSE NEIGHBOUR: 'it returns false'. Refute it at one input. -/
def fnTransposesWrong : ChangeSpec := { name := "fnTransposes", fn := fun _ => fun
  | [d] => { results := [.lit (.bool false)], args := [d] }
  | _ => none }
def FnTransposesWrongFalsely : Prop := fnTransposesRow.holds Try.pinned (OpenSpec.ofChange fnTransposesWrong)

/-- 'laws.FnExactImageSubspace': WHATEVER THE INPUT: true; the input reads as it did. -/
def fnExactImageSubspaceSpec : ChangeSpec := { name := "fnExactImageSubspace", fn := fun _ => fun
  | [d1, d2] => { results := [.lit (.bool true)], args := [d1, d2] }
  | _ => none }
def fnExactImageSubspaceRow : OpenClaim := { program := "ytcooahfdjlhmdaa", sum := "a53f0c3399a1a312552a1fa0754496a8201f8cef2b36e95154fd03e61a2e301c", func := "loop.example/g01076/laws.FnExactImageSubspace", spec := "fnExactImageSubspace", unfollowed := true, recurses := true, apart := false }
def FnExactImageSubspaceSaid : Prop := fnExactImageSubspaceRow.holds Try.pinned (OpenSpec.ofChange fnExactImageSubspaceSpec)

/-- ITS FALSE NEIGHBOUR: 'it returns false'. Refute it at one input. -/
def fnExactImageSubspaceWrong : ChangeSpec := { name := "fnExactImageSubspace", fn := fun _ => fun
  | [d1, d2] => { results := [.lit (.bool false)], args := [d1, d2] }
  | _ => none }
def FnExactImageSubspaceWrongFalsely : Prop := fnExactImageSubspaceRow.holds Try.pinned (OpenSpec.ofChange fnExactImageSubspaceWrong)

/-- 'laws.FnDeterminants': WHATEVER THE INPUT: true; the input reads as it did. -/
def fnDeterminantsSpec : ChangeSpec := { name := "fnDeterminants", fn := fun _ => fun
  | [d] => { results := [.lit (.bool true)], args := [d] }
  | _ => none }
def fnDeterminantsRow : OpenClaim := { program := "ytcooahfdjlhmdaa", sum := "a53f0c3399a1a312552a1fa0754496a8201f8cef2b36e95154fd03e61a2e301c", func := "loop.example/g01076/laws.FnDeterminants", spec := "fnDeterminants", apart := false }
def FnDeterminantsSaid : Prop := fnDeterminantsRow.holds Try.pinned (OpenSpec.ofChange fnDeterminantsSpec)

/-- ITS FALSE NEIGHBOUR: 'it returns false'. Refute it at one input. -/
def fnDeterminantsWrong : ChangeSpec := { name := "fnDeterminants", fn := fun _ => fun
  | [d] => { results := [.lit (.bool false)], args := [d] }
  | _ => none }
def FnDeterminantsWrongFalsely : Prop := fnDeterminantsRow.holds Try.pinned (OpenSpec.ofChange fnDeterminantsWrong)

/-- 'laws.FnImageSpaces': WHATEVER THE INPUT: true; the input reads as it did. -/
def fnImageSpacesSpec : ChangeSpec := { name := "fnImageSpaces", fn := fun _ => fun
  | [d] => { results := [.lit (.bool true)], args := [d] }
  | _ => none }
def fnImageSpacesRow : OpenClaim := { program := "ytcooahfdjlhmdaa", sum := "a53f0c3399a1a312552a1fa0754496a8201f8cef2b36e95154fd03e61a2e301c", func := "loop.example/g01076/laws.FnImageSpaces", spec := "fnImageSpaces", unfollowed := true, recurses := true, apart := false }
def FnImageSpacesSaid : Prop := fnImageSpacesRow.holds Try.pinned (OpenSpec.ofChange fnImageSpacesSpec)

/-- ITS FALSE NEIGHBOUR: 'it returns false'. Refute it at one input. -/
def fnImageSpacesWrong : ChangeSpec := { name := "fnImageSpaces", fn := fun _ => fun
  | [d] => { results := [.lit (.bool false)], args := [d] }
  | _ => none }
def FnImageSpacesWrongFalsely : Prop := fnImageSpacesRow.holds Try.pinned (OpenSpec.ofChange fnImageSpacesWrong)

/-- 'laws.FnKernels': WHATEVER THE INPUT: true; the input reads as it did. -/
def fnKernelsSpec : ChangeSpec := { name := "fnKernels", fn := fun _ => fun
  | [d] => { results := [.lit (.bool true)], args := [d] }
  | _ => none }
def fnKernelsRow : OpenClaim := { program := "ytcooahfdjlhmdaa", sum := "a53f0c3399a1a312552a1fa0754496a8201f8cef2b36e95154fd03e61a2e301c", func := "loop.example/g01076/laws.FnKernels", spec := "fnKernels", unfollowed := true, recurses := true, apart := false }
def FnKernelsSaid : Prop := fnKernelsRow.holds Try.pinned (OpenSpec.ofChange fnKernelsSpec)

/-- ITS FALSE NEIGHBOUR: 'it returns false'. Refute it at one input. -/
def fnKernelsWrong : ChangeSpec := { name := "fnKernels", fn := fun _ => fun
  | [d] => { results := [.lit (.bool false)], args := [d] }
  | _ => none }
def FnKernelsWrongFalsely : Prop := fnKernelsRow.holds Try.pinned (OpenSpec.ofChange fnKernelsWrong)

/- THE SECOND FORM. 'bulk': how many values and letters a reading holds, each counted each time it is reached (what is shared counts as often as it is met; a slice's spare places count too). A statement '..UptoSaid' is the law's where the arguments, and the package variables that the reading takes, are together of bulk at most 1048576: NARROWER than '..Said'. Prove '..Said' where nothing that the law and all that it calls make is longer than what came in: it says more and counts as full. Else prove '..UptoSaid'. A law counts once. -/
mutual
def uptoBulk {H : Type} : DataW H → Nat
  | .lit (.string bytes) => bytes.length + 1
  | .lit _ => 1
  | .nil => 1
  | .ptr d => uptoBulk d + 1
  | .slice elems spare => uptoBulkAll elems + uptoBulkAll spare + 1
  | .agg parts => uptoBulkAll parts + 1
  | .iface _ d => uptoBulk d + 1
  | .map entries => uptoBulkEntries entries + 1
  | .held _ => 1
def uptoBulkAll {H : Type} : List (DataW H) → Nat
  | [] => 0
  | d :: r => uptoBulk d + uptoBulkAll r
def uptoBulkEntries {H : Type} : List (Lit × DataW H) → Nat
  | [] => 0
  | x :: r => uptoBulkEntry x + uptoBulkEntries r
def uptoBulkEntry {H : Type} : Lit × DataW H → Nat
  | (.string bytes, d) => bytes.length + uptoBulk d + 1
  | (_, d) => uptoBulk d + 1
 end
def uptoSmall : (H : Type) → List (DataW H) → Bool := fun _ ds => decide (uptoBulkAll ds ≤ 1048576)
def OpenSpec.upto (s : _root_.Go.ChangeSpec) : _root_.Go.OpenSpec := { _root_.Go.OpenSpec.ofChange s with cond := some uptoSmall }

/-- 'laws.FnTransposes', WHERE WHAT IT READS IS OF BULK AT MOST 1048576: true; the input reads as it did. -/
def fnTransposesUptoRow : OpenClaim := { program := "ytcooahfdjlhmdaa", sum := "a53f0c3399a1a312552a1fa0754496a8201f8cef2b36e95154fd03e61a2e301c", func := "loop.example/g01076/laws.FnTransposes", spec := "fnTransposes", apart := false, narrowed := true }
def FnTransposesUptoSaid : Prop := fnTransposesUptoRow.holds Try.pinned (OpenSpec.upto fnTransposesSpec)

/-- 'laws.FnExactImageSubspace', WHERE WHAT IT READS IS OF BULK AT MOST 1048576: true; the input reads as it did. -/
def fnExactImageSubspaceUptoRow : OpenClaim := { program := "ytcooahfdjlhmdaa", sum := "a53f0c3399a1a312552a1fa0754496a8201f8cef2b36e95154fd03e61a2e301c", func := "loop.example/g01076/laws.FnExactImageSubspace", spec := "fnExactImageSubspace", unfollowed := true, recurses := true, apart := false, narrowed := true }
def FnExactImageSubspaceUptoSaid : Prop := fnExactImageSubspaceUptoRow.holds Try.pinned (OpenSpec.upto fnExactImageSubspaceSpec)

/-- 'laws.FnDeterminants', WHERE WHAT IT READS IS OF BULK AT MOST 1048576: true; the input reads as it did. -/
def fnDeterminantsUptoRow : OpenClaim := { program := "ytcooahfdjlhmdaa", sum := "a53f0c3399a1a312552a1fa0754496a8201f8cef2b36e95154fd03e61a2e301c", func := "loop.example/g01076/laws.FnDeterminants", spec := "fnDeterminants", apart := false, narrowed := true }
def FnDeterminantsUptoSaid : Prop := fnDeterminantsUptoRow.holds Try.pinned (OpenSpec.upto fnDeterminantsSpec)

/-- 'laws.FnImageSpaces', WHERE WHAT IT READS IS OF BULK AT MOST 1048576: true; the input reads as it did. -/
def fnImageSpacesUptoRow : OpenClaim := { program := "ytcooahfdjlhmdaa", sum := "a53f0c3399a1a312552a1fa0754496a8201f8cef2b36e95154fd03e61a2e301c", func := "loop.example/g01076/laws.FnImageSpaces", spec := "fnImageSpaces", unfollowed := true, recurses := true, apart := false, narrowed := true }
def FnImageSpacesUptoSaid : Prop := fnImageSpacesUptoRow.holds Try.pinned (OpenSpec.upto fnImageSpacesSpec)

/-- 'laws.FnKernels', WHERE WHAT IT READS IS OF BULK AT MOST 1048576: true; the input reads as it did. -/
def fnKernelsUptoRow : OpenClaim := { program := "ytcooahfdjlhmdaa", sum := "a53f0c3399a1a312552a1fa0754496a8201f8cef2b36e95154fd03e61a2e301c", func := "loop.example/g01076/laws.FnKernels", spec := "fnKernels", unfollowed := true, recurses := true, apart := false, narrowed := true }
def FnKernelsUptoSaid : Prop := fnKernelsUptoRow.holds Try.pinned (OpenSpec.upto fnKernelsSpec)

end Rows
end Go.Proofs.Ytcooahfdjlhmdaa
