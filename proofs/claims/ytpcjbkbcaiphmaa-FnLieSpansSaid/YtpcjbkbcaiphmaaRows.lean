/-
  No cell of these rows narrows 'for every input' (looked for: loops, veiled, ifaces, maps, wideKeys, modest, calm, conditions, laid).
  DERIVED. THE GIVEN ROWS OF THIS SEAT. 3 by the template 'for every input the law returns true; each argument reads behind the call as it read before'; 0 by the template 'total and deterministic' (their statements: YtpcjbkbcaiphmaaTotals.lean).
  GIVEN WITH THE SEED: the statements are not yours to turn. If you find one false, say at which input.
  Laid BY PROGRAM, IN A SANDBOX (cutbox-rows.mjs): the forced cells as the released guide's own fill.sh prints them over the translation 2bc4c736107585d2… (all of the seat's roots in one cut). By AI agents, Wed Nov 11 2026. No macro, syntax, notation, axiom, sorry.
-/
import Derived.Test.YtpcjbkbcaiphmaaChecked
import GoSem.Claim
import GoSem.ClaimJoined
import GoSem.ClaimMapViews
import Derived.JoinedTies
import Derived.KernelRfl
namespace Go.Proofs.Ytpcjbkbcaiphmaa
/- THE CELL 'sum', in the pinned program and in every row, IS THE sha256 OF THE DUMP (.gsa) THAT YtpcjbkbcaiphmaaProg.lean LOADS. Nothing in Lean hashes anything: it is a label: what it is worth is what the hold of that sum in a sandbox is worth. -/
noncomputable def Try.pinned : Pinned := { name := "ytpcjbkbcaiphmaa", sum := "2bc4c736107585d2e3e37d8a80cf65d8ae27e60e69b42a3cacda886bbe71c0d7", checked := Try.checked }
namespace Rows
def none {H : Type} : Left H := { results := [], args := [] }

/-- 'laws.FnRoots': WHATEVER THE INPUT: true; the input reads as it did. -/
def fnRootsSpec : ChangeSpec := { name := "fnRoots", fn := fun _ => fun
  | [d] => { results := [.lit (.bool true)], args := [d] }
  | _ => none }
def fnRootsRow : OpenClaim := { program := "ytpcjbkbcaiphmaa", sum := "2bc4c736107585d2e3e37d8a80cf65d8ae27e60e69b42a3cacda886bbe71c0d7", func := "loop.example/g01076/laws.FnRoots", spec := "fnRoots", unfollowed := true, recurses := true, apart := false }
def FnRootsSaid : Prop := fnRootsRow.holds Try.pinned (OpenSpec.ofChange fnRootsSpec)

/-- ITS FALSE NEIGHBOUR: 'it returns false'. Refute it at one input. -/
def fnRootsWrong : ChangeSpec := { name := "fnRoots", fn := fun _ => fun
  | [d] => { results := [.lit (.bool false)], args := [d] }
  | _ => none }
def FnRootsWrongFalsely : Prop := fnRootsRow.holds Try.pinned (OpenSpec.ofChange fnRootsWrong)

/-- 'laws.FnLieSpans': WHATEVER THE INPUT: true; the input reads as it did. -/
def fnLieSpansSpec : ChangeSpec := { name := "fnLieSpans", fn := fun _ => fun
  | [d] => { results := [.lit (.bool true)], args := [d] }
  | _ => none }
def fnLieSpansRow : OpenClaim := { program := "ytpcjbkbcaiphmaa", sum := "2bc4c736107585d2e3e37d8a80cf65d8ae27e60e69b42a3cacda886bbe71c0d7", func := "loop.example/g01076/laws.FnLieSpans", spec := "fnLieSpans", unfollowed := true, recurses := true, apart := false }
def FnLieSpansSaid : Prop := fnLieSpansRow.holds Try.pinned (OpenSpec.ofChange fnLieSpansSpec)

/-- ITS FALSE NEIGHBOUR: 'it returns false'. Refute it at one input. -/
def fnLieSpansWrong : ChangeSpec := { name := "fnLieSpans", fn := fun _ => fun
  | [d] => { results := [.lit (.bool false)], args := [d] }
  | _ => none }
def FnLieSpansWrongFalsely : Prop := fnLieSpansRow.holds Try.pinned (OpenSpec.ofChange fnLieSpansWrong)

/-- 'laws.FnExactProveConsistent': WHATEVER THE INPUT: true; the input reads as it did. -/
def fnExactProveConsistentSpec : ChangeSpec := { name := "fnExactProveConsistent", fn := fun _ => fun
  | [d] => { results := [.lit (.bool true)], args := [d] }
  | _ => none }
def fnExactProveConsistentRow : OpenClaim := { program := "ytpcjbkbcaiphmaa", sum := "2bc4c736107585d2e3e37d8a80cf65d8ae27e60e69b42a3cacda886bbe71c0d7", func := "loop.example/g01076/laws.FnExactProveConsistent", spec := "fnExactProveConsistent", recurses := true, apart := false }
def FnExactProveConsistentSaid : Prop := fnExactProveConsistentRow.holds Try.pinned (OpenSpec.ofChange fnExactProveConsistentSpec)

/-- ITS FALSE NEIGHBOUR: 'it returns false'. Refute it at one input. -/
def fnExactProveConsistentWrong : ChangeSpec := { name := "fnExactProveConsistent", fn := fun _ => fun
  | [d] => { results := [.lit (.bool false)], args := [d] }
  | _ => none }
def FnExactProveConsistentWrongFalsely : Prop := fnExactProveConsistentRow.holds Try.pinned (OpenSpec.ofChange fnExactProveConsistentWrong)

/- THE SECOND FORM. 'bulk': how many values and letters a reading holds, each counted each time it is reached (what is shared counts as often as it is met; a slice's spare places count too). A statement '..UptoSaid' is the law's where the arguments, and the package variables that the reading takes, are together of bulk at most 1048576: NARROWER than '..Said'. Prove '..Said' where nothing that the law and all that it calls make is longer than what came in: it says more and counts as full. Else prove '..UptoSaid'. A law counts once. -/
mutual
def uptoBulk {H : Type} : DataW H → Nat
  | .lit (.string bytes) => bytes.length + 1
  | .lit _ => 1
  | .nil => 1
  | .ptr d => uptoBulk d + 1
  | .slice elems spare => uptoBulkAll elems + uptoBulkAll spare + 1
  | .agg parts => uptoBulkAll parts + 1
  | .iface _ d => uptoBulk d + 1
  | .map entries => uptoBulkEntries entries + 1
  | .held _ => 1
def uptoBulkAll {H : Type} : List (DataW H) → Nat
  | [] => 0
  | d :: r => uptoBulk d + uptoBulkAll r
def uptoBulkEntries {H : Type} : List (Lit × DataW H) → Nat
  | [] => 0
  | x :: r => uptoBulkEntry x + uptoBulkEntries r
def uptoBulkEntry {H : Type} : Lit × DataW H → Nat
  | (.string bytes, d) => bytes.length + uptoBulk d + 1
  | (_, d) => uptoBulk d + 1
 end
def uptoSmall : (H : Type) → List (DataW H) → Bool := fun _ ds => decide (uptoBulkAll ds ≤ 1048576)
def OpenSpec.upto (s : _root_.Go.ChangeSpec) : _root_.Go.OpenSpec := { _root_.Go.OpenSpec.ofChange s with cond := some uptoSmall }

/-- 'laws.FnRoots', WHERE WHAT IT READS IS OF BULK AT MOST 1048576: true; the input reads as it did. -/
def fnRootsUptoRow : OpenClaim := { program := "ytpcjbkbcaiphmaa", sum := "2bc4c736107585d2e3e37d8a80cf65d8ae27e60e69b42a3cacda886bbe71c0d7", func := "loop.example/g01076/laws.FnRoots", spec := "fnRoots", unfollowed := true, recurses := true, apart := false, narrowed := true }
def FnRootsUptoSaid : Prop := fnRootsUptoRow.holds Try.pinned (OpenSpec.upto fnRootsSpec)

/-- 'laws.FnLieSpans', WHERE WHAT IT READS IS OF BULK AT MOST 1048576: true; the input reads as it did. -/
def fnLieSpansUptoRow : OpenClaim := { program := "ytpcjbkbcaiphmaa", sum := "2bc4c736107585d2e3e37d8a80cf65d8ae27e60e69b42a3cacda886bbe71c0d7", func := "loop.example/g01076/laws.FnLieSpans", spec := "fnLieSpans", unfollowed := true, recurses := true, apart := false, narrowed := true }
def FnLieSpansUptoSaid : Prop := fnLieSpansUptoRow.holds Try.pinned (OpenSpec.upto fnLieSpansSpec)

/-- 'laws.FnExactProveConsistent', WHERE WHAT IT READS IS OF BULK AT MOST 1048576: true; the input reads as it did. -/
def fnExactProveConsistentUptoRow : OpenClaim := { program := "ytpcjbkbcaiphmaa", sum := "2bc4c736107585d2e3e37d8a80cf65d8ae27e60e69b42a3cacda886bbe71c0d7", func := "loop.example/g01076/laws.FnExactProveConsistent", spec := "fnExactProveConsistent", recurses := true, apart := false, narrowed := true }
def FnExactProveConsistentUptoSaid : Prop := fnExactProveConsistentUptoRow.holds Try.pinned (OpenSpec.upto fnExactProveConsistentSpec)

end Rows
end Go.Proofs.Ytpcjbkbcaiphmaa
