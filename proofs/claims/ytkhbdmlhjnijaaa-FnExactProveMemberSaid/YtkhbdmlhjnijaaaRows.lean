/-
  No cell of these rows narrows 'for every input' (looked for: loops, veiled, ifaces, maps, wideKeys, modest, calm, conditions, laid).
  DERIVED. THE GIVEN ROWS OF THIS SEAT. 3 by the template 'for every input the law returns true; each argument reads behind the call as it read before'; 0 by the template 'total and deterministic' (their statements: YtkhbdmlhjnijaaaTotals.lean).
  GIVEN WITH THE SEED: the statements are not yours to turn. If you find one false, say at which input.
  Laid BY PROGRAM, IN A SANDBOX (cutbox-rows.mjs): the forced cells as the released guide's own fill.sh prints them over the translation 14c6cf5ed243e2e6… (all of the seat's roots in one cut). By AI agents, Wed Nov 11 2026. No macro, syntax, notation, axiom, sorry.
-/
import Derived.Test.YtkhbdmlhjnijaaaChecked
import GoSem.Claim
import GoSem.ClaimJoined
import GoSem.ClaimMapViews
import Derived.JoinedTies
import Derived.KernelRfl
namespace Go.Proofs.Ytkhbdmlhjnijaaa
/- THE CELL 'sum', in the pinned program and in every row, IS THE sha256 OF THE DUMP (.gsa) THAT YtkhbdmlhjnijaaaProg.lean LOADS. Nothing in Lean hashes anything: it is a label: what it is worth is what the hold of that sum in a sandbox is worth. -/
noncomputable def Try.pinned : Pinned := { name := "ytkhbdmlhjnijaaa", sum := "14c6cf5ed243e2e6fc2c505463045ac8e4c5b733c9227c91f1f303dd260f9408", checked := Try.checked }
namespace Rows
def none {H : Type} : Left H := { results := [], args := [] }

/-- 'laws.FnExactProveConsistent': WHATEVER THE INPUT: true; the input reads as it did. -/
def fnExactProveConsistentSpec : ChangeSpec := { name := "fnExactProveConsistent", fn := fun _ => fun
  | [d] => { results := [.lit (.bool true)], args := [d] }
  | _ => none }
def fnExactProveConsistentRow : OpenClaim := { program := "ytkhbdmlhjnijaaa", sum := "14c6cf5ed243e2e6fc2c505463045ac8e4c5b733c9227c91f1f303dd260f9408", func := "loop.example/g01076/laws.FnExactProveConsistent", spec := "fnExactProveConsistent", recurses := true, apart := false }
def FnExactProveConsistentSaid : Prop := fnExactProveConsistentRow.holds Try.pinned (OpenSpec.ofChange fnExactProveConsistentSpec)

/-- ITS FALSE NEIGHBOUR: 'it returns false'. Refute it at one input. -/
def fnExactProveConsistentWrong : ChangeSpec := { name := "fnExactProveConsistent", fn := fun _ => fun
  | [d] => { results := [.lit (.bool false)], args := [d] }
  | _ => none }
def FnExactProveConsistentWrongFalsely : Prop := fnExactProveConsistentRow.holds Try.pinned (OpenSpec.ofChange fnExactProveConsistentWrong)

/-- 'laws.FnExactAreBindings': WHATEVER THE INPUT: true; the input reads as it did. -/
def fnExactAreBindingsSpec : ChangeSpec := { name := "fnExactAreBindings", fn := fun _ => fun
  | [d] => { results := [.lit (.bool true)], args := [d] }
  | _ => none }
def fnExactAreBindingsRow : OpenClaim := { program := "ytkhbdmlhjnijaaa", sum := "14c6cf5ed243e2e6fc2c505463045ac8e4c5b733c9227c91f1f303dd260f9408", func := "loop.example/g01076/laws.FnExactAreBindings", spec := "fnExactAreBindings", recurses := true, apart := false }
def FnExactAreBindingsSaid : Prop := fnExactAreBindingsRow.holds Try.pinned (OpenSpec.ofChange fnExactAreBindingsSpec)

/-- ITS FALSE NEIGHBOUR: 'it returns false'. Refute it at one input. -/
def fnExactAreBindingsWrong : ChangeSpec := { name := "fnExactAreBindings", fn := fun _ => fun
  | [d] => { results := [.lit (.bool false)], args := [d] }
  | _ => none }
def FnExactAreBindingsWrongFalsely : Prop := fnExactAreBindingsRow.holds Try.pinned (OpenSpec.ofChange fnExactAreBindingsWrong)

/-- 'laws.FnExactProveMember': WHATEVER THE INPUT: true; the input reads as it did. -/
def fnExactProveMemberSpec : ChangeSpec := { name := "fnExactProveMember", fn := fun _ => fun
  | [d1, d2, d3] => { results := [.lit (.bool true)], args := [d1, d2, d3] }
  | _ => none }
def fnExactProveMemberRow : OpenClaim := { program := "ytkhbdmlhjnijaaa", sum := "14c6cf5ed243e2e6fc2c505463045ac8e4c5b733c9227c91f1f303dd260f9408", func := "loop.example/g01076/laws.FnExactProveMember", spec := "fnExactProveMember", recurses := true, apart := false }
def FnExactProveMemberSaid : Prop := fnExactProveMemberRow.holds Try.pinned (OpenSpec.ofChange fnExactProveMemberSpec)

/-- ITS FALSE NEIGHBOUR: 'it returns false'. Refute it at one input. -/
def fnExactProveMemberWrong : ChangeSpec := { name := "fnExactProveMember", fn := fun _ => fun
  | [d1, d2, d3] => { results := [.lit (.bool false)], args := [d1, d2, d3] }
  | _ => none }
def FnExactProveMemberWrongFalsely : Prop := fnExactProveMemberRow.holds Try.pinned (OpenSpec.ofChange fnExactProveMemberWrong)

/- THE SECOND FORM. 'bulk': how many values and letters a reading holds, each counted each time it is reached (what is shared counts as often as it is met; a slice's spare places count too). A statement '..UptoSaid' is the law's where the arguments, and the package variables that the reading takes, are together of bulk at most 1048576: NARROWER than '..Said'. Prove '..Said' where nothing that the law and all that it calls make is longer than what came in: it says more and counts as full. Else prove '..UptoSaid'. A law counts once. -/
mutual
def uptoBulk {H : Type} : DataW H → Nat
  | .lit (.string bytes) => bytes.length + 1
  | .lit _ => 1
  | .nil => 1
  | .ptr d => uptoBulk d + 1
  | .slice elems spare => uptoBulkAll elems + uptoBulkAll spare + 1
  | .agg parts => uptoBulkAll parts + 1
  | .iface _ d => uptoBulk d + 1
  | .map entries => uptoBulkEntries entries + 1
  | .held _ => 1
def uptoBulkAll {H : Type} : List (DataW H) → Nat
  | [] => 0
  | d :: r => uptoBulk d + uptoBulkAll r
def uptoBulkEntries {H : Type} : List (Lit × DataW H) → Nat
  | [] => 0
  | x :: r => uptoBulkEntry x + uptoBulkEntries r
def uptoBulkEntry {H : Type} : Lit × DataW H → Nat
  | (.string bytes, d) => bytes.length + uptoBulk d + 1
  | (_, d) => uptoBulk d + 1
 end
def uptoSmall : (H : Type) → List (DataW H) → Bool := fun _ ds => decide (uptoBulkAll ds ≤ 1048576)
def OpenSpec.upto (s : _root_.Go.ChangeSpec) : _root_.Go.OpenSpec := { _root_.Go.OpenSpec.ofChange s with cond := some uptoSmall }

/-- 'laws.FnExactProveConsistent', WHERE WHAT IT READS IS OF BULK AT MOST 1048576: true; the input reads as it did. -/
def fnExactProveConsistentUptoRow : OpenClaim := { program := "ytkhbdmlhjnijaaa", sum := "14c6cf5ed243e2e6fc2c505463045ac8e4c5b733c9227c91f1f303dd260f9408", func := "loop.example/g01076/laws.FnExactProveConsistent", spec := "fnExactProveConsistent", recurses := true, apart := false, narrowed := true }
def FnExactProveConsistentUptoSaid : Prop := fnExactProveConsistentUptoRow.holds Try.pinned (OpenSpec.upto fnExactProveConsistentSpec)

/-- 'laws.FnExactAreBindings', WHERE WHAT IT READS IS OF BULK AT MOST 1048576: true; the input reads as it did. -/
def fnExactAreBindingsUptoRow : OpenClaim := { program := "ytkhbdmlhjnijaaa", sum := "14c6cf5ed243e2e6fc2c505463045ac8e4c5b733c9227c91f1f303dd260f9408", func := "loop.example/g01076/laws.FnExactAreBindings", spec := "fnExactAreBindings", recurses := true, apart := false, narrowed := true }
def FnExactAreBindingsUptoSaid : Prop := fnExactAreBindingsUptoRow.holds Try.pinned (OpenSpec.upto fnExactAreBindingsSpec)

/-- 'laws.FnExactProveMember', WHERE WHAT IT READS IS OF BULK AT MOST 1048576: true; the input reads as it did. -/
def fnExactProveMemberUptoRow : OpenClaim := { program := "ytkhbdmlhjnijaaa", sum := "14c6cf5ed243e2e6fc2c505463045ac8e4c5b733c9227c91f1f303dd260f9408", func := "loop.example/g01076/laws.FnExactProveMember", spec := "fnExactProveMember", recurses := true, apart := false, narrowed := true }
def FnExactProveMemberUptoSaid : Prop := fnExactProveMemberUptoRow.holds Try.pinned (OpenSpec.upto fnExactProveMemberSpec)

end Rows
end Go.Proofs.Ytkhbdmlhjnijaaa
