/-
  No cell of these rows narrows 'for every input' (looked for: loops, veiled, ifaces, maps, wideKeys, modest, calm, conditions, laid).
  DERIVED. THE GIVEN ROWS OF THIS SEAT. 4 by the template 'for every input the law returns true; each argument reads behind the call as it read before'; 0 by the template 'total and deterministic' (their statements: YtngdcibjjomfjaaGreatTotals.lean).
  GIVEN WITH THE SEED: the statements are not yours to turn. If you find one false, say at which input.
  Laid BY PROGRAM, IN A SANDBOX (cutbox-rows.mjs): the forced cells as the released guide's own fill.sh prints them over the translation 8c4466775be78c97… (all of the seat's roots in one cut). By AI agents, Wed Nov 11 2026. No macro, syntax, notation, axiom, sorry.
-/
import Derived.Test.YtngdcibjjomfjaaGreatChecked
import GoSem.Claim
import GoSem.ClaimJoined
import GoSem.ClaimMapViews
import Derived.JoinedTies
import Derived.KernelRfl
namespace Go.Proofs.YtngdcibjjomfjaaGreat
/- THE CELL 'sum', in the pinned program and in every row, IS THE sha256 OF THE DUMP (.gsa) THAT YtngdcibjjomfjaaGreatProg.lean LOADS. Nothing in Lean hashes anything: it is a label: what it is worth is what the hold of that sum in a sandbox is worth. -/
noncomputable def Tryz.pinned : Pinned := { name := "ytngdcibjjomfjaagreat", sum := "8c4466775be78c979d0a6dedff19fc0995fed4df9d9c81fa6cae4fcdf8e3e433", checked := Tryz.checked }
namespace Rows
def none {H : Type} : Left H := { results := [], args := [] }

/-- 'laws.FnExactLazardGroup': WHATEVER THE INPUT: true; the input reads as it did. -/
def fnExactLazardGroupSpec : ChangeSpec := { name := "fnExactLazardGroup", fn := fun _ => fun
  | [d] => { results := [.lit (.bool true)], args := [d] }
  | _ => none }
def fnExactLazardGroupRow : OpenClaim := { program := "ytngdcibjjomfjaagreat", sum := "8c4466775be78c979d0a6dedff19fc0995fed4df9d9c81fa6cae4fcdf8e3e433", func := "loop.example/g01076/laws.FnExactLazardGroup", spec := "fnExactLazardGroup", unfollowed := true, recurses := true, apart := false }
def FnExactLazardGroupSaid : Prop := fnExactLazardGroupRow.holds Tryz.pinned (OpenSpec.ofChange fnExactLazardGroupSpec)

/-- ITS FALSE NEIGHBOUR: 'it returns false'. Refute it at one input. -/
def fnExactLazardGroupWrong : ChangeSpec := { name := "fnExactLazardGroup", fn := fun _ => fun
  | [d] => { results := [.lit (.bool false)], args := [d] }
  | _ => none }
def FnExactLazardGroupWrongFalsely : Prop := fnExactLazardGroupRow.holds Tryz.pinned (OpenSpec.ofChange fnExactLazardGroupWrong)

/-- 'laws.FnExactLazardRing': WHATEVER THE INPUT: true; the input reads as it did. -/
def fnExactLazardRingSpec : ChangeSpec := { name := "fnExactLazardRing", fn := fun _ => fun
  | [d] => { results := [.lit (.bool true)], args := [d] }
  | _ => none }
def fnExactLazardRingRow : OpenClaim := { program := "ytngdcibjjomfjaagreat", sum := "8c4466775be78c979d0a6dedff19fc0995fed4df9d9c81fa6cae4fcdf8e3e433", func := "loop.example/g01076/laws.FnExactLazardRing", spec := "fnExactLazardRing", unfollowed := true, recurses := true, apart := false }
def FnExactLazardRingSaid : Prop := fnExactLazardRingRow.holds Tryz.pinned (OpenSpec.ofChange fnExactLazardRingSpec)

/-- ITS FALSE NEIGHBOUR: 'it returns false'. Refute it at one input. -/
def fnExactLazardRingWrong : ChangeSpec := { name := "fnExactLazardRing", fn := fun _ => fun
  | [d] => { results := [.lit (.bool false)], args := [d] }
  | _ => none }
def FnExactLazardRingWrongFalsely : Prop := fnExactLazardRingRow.holds Tryz.pinned (OpenSpec.ofChange fnExactLazardRingWrong)

/-- 'laws.FnExactSubringToSubgroup': WHATEVER THE INPUT: true; the input reads as it did. -/
def fnExactSubringToSubgroupSpec : ChangeSpec := { name := "fnExactSubringToSubgroup", fn := fun _ => fun
  | [d1, d2] => { results := [.lit (.bool true)], args := [d1, d2] }
  | _ => none }
def fnExactSubringToSubgroupRow : OpenClaim := { program := "ytngdcibjjomfjaagreat", sum := "8c4466775be78c979d0a6dedff19fc0995fed4df9d9c81fa6cae4fcdf8e3e433", func := "loop.example/g01076/laws.FnExactSubringToSubgroup", spec := "fnExactSubringToSubgroup", unfollowed := true, recurses := true, apart := false }
def FnExactSubringToSubgroupSaid : Prop := fnExactSubringToSubgroupRow.holds Tryz.pinned (OpenSpec.ofChange fnExactSubringToSubgroupSpec)

/-- ITS FALSE NEIGHBOUR: 'it returns false'. Refute it at one input. -/
def fnExactSubringToSubgroupWrong : ChangeSpec := { name := "fnExactSubringToSubgroup", fn := fun _ => fun
  | [d1, d2] => { results := [.lit (.bool false)], args := [d1, d2] }
  | _ => none }
def FnExactSubringToSubgroupWrongFalsely : Prop := fnExactSubringToSubgroupRow.holds Tryz.pinned (OpenSpec.ofChange fnExactSubringToSubgroupWrong)

/-- 'laws.FnExactSubgroupToSubring': WHATEVER THE INPUT: true; the input reads as it did. -/
def fnExactSubgroupToSubringSpec : ChangeSpec := { name := "fnExactSubgroupToSubring", fn := fun _ => fun
  | [d1, d2] => { results := [.lit (.bool true)], args := [d1, d2] }
  | _ => none }
def fnExactSubgroupToSubringRow : OpenClaim := { program := "ytngdcibjjomfjaagreat", sum := "8c4466775be78c979d0a6dedff19fc0995fed4df9d9c81fa6cae4fcdf8e3e433", func := "loop.example/g01076/laws.FnExactSubgroupToSubring", spec := "fnExactSubgroupToSubring", unfollowed := true, recurses := true, apart := false }
def FnExactSubgroupToSubringSaid : Prop := fnExactSubgroupToSubringRow.holds Tryz.pinned (OpenSpec.ofChange fnExactSubgroupToSubringSpec)

/-- ITS FALSE NEIGHBOUR: 'it returns false'. Refute it at one input. -/
def fnExactSubgroupToSubringWrong : ChangeSpec := { name := "fnExactSubgroupToSubring", fn := fun _ => fun
  | [d1, d2] => { results := [.lit (.bool false)], args := [d1, d2] }
  | _ => none }
def FnExactSubgroupToSubringWrongFalsely : Prop := fnExactSubgroupToSubringRow.holds Tryz.pinned (OpenSpec.ofChange fnExactSubgroupToSubringWrong)

/- THE SECOND FORM. 'bulk': how many values and letters a reading holds, each counted each time it is reached (what is shared counts as often as it is met; a slice's spare places count too). A statement '..UptoSaid' is the law's where the arguments, and the package variables that the reading takes, are together of bulk at most 1048576: NARROWER than '..Said'. Prove '..Said' where nothing that the law and all that it calls make is longer than what came in: it says more and counts as full. Else prove '..UptoSaid'. A law counts once. -/
mutual
def uptoBulk {H : Type} : DataW H → Nat
  | .lit (.string bytes) => bytes.length + 1
  | .lit _ => 1
  | .nil => 1
  | .ptr d => uptoBulk d + 1
  | .slice elems spare => uptoBulkAll elems + uptoBulkAll spare + 1
  | .agg parts => uptoBulkAll parts + 1
  | .iface _ d => uptoBulk d + 1
  | .map entries => uptoBulkEntries entries + 1
  | .held _ => 1
def uptoBulkAll {H : Type} : List (DataW H) → Nat
  | [] => 0
  | d :: r => uptoBulk d + uptoBulkAll r
def uptoBulkEntries {H : Type} : List (Lit × DataW H) → Nat
  | [] => 0
  | x :: r => uptoBulkEntry x + uptoBulkEntries r
def uptoBulkEntry {H : Type} : Lit × DataW H → Nat
  | (.string bytes, d) => bytes.length + uptoBulk d + 1
  | (_, d) => uptoBulk d + 1
 end
def uptoSmall : (H : Type) → List (DataW H) → Bool := fun _ ds => decide (uptoBulkAll ds ≤ 1048576)
def OpenSpec.upto (s : _root_.Go.ChangeSpec) : _root_.Go.OpenSpec := { _root_.Go.OpenSpec.ofChange s with cond := some uptoSmall }

/-- 'laws.FnExactLazardGroup', WHERE WHAT IT READS IS OF BULK AT MOST 1048576: true; the input reads as it did. -/
def fnExactLazardGroupUptoRow : OpenClaim := { program := "ytngdcibjjomfjaagreat", sum := "8c4466775be78c979d0a6dedff19fc0995fed4df9d9c81fa6cae4fcdf8e3e433", func := "loop.example/g01076/laws.FnExactLazardGroup", spec := "fnExactLazardGroup", unfollowed := true, recurses := true, apart := false, narrowed := true }
def FnExactLazardGroupUptoSaid : Prop := fnExactLazardGroupUptoRow.holds Tryz.pinned (OpenSpec.upto fnExactLazardGroupSpec)

/-- 'laws.FnExactLazardRing', WHERE WHAT IT READS IS OF BULK AT MOST 1048576: true; the input reads as it did. -/
def fnExactLazardRingUptoRow : OpenClaim := { program := "ytngdcibjjomfjaagreat", sum := "8c4466775be78c979d0a6dedff19fc0995fed4df9d9c81fa6cae4fcdf8e3e433", func := "loop.example/g01076/laws.FnExactLazardRing", spec := "fnExactLazardRing", unfollowed := true, recurses := true, apart := false, narrowed := true }
def FnExactLazardRingUptoSaid : Prop := fnExactLazardRingUptoRow.holds Tryz.pinned (OpenSpec.upto fnExactLazardRingSpec)

/-- 'laws.FnExactSubringToSubgroup', WHERE WHAT IT READS IS OF BULK AT MOST 1048576: true; the input reads as it did. -/
def fnExactSubringToSubgroupUptoRow : OpenClaim := { program := "ytngdcibjjomfjaagreat", sum := "8c4466775be78c979d0a6dedff19fc0995fed4df9d9c81fa6cae4fcdf8e3e433", func := "loop.example/g01076/laws.FnExactSubringToSubgroup", spec := "fnExactSubringToSubgroup", unfollowed := true, recurses := true, apart := false, narrowed := true }
def FnExactSubringToSubgroupUptoSaid : Prop := fnExactSubringToSubgroupUptoRow.holds Tryz.pinned (OpenSpec.upto fnExactSubringToSubgroupSpec)

/-- 'laws.FnExactSubgroupToSubring', WHERE WHAT IT READS IS OF BULK AT MOST 1048576: true; the input reads as it did. -/
def fnExactSubgroupToSubringUptoRow : OpenClaim := { program := "ytngdcibjjomfjaagreat", sum := "8c4466775be78c979d0a6dedff19fc0995fed4df9d9c81fa6cae4fcdf8e3e433", func := "loop.example/g01076/laws.FnExactSubgroupToSubring", spec := "fnExactSubgroupToSubring", unfollowed := true, recurses := true, apart := false, narrowed := true }
def FnExactSubgroupToSubringUptoSaid : Prop := fnExactSubgroupToSubringUptoRow.holds Tryz.pinned (OpenSpec.upto fnExactSubgroupToSubringSpec)

end Rows
end Go.Proofs.YtngdcibjjomfjaaGreat
