/-
  No cell of these rows narrows 'for every input' (looked for: loops, veiled, ifaces, maps, wideKeys, modest, calm, conditions, laid).
  DERIVED. THE GIVEN ROWS OF THIS SEAT. 8 by the template 'for every input the law returns true; each argument reads behind the call as it read before'; 0 by the template 'total and deterministic' (their statements: YtngdcibjjomfjaaTotals.lean).
  GIVEN WITH THE SEED: the statements are not yours to turn. If you find one false, say at which input.
  Laid BY PROGRAM, IN A SANDBOX (cutbox-rows.mjs): the forced cells as the released guide's own fill.sh prints them over the translation 0948783cbfcd875c… (all of the seat's roots in one cut). By AI agents, Wed Nov 11 2026. No macro, syntax, notation, axiom, sorry.
-/
import Derived.Test.YtngdcibjjomfjaaChecked
import GoSem.Claim
import GoSem.ClaimJoined
import GoSem.ClaimMapViews
import Derived.JoinedTies
import Derived.KernelRfl
namespace Go.Proofs.Ytngdcibjjomfjaa
/- THE CELL 'sum', in the pinned program and in every row, IS THE sha256 OF THE DUMP (.gsa) THAT YtngdcibjjomfjaaProg.lean LOADS. Nothing in Lean hashes anything: it is a label: what it is worth is what the hold of that sum in a sandbox is worth. -/
noncomputable def Try.pinned : Pinned := { name := "ytngdcibjjomfjaa", sum := "0948783cbfcd875c6545644f586fe11fcef7427fc34a2624692269d0b7400833", checked := Try.checked }
namespace Rows
def none {H : Type} : Left H := { results := [], args := [] }

/-- 'laws.FnExactGroupToLie': WHATEVER THE INPUT: true; the input reads as it did. -/
def fnExactGroupToLieSpec : ChangeSpec := { name := "fnExactGroupToLie", fn := fun _ => fun
  | [d1, d2] => { results := [.lit (.bool true)], args := [d1, d2] }
  | _ => none }
def fnExactGroupToLieRow : OpenClaim := { program := "ytngdcibjjomfjaa", sum := "0948783cbfcd875c6545644f586fe11fcef7427fc34a2624692269d0b7400833", func := "loop.example/g01076/laws.FnExactGroupToLie", spec := "fnExactGroupToLie", unfollowed := true, recurses := true, apart := false }
def FnExactGroupToLieSaid : Prop := fnExactGroupToLieRow.holds Try.pinned (OpenSpec.ofChange fnExactGroupToLieSpec)

/-- ITS FALSE NEIGHBOUR: 'it returns false'. Refute it at one input. -/
def fnExactGroupToLieWrong : ChangeSpec := { name := "fnExactGroupToLie", fn := fun _ => fun
  | [d1, d2] => { results := [.lit (.bool false)], args := [d1, d2] }
  | _ => none }
def FnExactGroupToLieWrongFalsely : Prop := fnExactGroupToLieRow.holds Try.pinned (OpenSpec.ofChange fnExactGroupToLieWrong)

/-- 'laws.FnExactLieToGroup': WHATEVER THE INPUT: true; the input reads as it did. -/
def fnExactLieToGroupSpec : ChangeSpec := { name := "fnExactLieToGroup", fn := fun _ => fun
  | [d1, d2] => { results := [.lit (.bool true)], args := [d1, d2] }
  | _ => none }
def fnExactLieToGroupRow : OpenClaim := { program := "ytngdcibjjomfjaa", sum := "0948783cbfcd875c6545644f586fe11fcef7427fc34a2624692269d0b7400833", func := "loop.example/g01076/laws.FnExactLieToGroup", spec := "fnExactLieToGroup", unfollowed := true, recurses := true, apart := false }
def FnExactLieToGroupSaid : Prop := fnExactLieToGroupRow.holds Try.pinned (OpenSpec.ofChange fnExactLieToGroupSpec)

/-- ITS FALSE NEIGHBOUR: 'it returns false'. Refute it at one input. -/
def fnExactLieToGroupWrong : ChangeSpec := { name := "fnExactLieToGroup", fn := fun _ => fun
  | [d1, d2] => { results := [.lit (.bool false)], args := [d1, d2] }
  | _ => none }
def FnExactLieToGroupWrongFalsely : Prop := fnExactLieToGroupRow.holds Try.pinned (OpenSpec.ofChange fnExactLieToGroupWrong)

/-- 'laws.FnExactCountLieAutomorphisms': WHATEVER THE INPUT: true; the input reads as it did. -/
def fnExactCountLieAutomorphismsSpec : ChangeSpec := { name := "fnExactCountLieAutomorphisms", fn := fun _ => fun
  | [d] => { results := [.lit (.bool true)], args := [d] }
  | _ => none }
def fnExactCountLieAutomorphismsRow : OpenClaim := { program := "ytngdcibjjomfjaa", sum := "0948783cbfcd875c6545644f586fe11fcef7427fc34a2624692269d0b7400833", func := "loop.example/g01076/laws.FnExactCountLieAutomorphisms", spec := "fnExactCountLieAutomorphisms", unfollowed := true, recurses := true, apart := false }
def FnExactCountLieAutomorphismsSaid : Prop := fnExactCountLieAutomorphismsRow.holds Try.pinned (OpenSpec.ofChange fnExactCountLieAutomorphismsSpec)

/-- ITS FALSE NEIGHBOUR: 'it returns false'. Refute it at one input. -/
def fnExactCountLieAutomorphismsWrong : ChangeSpec := { name := "fnExactCountLieAutomorphisms", fn := fun _ => fun
  | [d] => { results := [.lit (.bool false)], args := [d] }
  | _ => none }
def FnExactCountLieAutomorphismsWrongFalsely : Prop := fnExactCountLieAutomorphismsRow.holds Try.pinned (OpenSpec.ofChange fnExactCountLieAutomorphismsWrong)

/-- 'laws.FnExactIsCentralPresentation': WHATEVER THE INPUT: true; the input reads as it did. -/
def fnExactIsCentralPresentationSpec : ChangeSpec := { name := "fnExactIsCentralPresentation", fn := fun _ => fun
  | [d] => { results := [.lit (.bool true)], args := [d] }
  | _ => none }
def fnExactIsCentralPresentationRow : OpenClaim := { program := "ytngdcibjjomfjaa", sum := "0948783cbfcd875c6545644f586fe11fcef7427fc34a2624692269d0b7400833", func := "loop.example/g01076/laws.FnExactIsCentralPresentation", spec := "fnExactIsCentralPresentation", recurses := true, apart := false }
def FnExactIsCentralPresentationSaid : Prop := fnExactIsCentralPresentationRow.holds Try.pinned (OpenSpec.ofChange fnExactIsCentralPresentationSpec)

/-- ITS FALSE NEIGHBOUR: 'it returns false'. Refute it at one input. -/
def fnExactIsCentralPresentationWrong : ChangeSpec := { name := "fnExactIsCentralPresentation", fn := fun _ => fun
  | [d] => { results := [.lit (.bool false)], args := [d] }
  | _ => none }
def FnExactIsCentralPresentationWrongFalsely : Prop := fnExactIsCentralPresentationRow.holds Try.pinned (OpenSpec.ofChange fnExactIsCentralPresentationWrong)

/-- 'laws.FnExactIsLazardGroup': WHATEVER THE INPUT: true; the input reads as it did. -/
def fnExactIsLazardGroupSpec : ChangeSpec := { name := "fnExactIsLazardGroup", fn := fun _ => fun
  | [d] => { results := [.lit (.bool true)], args := [d] }
  | _ => none }
def fnExactIsLazardGroupRow : OpenClaim := { program := "ytngdcibjjomfjaa", sum := "0948783cbfcd875c6545644f586fe11fcef7427fc34a2624692269d0b7400833", func := "loop.example/g01076/laws.FnExactIsLazardGroup", spec := "fnExactIsLazardGroup", unfollowed := true, recurses := true, apart := false }
def FnExactIsLazardGroupSaid : Prop := fnExactIsLazardGroupRow.holds Try.pinned (OpenSpec.ofChange fnExactIsLazardGroupSpec)

/-- ITS FALSE NEIGHBOUR: 'it returns false'. Refute it at one input. -/
def fnExactIsLazardGroupWrong : ChangeSpec := { name := "fnExactIsLazardGroup", fn := fun _ => fun
  | [d] => { results := [.lit (.bool false)], args := [d] }
  | _ => none }
def FnExactIsLazardGroupWrongFalsely : Prop := fnExactIsLazardGroupRow.holds Try.pinned (OpenSpec.ofChange fnExactIsLazardGroupWrong)

/-- 'laws.FnExactGroupSum': WHATEVER THE INPUT: true; the input reads as it did. -/
def fnExactGroupSumSpec : ChangeSpec := { name := "fnExactGroupSum", fn := fun _ => fun
  | [d1, d2, d3] => { results := [.lit (.bool true)], args := [d1, d2, d3] }
  | _ => none }
def fnExactGroupSumRow : OpenClaim := { program := "ytngdcibjjomfjaa", sum := "0948783cbfcd875c6545644f586fe11fcef7427fc34a2624692269d0b7400833", func := "loop.example/g01076/laws.FnExactGroupSum", spec := "fnExactGroupSum", unfollowed := true, recurses := true, apart := false }
def FnExactGroupSumSaid : Prop := fnExactGroupSumRow.holds Try.pinned (OpenSpec.ofChange fnExactGroupSumSpec)

/-- ITS FALSE NEIGHBOUR: 'it returns false'. Refute it at one input. -/
def fnExactGroupSumWrong : ChangeSpec := { name := "fnExactGroupSum", fn := fun _ => fun
  | [d1, d2, d3] => { results := [.lit (.bool false)], args := [d1, d2, d3] }
  | _ => none }
def FnExactGroupSumWrongFalsely : Prop := fnExactGroupSumRow.holds Try.pinned (OpenSpec.ofChange fnExactGroupSumWrong)

/-- 'laws.FnExactGroupBracket': WHATEVER THE INPUT: true; the input reads as it did. -/
def fnExactGroupBracketSpec : ChangeSpec := { name := "fnExactGroupBracket", fn := fun _ => fun
  | [d1, d2, d3] => { results := [.lit (.bool true)], args := [d1, d2, d3] }
  | _ => none }
def fnExactGroupBracketRow : OpenClaim := { program := "ytngdcibjjomfjaa", sum := "0948783cbfcd875c6545644f586fe11fcef7427fc34a2624692269d0b7400833", func := "loop.example/g01076/laws.FnExactGroupBracket", spec := "fnExactGroupBracket", unfollowed := true, recurses := true, apart := false }
def FnExactGroupBracketSaid : Prop := fnExactGroupBracketRow.holds Try.pinned (OpenSpec.ofChange fnExactGroupBracketSpec)

/-- ITS FALSE NEIGHBOUR: 'it returns false'. Refute it at one input. -/
def fnExactGroupBracketWrong : ChangeSpec := { name := "fnExactGroupBracket", fn := fun _ => fun
  | [d1, d2, d3] => { results := [.lit (.bool false)], args := [d1, d2, d3] }
  | _ => none }
def FnExactGroupBracketWrongFalsely : Prop := fnExactGroupBracketRow.holds Try.pinned (OpenSpec.ofChange fnExactGroupBracketWrong)

/-- 'laws.FnExactProveConsistent': WHATEVER THE INPUT: true; the input reads as it did. -/
def fnExactProveConsistentSpec : ChangeSpec := { name := "fnExactProveConsistent", fn := fun _ => fun
  | [d] => { results := [.lit (.bool true)], args := [d] }
  | _ => none }
def fnExactProveConsistentRow : OpenClaim := { program := "ytngdcibjjomfjaa", sum := "0948783cbfcd875c6545644f586fe11fcef7427fc34a2624692269d0b7400833", func := "loop.example/g01076/laws.FnExactProveConsistent", spec := "fnExactProveConsistent", recurses := true, apart := false }
def FnExactProveConsistentSaid : Prop := fnExactProveConsistentRow.holds Try.pinned (OpenSpec.ofChange fnExactProveConsistentSpec)

/-- ITS FALSE NEIGHBOUR: 'it returns false'. Refute it at one input. -/
def fnExactProveConsistentWrong : ChangeSpec := { name := "fnExactProveConsistent", fn := fun _ => fun
  | [d] => { results := [.lit (.bool false)], args := [d] }
  | _ => none }
def FnExactProveConsistentWrongFalsely : Prop := fnExactProveConsistentRow.holds Try.pinned (OpenSpec.ofChange fnExactProveConsistentWrong)

/- THE SECOND FORM. 'bulk': how many values and letters a reading holds, each counted each time it is reached (what is shared counts as often as it is met; a slice's spare places count too). A statement '..UptoSaid' is the law's where the arguments, and the package variables that the reading takes, are together of bulk at most 1048576: NARROWER than '..Said'. Prove '..Said' where nothing that the law and all that it calls make is longer than what came in: it says more and counts as full. Else prove '..UptoSaid'. A law counts once. -/
mutual
def uptoBulk {H : Type} : DataW H → Nat
  | .lit (.string bytes) => bytes.length + 1
  | .lit _ => 1
  | .nil => 1
  | .ptr d => uptoBulk d + 1
  | .slice elems spare => uptoBulkAll elems + uptoBulkAll spare + 1
  | .agg parts => uptoBulkAll parts + 1
  | .iface _ d => uptoBulk d + 1
  | .map entries => uptoBulkEntries entries + 1
  | .held _ => 1
def uptoBulkAll {H : Type} : List (DataW H) → Nat
  | [] => 0
  | d :: r => uptoBulk d + uptoBulkAll r
def uptoBulkEntries {H : Type} : List (Lit × DataW H) → Nat
  | [] => 0
  | x :: r => uptoBulkEntry x + uptoBulkEntries r
def uptoBulkEntry {H : Type} : Lit × DataW H → Nat
  | (.string bytes, d) => bytes.length + uptoBulk d + 1
  | (_, d) => uptoBulk d + 1
 end
def uptoSmall : (H : Type) → List (DataW H) → Bool := fun _ ds => decide (uptoBulkAll ds ≤ 1048576)
def OpenSpec.upto (s : _root_.Go.ChangeSpec) : _root_.Go.OpenSpec := { _root_.Go.OpenSpec.ofChange s with cond := some uptoSmall }

/-- 'laws.FnExactGroupToLie', WHERE WHAT IT READS IS OF BULK AT MOST 1048576: true; the input reads as it did. -/
def fnExactGroupToLieUptoRow : OpenClaim := { program := "ytngdcibjjomfjaa", sum := "0948783cbfcd875c6545644f586fe11fcef7427fc34a2624692269d0b7400833", func := "loop.example/g01076/laws.FnExactGroupToLie", spec := "fnExactGroupToLie", unfollowed := true, recurses := true, apart := false, narrowed := true }
def FnExactGroupToLieUptoSaid : Prop := fnExactGroupToLieUptoRow.holds Try.pinned (OpenSpec.upto fnExactGroupToLieSpec)

/-- 'laws.FnExactLieToGroup', WHERE WHAT IT READS IS OF BULK AT MOST 1048576: true; the input reads as it did. -/
def fnExactLieToGroupUptoRow : OpenClaim := { program := "ytngdcibjjomfjaa", sum := "0948783cbfcd875c6545644f586fe11fcef7427fc34a2624692269d0b7400833", func := "loop.example/g01076/laws.FnExactLieToGroup", spec := "fnExactLieToGroup", unfollowed := true, recurses := true, apart := false, narrowed := true }
def FnExactLieToGroupUptoSaid : Prop := fnExactLieToGroupUptoRow.holds Try.pinned (OpenSpec.upto fnExactLieToGroupSpec)

/-- 'laws.FnExactCountLieAutomorphisms', WHERE WHAT IT READS IS OF BULK AT MOST 1048576: true; the input reads as it did. -/
def fnExactCountLieAutomorphismsUptoRow : OpenClaim := { program := "ytngdcibjjomfjaa", sum := "0948783cbfcd875c6545644f586fe11fcef7427fc34a2624692269d0b7400833", func := "loop.example/g01076/laws.FnExactCountLieAutomorphisms", spec := "fnExactCountLieAutomorphisms", unfollowed := true, recurses := true, apart := false, narrowed := true }
def FnExactCountLieAutomorphismsUptoSaid : Prop := fnExactCountLieAutomorphismsUptoRow.holds Try.pinned (OpenSpec.upto fnExactCountLieAutomorphismsSpec)

/-- 'laws.FnExactIsCentralPresentation', WHERE WHAT IT READS IS OF BULK AT MOST 1048576: true; the input reads as it did. -/
def fnExactIsCentralPresentationUptoRow : OpenClaim := { program := "ytngdcibjjomfjaa", sum := "0948783cbfcd875c6545644f586fe11fcef7427fc34a2624692269d0b7400833", func := "loop.example/g01076/laws.FnExactIsCentralPresentation", spec := "fnExactIsCentralPresentation", recurses := true, apart := false, narrowed := true }
def FnExactIsCentralPresentationUptoSaid : Prop := fnExactIsCentralPresentationUptoRow.holds Try.pinned (OpenSpec.upto fnExactIsCentralPresentationSpec)

/-- 'laws.FnExactIsLazardGroup', WHERE WHAT IT READS IS OF BULK AT MOST 1048576: true; the input reads as it did. -/
def fnExactIsLazardGroupUptoRow : OpenClaim := { program := "ytngdcibjjomfjaa", sum := "0948783cbfcd875c6545644f586fe11fcef7427fc34a2624692269d0b7400833", func := "loop.example/g01076/laws.FnExactIsLazardGroup", spec := "fnExactIsLazardGroup", unfollowed := true, recurses := true, apart := false, narrowed := true }
def FnExactIsLazardGroupUptoSaid : Prop := fnExactIsLazardGroupUptoRow.holds Try.pinned (OpenSpec.upto fnExactIsLazardGroupSpec)

/-- 'laws.FnExactGroupSum', WHERE WHAT IT READS IS OF BULK AT MOST 1048576: true; the input reads as it did. -/
def fnExactGroupSumUptoRow : OpenClaim := { program := "ytngdcibjjomfjaa", sum := "0948783cbfcd875c6545644f586fe11fcef7427fc34a2624692269d0b7400833", func := "loop.example/g01076/laws.FnExactGroupSum", spec := "fnExactGroupSum", unfollowed := true, recurses := true, apart := false, narrowed := true }
def FnExactGroupSumUptoSaid : Prop := fnExactGroupSumUptoRow.holds Try.pinned (OpenSpec.upto fnExactGroupSumSpec)

/-- 'laws.FnExactGroupBracket', WHERE WHAT IT READS IS OF BULK AT MOST 1048576: true; the input reads as it did. -/
def fnExactGroupBracketUptoRow : OpenClaim := { program := "ytngdcibjjomfjaa", sum := "0948783cbfcd875c6545644f586fe11fcef7427fc34a2624692269d0b7400833", func := "loop.example/g01076/laws.FnExactGroupBracket", spec := "fnExactGroupBracket", unfollowed := true, recurses := true, apart := false, narrowed := true }
def FnExactGroupBracketUptoSaid : Prop := fnExactGroupBracketUptoRow.holds Try.pinned (OpenSpec.upto fnExactGroupBracketSpec)

/-- 'laws.FnExactProveConsistent', WHERE WHAT IT READS IS OF BULK AT MOST 1048576: true; the input reads as it did. -/
def fnExactProveConsistentUptoRow : OpenClaim := { program := "ytngdcibjjomfjaa", sum := "0948783cbfcd875c6545644f586fe11fcef7427fc34a2624692269d0b7400833", func := "loop.example/g01076/laws.FnExactProveConsistent", spec := "fnExactProveConsistent", recurses := true, apart := false, narrowed := true }
def FnExactProveConsistentUptoSaid : Prop := fnExactProveConsistentUptoRow.holds Try.pinned (OpenSpec.upto fnExactProveConsistentSpec)

end Rows
end Go.Proofs.Ytngdcibjjomfjaa
