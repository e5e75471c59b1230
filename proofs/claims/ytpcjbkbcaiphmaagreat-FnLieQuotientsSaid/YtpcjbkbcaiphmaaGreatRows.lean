/-
  No cell of these rows narrows 'for every input' (looked for: loops, veiled, ifaces, maps, wideKeys, modest, calm, conditions, laid).
  DERIVED. THE GIVEN ROWS OF THIS SEAT. 9 by the template 'for every input the law returns true; each argument reads behind the call as it read before'; 0 by the template 'total and deterministic' (their statements: YtpcjbkbcaiphmaaGreatTotals.lean).
  GIVEN WITH THE SEED: the statements are not yours to turn. If you find one false, say at which input.
  Laid BY PROGRAM, IN A SANDBOX (cutbox-rows.mjs): the forced cells as the released guide's own fill.sh prints them over the translation 46cce4d5a87c0493… (all of the seat's roots in one cut). By AI agents, Wed Nov 11 2026. No macro, syntax, notation, axiom, sorry.
-/
import Derived.Test.YtpcjbkbcaiphmaaGreatChecked
import GoSem.Claim
import GoSem.ClaimJoined
import GoSem.ClaimMapViews
import Derived.JoinedTies
import Derived.KernelRfl
namespace Go.Proofs.YtpcjbkbcaiphmaaGreat
/- THE CELL 'sum', in the pinned program and in every row, IS THE sha256 OF THE DUMP (.gsa) THAT YtpcjbkbcaiphmaaGreatProg.lean LOADS. Nothing in Lean hashes anything: it is a label: what it is worth is what the hold of that sum in a sandbox is worth. -/
noncomputable def Tryz.pinned : Pinned := { name := "ytpcjbkbcaiphmaagreat", sum := "46cce4d5a87c0493bba83e88e1aaeab5bd104ed565187d26a69ce8570565028e", checked := Tryz.checked }
namespace Rows
def none {H : Type} : Left H := { results := [], args := [] }

/-- 'laws.FnBchGroup': WHATEVER THE INPUT: true; the input reads as it did. -/
def fnBchGroupSpec : ChangeSpec := { name := "fnBchGroup", fn := fun _ => fun
  | [d] => { results := [.lit (.bool true)], args := [d] }
  | _ => none }
def fnBchGroupRow : OpenClaim := { program := "ytpcjbkbcaiphmaagreat", sum := "46cce4d5a87c0493bba83e88e1aaeab5bd104ed565187d26a69ce8570565028e", func := "loop.example/g01076/laws.FnBchGroup", spec := "fnBchGroup", unfollowed := true, recurses := true, apart := false }
def FnBchGroupSaid : Prop := fnBchGroupRow.holds Tryz.pinned (OpenSpec.ofChange fnBchGroupSpec)

/-- ITS FALSE NEIGHBOUR: 'it returns false'. Refute it at one input. -/
def fnBchGroupWrong : ChangeSpec := { name := "fnBchGroup", fn := fun _ => fun
  | [d] => { results := [.lit (.bool false)], args := [d] }
  | _ => none }
def FnBchGroupWrongFalsely : Prop := fnBchGroupRow.holds Tryz.pinned (OpenSpec.ofChange fnBchGroupWrong)

/-- 'laws.FnBchBack': WHATEVER THE INPUT: true; the input reads as it did. -/
def fnBchBackSpec : ChangeSpec := { name := "fnBchBack", fn := fun _ => fun
  | [d] => { results := [.lit (.bool true)], args := [d] }
  | _ => none }
def fnBchBackRow : OpenClaim := { program := "ytpcjbkbcaiphmaagreat", sum := "46cce4d5a87c0493bba83e88e1aaeab5bd104ed565187d26a69ce8570565028e", func := "loop.example/g01076/laws.FnBchBack", spec := "fnBchBack", unfollowed := true, recurses := true, apart := false }
def FnBchBackSaid : Prop := fnBchBackRow.holds Tryz.pinned (OpenSpec.ofChange fnBchBackSpec)

/-- ITS FALSE NEIGHBOUR: 'it returns false'. Refute it at one input. -/
def fnBchBackWrong : ChangeSpec := { name := "fnBchBack", fn := fun _ => fun
  | [d] => { results := [.lit (.bool false)], args := [d] }
  | _ => none }
def FnBchBackWrongFalsely : Prop := fnBchBackRow.holds Tryz.pinned (OpenSpec.ofChange fnBchBackWrong)

/-- 'laws.FnConjugateTerms': WHATEVER THE INPUT: true; the input reads as it did. -/
def fnConjugateTermsSpec : ChangeSpec := { name := "fnConjugateTerms", fn := fun _ => fun
  | [d] => { results := [.lit (.bool true)], args := [d] }
  | _ => none }
def fnConjugateTermsRow : OpenClaim := { program := "ytpcjbkbcaiphmaagreat", sum := "46cce4d5a87c0493bba83e88e1aaeab5bd104ed565187d26a69ce8570565028e", func := "loop.example/g01076/laws.FnConjugateTerms", spec := "fnConjugateTerms", unfollowed := true, recurses := true, apart := false }
def FnConjugateTermsSaid : Prop := fnConjugateTermsRow.holds Tryz.pinned (OpenSpec.ofChange fnConjugateTermsSpec)

/-- ITS FALSE NEIGHBOUR: 'it returns false'. Refute it at one input. -/
def fnConjugateTermsWrong : ChangeSpec := { name := "fnConjugateTerms", fn := fun _ => fun
  | [d] => { results := [.lit (.bool false)], args := [d] }
  | _ => none }
def FnConjugateTermsWrongFalsely : Prop := fnConjugateTermsRow.holds Tryz.pinned (OpenSpec.ofChange fnConjugateTermsWrong)

/-- 'laws.FnSubringsOf': WHATEVER THE INPUT: true; the input reads as it did. -/
def fnSubringsOfSpec : ChangeSpec := { name := "fnSubringsOf", fn := fun _ => fun
  | [d] => { results := [.lit (.bool true)], args := [d] }
  | _ => none }
def fnSubringsOfRow : OpenClaim := { program := "ytpcjbkbcaiphmaagreat", sum := "46cce4d5a87c0493bba83e88e1aaeab5bd104ed565187d26a69ce8570565028e", func := "loop.example/g01076/laws.FnSubringsOf", spec := "fnSubringsOf", unfollowed := true, recurses := true, apart := false }
def FnSubringsOfSaid : Prop := fnSubringsOfRow.holds Tryz.pinned (OpenSpec.ofChange fnSubringsOfSpec)

/-- ITS FALSE NEIGHBOUR: 'it returns false'. Refute it at one input. -/
def fnSubringsOfWrong : ChangeSpec := { name := "fnSubringsOf", fn := fun _ => fun
  | [d] => { results := [.lit (.bool false)], args := [d] }
  | _ => none }
def FnSubringsOfWrongFalsely : Prop := fnSubringsOfRow.holds Tryz.pinned (OpenSpec.ofChange fnSubringsOfWrong)

/-- 'laws.FnLieQuotients': WHATEVER THE INPUT: true; the input reads as it did. -/
def fnLieQuotientsSpec : ChangeSpec := { name := "fnLieQuotients", fn := fun _ => fun
  | [d] => { results := [.lit (.bool true)], args := [d] }
  | _ => none }
def fnLieQuotientsRow : OpenClaim := { program := "ytpcjbkbcaiphmaagreat", sum := "46cce4d5a87c0493bba83e88e1aaeab5bd104ed565187d26a69ce8570565028e", func := "loop.example/g01076/laws.FnLieQuotients", spec := "fnLieQuotients", unfollowed := true, recurses := true, apart := false }
def FnLieQuotientsSaid : Prop := fnLieQuotientsRow.holds Tryz.pinned (OpenSpec.ofChange fnLieQuotientsSpec)

/-- ITS FALSE NEIGHBOUR: 'it returns false'. Refute it at one input. -/
def fnLieQuotientsWrong : ChangeSpec := { name := "fnLieQuotients", fn := fun _ => fun
  | [d] => { results := [.lit (.bool false)], args := [d] }
  | _ => none }
def FnLieQuotientsWrongFalsely : Prop := fnLieQuotientsRow.holds Tryz.pinned (OpenSpec.ofChange fnLieQuotientsWrong)

/-- 'laws.FnLieMaps': WHATEVER THE INPUT: true; the input reads as it did. -/
def fnLieMapsSpec : ChangeSpec := { name := "fnLieMaps", fn := fun _ => fun
  | [d] => { results := [.lit (.bool true)], args := [d] }
  | _ => none }
def fnLieMapsRow : OpenClaim := { program := "ytpcjbkbcaiphmaagreat", sum := "46cce4d5a87c0493bba83e88e1aaeab5bd104ed565187d26a69ce8570565028e", func := "loop.example/g01076/laws.FnLieMaps", spec := "fnLieMaps", unfollowed := true, recurses := true, apart := false }
def FnLieMapsSaid : Prop := fnLieMapsRow.holds Tryz.pinned (OpenSpec.ofChange fnLieMapsSpec)

/-- ITS FALSE NEIGHBOUR: 'it returns false'. Refute it at one input. -/
def fnLieMapsWrong : ChangeSpec := { name := "fnLieMaps", fn := fun _ => fun
  | [d] => { results := [.lit (.bool false)], args := [d] }
  | _ => none }
def FnLieMapsWrongFalsely : Prop := fnLieMapsRow.holds Tryz.pinned (OpenSpec.ofChange fnLieMapsWrong)

/-- 'laws.FnExactSubringToSubgroup': WHATEVER THE INPUT: true; the input reads as it did. -/
def fnExactSubringToSubgroupSpec : ChangeSpec := { name := "fnExactSubringToSubgroup", fn := fun _ => fun
  | [d1, d2] => { results := [.lit (.bool true)], args := [d1, d2] }
  | _ => none }
def fnExactSubringToSubgroupRow : OpenClaim := { program := "ytpcjbkbcaiphmaagreat", sum := "46cce4d5a87c0493bba83e88e1aaeab5bd104ed565187d26a69ce8570565028e", func := "loop.example/g01076/laws.FnExactSubringToSubgroup", spec := "fnExactSubringToSubgroup", unfollowed := true, recurses := true, apart := false }
def FnExactSubringToSubgroupSaid : Prop := fnExactSubringToSubgroupRow.holds Tryz.pinned (OpenSpec.ofChange fnExactSubringToSubgroupSpec)

/-- ITS FALSE NEIGHBOUR: 'it returns false'. Refute it at one input. -/
def fnExactSubringToSubgroupWrong : ChangeSpec := { name := "fnExactSubringToSubgroup", fn := fun _ => fun
  | [d1, d2] => { results := [.lit (.bool false)], args := [d1, d2] }
  | _ => none }
def FnExactSubringToSubgroupWrongFalsely : Prop := fnExactSubringToSubgroupRow.holds Tryz.pinned (OpenSpec.ofChange fnExactSubringToSubgroupWrong)

/-- 'laws.FnExactSubgroupToSubring': WHATEVER THE INPUT: true; the input reads as it did. -/
def fnExactSubgroupToSubringSpec : ChangeSpec := { name := "fnExactSubgroupToSubring", fn := fun _ => fun
  | [d1, d2] => { results := [.lit (.bool true)], args := [d1, d2] }
  | _ => none }
def fnExactSubgroupToSubringRow : OpenClaim := { program := "ytpcjbkbcaiphmaagreat", sum := "46cce4d5a87c0493bba83e88e1aaeab5bd104ed565187d26a69ce8570565028e", func := "loop.example/g01076/laws.FnExactSubgroupToSubring", spec := "fnExactSubgroupToSubring", unfollowed := true, recurses := true, apart := false }
def FnExactSubgroupToSubringSaid : Prop := fnExactSubgroupToSubringRow.holds Tryz.pinned (OpenSpec.ofChange fnExactSubgroupToSubringSpec)

/-- ITS FALSE NEIGHBOUR: 'it returns false'. Refute it at one input. -/
def fnExactSubgroupToSubringWrong : ChangeSpec := { name := "fnExactSubgroupToSubring", fn := fun _ => fun
  | [d1, d2] => { results := [.lit (.bool false)], args := [d1, d2] }
  | _ => none }
def FnExactSubgroupToSubringWrongFalsely : Prop := fnExactSubgroupToSubringRow.holds Tryz.pinned (OpenSpec.ofChange fnExactSubgroupToSubringWrong)

/-- 'laws.FnLazardGroups': WHATEVER THE INPUT: true; the input reads as it did. -/
def fnLazardGroupsSpec : ChangeSpec := { name := "fnLazardGroups", fn := fun _ => fun
  | [d] => { results := [.lit (.bool true)], args := [d] }
  | _ => none }
def fnLazardGroupsRow : OpenClaim := { program := "ytpcjbkbcaiphmaagreat", sum := "46cce4d5a87c0493bba83e88e1aaeab5bd104ed565187d26a69ce8570565028e", func := "loop.example/g01076/laws.FnLazardGroups", spec := "fnLazardGroups", unfollowed := true, recurses := true, apart := false }
def FnLazardGroupsSaid : Prop := fnLazardGroupsRow.holds Tryz.pinned (OpenSpec.ofChange fnLazardGroupsSpec)

/-- ITS FALSE NEIGHBOUR: 'it returns false'. Refute it at one input. -/
def fnLazardGroupsWrong : ChangeSpec := { name := "fnLazardGroups", fn := fun _ => fun
  | [d] => { results := [.lit (.bool false)], args := [d] }
  | _ => none }
def FnLazardGroupsWrongFalsely : Prop := fnLazardGroupsRow.holds Tryz.pinned (OpenSpec.ofChange fnLazardGroupsWrong)

/- THE SECOND FORM. 'bulk': how many values and letters a reading holds, each counted each time it is reached (what is shared counts as often as it is met; a slice's spare places count too). A statement '..UptoSaid' is the law's where the arguments, and the package variables that the reading takes, are together of bulk at most 1048576: NARROWER than '..Said'. Prove '..Said' where nothing that the law and all that it calls make is longer than what came in: it says more and counts as full. Else prove '..UptoSaid'. A law counts once. -/
mutual
def uptoBulk {H : Type} : DataW H → Nat
  | .lit (.string bytes) => bytes.length + 1
  | .lit _ => 1
  | .nil => 1
  | .ptr d => uptoBulk d + 1
  | .slice elems spare => uptoBulkAll elems + uptoBulkAll spare + 1
  | .agg parts => uptoBulkAll parts + 1
  | .iface _ d => uptoBulk d + 1
  | .map entries => uptoBulkEntries entries + 1
  | .held _ => 1
def uptoBulkAll {H : Type} : List (DataW H) → Nat
  | [] => 0
  | d :: r => uptoBulk d + uptoBulkAll r
def uptoBulkEntries {H : Type} : List (Lit × DataW H) → Nat
  | [] => 0
  | x :: r => uptoBulkEntry x + uptoBulkEntries r
def uptoBulkEntry {H : Type} : Lit × DataW H → Nat
  | (.string bytes, d) => bytes.length + uptoBulk d + 1
  | (_, d) => uptoBulk d + 1
 end
def uptoSmall : (H : Type) → List (DataW H) → Bool := fun _ ds => decide (uptoBulkAll ds ≤ 1048576)
def OpenSpec.upto (s : _root_.Go.ChangeSpec) : _root_.Go.OpenSpec := { _root_.Go.OpenSpec.ofChange s with cond := some uptoSmall }

/-- 'laws.FnBchGroup', WHERE WHAT IT READS IS OF BULK AT MOST 1048576: true; the input reads as it did. -/
def fnBchGroupUptoRow : OpenClaim := { program := "ytpcjbkbcaiphmaagreat", sum := "46cce4d5a87c0493bba83e88e1aaeab5bd104ed565187d26a69ce8570565028e", func := "loop.example/g01076/laws.FnBchGroup", spec := "fnBchGroup", unfollowed := true, recurses := true, apart := false, narrowed := true }
def FnBchGroupUptoSaid : Prop := fnBchGroupUptoRow.holds Tryz.pinned (OpenSpec.upto fnBchGroupSpec)

/-- 'laws.FnBchBack', WHERE WHAT IT READS IS OF BULK AT MOST 1048576: true; the input reads as it did. -/
def fnBchBackUptoRow : OpenClaim := { program := "ytpcjbkbcaiphmaagreat", sum := "46cce4d5a87c0493bba83e88e1aaeab5bd104ed565187d26a69ce8570565028e", func := "loop.example/g01076/laws.FnBchBack", spec := "fnBchBack", unfollowed := true, recurses := true, apart := false, narrowed := true }
def FnBchBackUptoSaid : Prop := fnBchBackUptoRow.holds Tryz.pinned (OpenSpec.upto fnBchBackSpec)

/-- 'laws.FnConjugateTerms', WHERE WHAT IT READS IS OF BULK AT MOST 1048576: true; the input reads as it did. -/
def fnConjugateTermsUptoRow : OpenClaim := { program := "ytpcjbkbcaiphmaagreat", sum := "46cce4d5a87c0493bba83e88e1aaeab5bd104ed565187d26a69ce8570565028e", func := "loop.example/g01076/laws.FnConjugateTerms", spec := "fnConjugateTerms", unfollowed := true, recurses := true, apart := false, narrowed := true }
def FnConjugateTermsUptoSaid : Prop := fnConjugateTermsUptoRow.holds Tryz.pinned (OpenSpec.upto fnConjugateTermsSpec)

/-- 'laws.FnSubringsOf', WHERE WHAT IT READS IS OF BULK AT MOST 1048576: true; the input reads as it did. -/
def fnSubringsOfUptoRow : OpenClaim := { program := "ytpcjbkbcaiphmaagreat", sum := "46cce4d5a87c0493bba83e88e1aaeab5bd104ed565187d26a69ce8570565028e", func := "loop.example/g01076/laws.FnSubringsOf", spec := "fnSubringsOf", unfollowed := true, recurses := true, apart := false, narrowed := true }
def FnSubringsOfUptoSaid : Prop := fnSubringsOfUptoRow.holds Tryz.pinned (OpenSpec.upto fnSubringsOfSpec)

/-- 'laws.FnLieQuotients', WHERE WHAT IT READS IS OF BULK AT MOST 1048576: true; the input reads as it did. -/
def fnLieQuotientsUptoRow : OpenClaim := { program := "ytpcjbkbcaiphmaagreat", sum := "46cce4d5a87c0493bba83e88e1aaeab5bd104ed565187d26a69ce8570565028e", func := "loop.example/g01076/laws.FnLieQuotients", spec := "fnLieQuotients", unfollowed := true, recurses := true, apart := false, narrowed := true }
def FnLieQuotientsUptoSaid : Prop := fnLieQuotientsUptoRow.holds Tryz.pinned (OpenSpec.upto fnLieQuotientsSpec)

/-- 'laws.FnLieMaps', WHERE WHAT IT READS IS OF BULK AT MOST 1048576: true; the input reads as it did. -/
def fnLieMapsUptoRow : OpenClaim := { program := "ytpcjbkbcaiphmaagreat", sum := "46cce4d5a87c0493bba83e88e1aaeab5bd104ed565187d26a69ce8570565028e", func := "loop.example/g01076/laws.FnLieMaps", spec := "fnLieMaps", unfollowed := true, recurses := true, apart := false, narrowed := true }
def FnLieMapsUptoSaid : Prop := fnLieMapsUptoRow.holds Tryz.pinned (OpenSpec.upto fnLieMapsSpec)

/-- 'laws.FnExactSubringToSubgroup', WHERE WHAT IT READS IS OF BULK AT MOST 1048576: true; the input reads as it did. -/
def fnExactSubringToSubgroupUptoRow : OpenClaim := { program := "ytpcjbkbcaiphmaagreat", sum := "46cce4d5a87c0493bba83e88e1aaeab5bd104ed565187d26a69ce8570565028e", func := "loop.example/g01076/laws.FnExactSubringToSubgroup", spec := "fnExactSubringToSubgroup", unfollowed := true, recurses := true, apart := false, narrowed := true }
def FnExactSubringToSubgroupUptoSaid : Prop := fnExactSubringToSubgroupUptoRow.holds Tryz.pinned (OpenSpec.upto fnExactSubringToSubgroupSpec)

/-- 'laws.FnExactSubgroupToSubring', WHERE WHAT IT READS IS OF BULK AT MOST 1048576: true; the input reads as it did. -/
def fnExactSubgroupToSubringUptoRow : OpenClaim := { program := "ytpcjbkbcaiphmaagreat", sum := "46cce4d5a87c0493bba83e88e1aaeab5bd104ed565187d26a69ce8570565028e", func := "loop.example/g01076/laws.FnExactSubgroupToSubring", spec := "fnExactSubgroupToSubring", unfollowed := true, recurses := true, apart := false, narrowed := true }
def FnExactSubgroupToSubringUptoSaid : Prop := fnExactSubgroupToSubringUptoRow.holds Tryz.pinned (OpenSpec.upto fnExactSubgroupToSubringSpec)

/-- 'laws.FnLazardGroups', WHERE WHAT IT READS IS OF BULK AT MOST 1048576: true; the input reads as it did. -/
def fnLazardGroupsUptoRow : OpenClaim := { program := "ytpcjbkbcaiphmaagreat", sum := "46cce4d5a87c0493bba83e88e1aaeab5bd104ed565187d26a69ce8570565028e", func := "loop.example/g01076/laws.FnLazardGroups", spec := "fnLazardGroups", unfollowed := true, recurses := true, apart := false, narrowed := true }
def FnLazardGroupsUptoSaid : Prop := fnLazardGroupsUptoRow.holds Tryz.pinned (OpenSpec.upto fnLazardGroupsSpec)

end Rows
end Go.Proofs.YtpcjbkbcaiphmaaGreat
