/-
  No cell of these rows narrows 'for every input' (looked for: loops, veiled, ifaces, maps, wideKeys, modest, calm, conditions, laid).
  DERIVED. THE GIVEN ROWS OF THIS SEAT. 12 by the template 'for every input the law returns true; each argument reads behind the call as it read before'; 0 by the template 'total and deterministic' (their statements: YthgccplmmogcnaaTotals.lean).
  GIVEN WITH THE SEED: the statements are not yours to turn. If you find one false, say at which input.
  Laid BY PROGRAM, IN A SANDBOX (cutbox-rows.mjs): the forced cells as the released guide's own fill.sh prints them over the translation 90819009620f6911… (all of the seat's roots in one cut). By AI agents, Wed Nov 11 2026. No macro, syntax, notation, axiom, sorry.
-/
import Derived.Test.YthgccplmmogcnaaChecked
import GoSem.Claim
import GoSem.ClaimJoined
import GoSem.ClaimMapViews
import Derived.JoinedTies
import Derived.KernelRfl
namespace Go.Proofs.Ythgccplmmogcnaa
/- THE CELL 'sum', in the pinned program and in every row, IS THE sha256 OF THE DUMP (.gsa) THAT YthgccplmmogcnaaProg.lean LOADS. Nothing in Lean hashes anything: it is a label: what it is worth is what the hold of that sum in a sandbox is worth. -/
noncomputable def Try.pinned : Pinned := { name := "ythgccplmmogcnaa", sum := "90819009620f6911ce8b820949840852e6703812687c31784750c376fcb8e8c7", checked := Try.checked }
namespace Rows
def none {H : Type} : Left H := { results := [], args := [] }

/-- 'laws.FnExactIsLieMap': WHATEVER THE INPUT: true; the input reads as it did. -/
def fnExactIsLieMapSpec : ChangeSpec := { name := "fnExactIsLieMap", fn := fun _ => fun
  | [d1, d2, d3] => { results := [.lit (.bool true)], args := [d1, d2, d3] }
  | _ => none }
def fnExactIsLieMapRow : OpenClaim := { program := "ythgccplmmogcnaa", sum := "90819009620f6911ce8b820949840852e6703812687c31784750c376fcb8e8c7", func := "loop.example/g01076/laws.FnExactIsLieMap", spec := "fnExactIsLieMap", apart := false }
def FnExactIsLieMapSaid : Prop := fnExactIsLieMapRow.holds Try.pinned (OpenSpec.ofChange fnExactIsLieMapSpec)

/-- ITS FALSE NEIGHBOUR: 'it returns false'. Refute it at one input. -/
def fnExactIsLieMapWrong : ChangeSpec := { name := "fnExactIsLieMap", fn := fun _ => fun
  | [d1, d2, d3] => { results := [.lit (.bool false)], args := [d1, d2, d3] }
  | _ => none }
def FnExactIsLieMapWrongFalsely : Prop := fnExactIsLieMapRow.holds Try.pinned (OpenSpec.ofChange fnExactIsLieMapWrong)

/-- 'laws.FnExactIsLazard': WHATEVER THE INPUT: true; the input reads as it did. -/
def fnExactIsLazardSpec : ChangeSpec := { name := "fnExactIsLazard", fn := fun _ => fun
  | [d] => { results := [.lit (.bool true)], args := [d] }
  | _ => none }
def fnExactIsLazardRow : OpenClaim := { program := "ythgccplmmogcnaa", sum := "90819009620f6911ce8b820949840852e6703812687c31784750c376fcb8e8c7", func := "loop.example/g01076/laws.FnExactIsLazard", spec := "fnExactIsLazard", unfollowed := true, recurses := true, apart := false }
def FnExactIsLazardSaid : Prop := fnExactIsLazardRow.holds Try.pinned (OpenSpec.ofChange fnExactIsLazardSpec)

/-- ITS FALSE NEIGHBOUR: 'it returns false'. Refute it at one input. -/
def fnExactIsLazardWrong : ChangeSpec := { name := "fnExactIsLazard", fn := fun _ => fun
  | [d] => { results := [.lit (.bool false)], args := [d] }
  | _ => none }
def FnExactIsLazardWrongFalsely : Prop := fnExactIsLazardRow.holds Try.pinned (OpenSpec.ofChange fnExactIsLazardWrong)

/-- 'laws.FnExactIsLieIsomorphism': WHATEVER THE INPUT: true; the input reads as it did. -/
def fnExactIsLieIsomorphismSpec : ChangeSpec := { name := "fnExactIsLieIsomorphism", fn := fun _ => fun
  | [d1, d2, d3] => { results := [.lit (.bool true)], args := [d1, d2, d3] }
  | _ => none }
def fnExactIsLieIsomorphismRow : OpenClaim := { program := "ythgccplmmogcnaa", sum := "90819009620f6911ce8b820949840852e6703812687c31784750c376fcb8e8c7", func := "loop.example/g01076/laws.FnExactIsLieIsomorphism", spec := "fnExactIsLieIsomorphism", unfollowed := true, recurses := true, apart := false }
def FnExactIsLieIsomorphismSaid : Prop := fnExactIsLieIsomorphismRow.holds Try.pinned (OpenSpec.ofChange fnExactIsLieIsomorphismSpec)

/-- ITS FALSE NEIGHBOUR: 'it returns false'. Refute it at one input. -/
def fnExactIsLieIsomorphismWrong : ChangeSpec := { name := "fnExactIsLieIsomorphism", fn := fun _ => fun
  | [d1, d2, d3] => { results := [.lit (.bool false)], args := [d1, d2, d3] }
  | _ => none }
def FnExactIsLieIsomorphismWrongFalsely : Prop := fnExactIsLieIsomorphismRow.holds Try.pinned (OpenSpec.ofChange fnExactIsLieIsomorphismWrong)

/-- 'laws.FnExactRootOf': WHATEVER THE INPUT: true; the input reads as it did. -/
def fnExactRootOfSpec : ChangeSpec := { name := "fnExactRootOf", fn := fun _ => fun
  | [d1, d2, d3] => { results := [.lit (.bool true)], args := [d1, d2, d3] }
  | _ => none }
def fnExactRootOfRow : OpenClaim := { program := "ythgccplmmogcnaa", sum := "90819009620f6911ce8b820949840852e6703812687c31784750c376fcb8e8c7", func := "loop.example/g01076/laws.FnExactRootOf", spec := "fnExactRootOf", unfollowed := true, recurses := true, apart := false }
def FnExactRootOfSaid : Prop := fnExactRootOfRow.holds Try.pinned (OpenSpec.ofChange fnExactRootOfSpec)

/-- ITS FALSE NEIGHBOUR: 'it returns false'. Refute it at one input. -/
def fnExactRootOfWrong : ChangeSpec := { name := "fnExactRootOf", fn := fun _ => fun
  | [d1, d2, d3] => { results := [.lit (.bool false)], args := [d1, d2, d3] }
  | _ => none }
def FnExactRootOfWrongFalsely : Prop := fnExactRootOfRow.holds Try.pinned (OpenSpec.ofChange fnExactRootOfWrong)

/-- 'laws.FnExactBchProduct': WHATEVER THE INPUT: true; the input reads as it did. -/
def fnExactBchProductSpec : ChangeSpec := { name := "fnExactBchProduct", fn := fun _ => fun
  | [d1, d2, d3] => { results := [.lit (.bool true)], args := [d1, d2, d3] }
  | _ => none }
def fnExactBchProductRow : OpenClaim := { program := "ythgccplmmogcnaa", sum := "90819009620f6911ce8b820949840852e6703812687c31784750c376fcb8e8c7", func := "loop.example/g01076/laws.FnExactBchProduct", spec := "fnExactBchProduct", unfollowed := true, recurses := true, apart := false }
def FnExactBchProductSaid : Prop := fnExactBchProductRow.holds Try.pinned (OpenSpec.ofChange fnExactBchProductSpec)

/-- ITS FALSE NEIGHBOUR: 'it returns false'. Refute it at one input. -/
def fnExactBchProductWrong : ChangeSpec := { name := "fnExactBchProduct", fn := fun _ => fun
  | [d1, d2, d3] => { results := [.lit (.bool false)], args := [d1, d2, d3] }
  | _ => none }
def FnExactBchProductWrongFalsely : Prop := fnExactBchProductRow.holds Try.pinned (OpenSpec.ofChange fnExactBchProductWrong)

/-- 'laws.FnExactConjugateTerms': WHATEVER THE INPUT: true; the input reads as it did. -/
def fnExactConjugateTermsSpec : ChangeSpec := { name := "fnExactConjugateTerms", fn := fun _ => fun
  | [d1, d2, d3] => { results := [.lit (.bool true)], args := [d1, d2, d3] }
  | _ => none }
def fnExactConjugateTermsRow : OpenClaim := { program := "ythgccplmmogcnaa", sum := "90819009620f6911ce8b820949840852e6703812687c31784750c376fcb8e8c7", func := "loop.example/g01076/laws.FnExactConjugateTerms", spec := "fnExactConjugateTerms", unfollowed := true, recurses := true, apart := false }
def FnExactConjugateTermsSaid : Prop := fnExactConjugateTermsRow.holds Try.pinned (OpenSpec.ofChange fnExactConjugateTermsSpec)

/-- ITS FALSE NEIGHBOUR: 'it returns false'. Refute it at one input. -/
def fnExactConjugateTermsWrong : ChangeSpec := { name := "fnExactConjugateTerms", fn := fun _ => fun
  | [d1, d2, d3] => { results := [.lit (.bool false)], args := [d1, d2, d3] }
  | _ => none }
def FnExactConjugateTermsWrongFalsely : Prop := fnExactConjugateTermsRow.holds Try.pinned (OpenSpec.ofChange fnExactConjugateTermsWrong)

/-- 'laws.FnExactBchTerms': WHATEVER THE INPUT: true; the input reads as it did. -/
def fnExactBchTermsSpec : ChangeSpec := { name := "fnExactBchTerms", fn := fun _ => fun
  | [d1, d2, d3] => { results := [.lit (.bool true)], args := [d1, d2, d3] }
  | _ => none }
def fnExactBchTermsRow : OpenClaim := { program := "ythgccplmmogcnaa", sum := "90819009620f6911ce8b820949840852e6703812687c31784750c376fcb8e8c7", func := "loop.example/g01076/laws.FnExactBchTerms", spec := "fnExactBchTerms", unfollowed := true, recurses := true, apart := false }
def FnExactBchTermsSaid : Prop := fnExactBchTermsRow.holds Try.pinned (OpenSpec.ofChange fnExactBchTermsSpec)

/-- ITS FALSE NEIGHBOUR: 'it returns false'. Refute it at one input. -/
def fnExactBchTermsWrong : ChangeSpec := { name := "fnExactBchTerms", fn := fun _ => fun
  | [d1, d2, d3] => { results := [.lit (.bool false)], args := [d1, d2, d3] }
  | _ => none }
def FnExactBchTermsWrongFalsely : Prop := fnExactBchTermsRow.holds Try.pinned (OpenSpec.ofChange fnExactBchTermsWrong)

/-- 'laws.FnExactBchFold': WHATEVER THE INPUT: true; the input reads as it did. -/
def fnExactBchFoldSpec : ChangeSpec := { name := "fnExactBchFold", fn := fun _ => fun
  | [d1, d2] => { results := [.lit (.bool true)], args := [d1, d2] }
  | _ => none }
def fnExactBchFoldRow : OpenClaim := { program := "ythgccplmmogcnaa", sum := "90819009620f6911ce8b820949840852e6703812687c31784750c376fcb8e8c7", func := "loop.example/g01076/laws.FnExactBchFold", spec := "fnExactBchFold", unfollowed := true, recurses := true, apart := false }
def FnExactBchFoldSaid : Prop := fnExactBchFoldRow.holds Try.pinned (OpenSpec.ofChange fnExactBchFoldSpec)

/-- ITS FALSE NEIGHBOUR: 'it returns false'. Refute it at one input. -/
def fnExactBchFoldWrong : ChangeSpec := { name := "fnExactBchFold", fn := fun _ => fun
  | [d1, d2] => { results := [.lit (.bool false)], args := [d1, d2] }
  | _ => none }
def FnExactBchFoldWrongFalsely : Prop := fnExactBchFoldRow.holds Try.pinned (OpenSpec.ofChange fnExactBchFoldWrong)

/-- 'laws.FnExactBchConjugate': WHATEVER THE INPUT: true; the input reads as it did. -/
def fnExactBchConjugateSpec : ChangeSpec := { name := "fnExactBchConjugate", fn := fun _ => fun
  | [d1, d2, d3] => { results := [.lit (.bool true)], args := [d1, d2, d3] }
  | _ => none }
def fnExactBchConjugateRow : OpenClaim := { program := "ythgccplmmogcnaa", sum := "90819009620f6911ce8b820949840852e6703812687c31784750c376fcb8e8c7", func := "loop.example/g01076/laws.FnExactBchConjugate", spec := "fnExactBchConjugate", unfollowed := true, recurses := true, apart := false }
def FnExactBchConjugateSaid : Prop := fnExactBchConjugateRow.holds Try.pinned (OpenSpec.ofChange fnExactBchConjugateSpec)

/-- ITS FALSE NEIGHBOUR: 'it returns false'. Refute it at one input. -/
def fnExactBchConjugateWrong : ChangeSpec := { name := "fnExactBchConjugate", fn := fun _ => fun
  | [d1, d2, d3] => { results := [.lit (.bool false)], args := [d1, d2, d3] }
  | _ => none }
def FnExactBchConjugateWrongFalsely : Prop := fnExactBchConjugateRow.holds Try.pinned (OpenSpec.ofChange fnExactBchConjugateWrong)

/-- 'laws.FnExactBchCommutator': WHATEVER THE INPUT: true; the input reads as it did. -/
def fnExactBchCommutatorSpec : ChangeSpec := { name := "fnExactBchCommutator", fn := fun _ => fun
  | [d1, d2, d3] => { results := [.lit (.bool true)], args := [d1, d2, d3] }
  | _ => none }
def fnExactBchCommutatorRow : OpenClaim := { program := "ythgccplmmogcnaa", sum := "90819009620f6911ce8b820949840852e6703812687c31784750c376fcb8e8c7", func := "loop.example/g01076/laws.FnExactBchCommutator", spec := "fnExactBchCommutator", unfollowed := true, recurses := true, apart := false }
def FnExactBchCommutatorSaid : Prop := fnExactBchCommutatorRow.holds Try.pinned (OpenSpec.ofChange fnExactBchCommutatorSpec)

/-- ITS FALSE NEIGHBOUR: 'it returns false'. Refute it at one input. -/
def fnExactBchCommutatorWrong : ChangeSpec := { name := "fnExactBchCommutator", fn := fun _ => fun
  | [d1, d2, d3] => { results := [.lit (.bool false)], args := [d1, d2, d3] }
  | _ => none }
def FnExactBchCommutatorWrongFalsely : Prop := fnExactBchCommutatorRow.holds Try.pinned (OpenSpec.ofChange fnExactBchCommutatorWrong)

/-- 'laws.FnExactBracketByProducts': WHATEVER THE INPUT: true; the input reads as it did. -/
def fnExactBracketByProductsSpec : ChangeSpec := { name := "fnExactBracketByProducts", fn := fun _ => fun
  | [d1, d2, d3] => { results := [.lit (.bool true)], args := [d1, d2, d3] }
  | _ => none }
def fnExactBracketByProductsRow : OpenClaim := { program := "ythgccplmmogcnaa", sum := "90819009620f6911ce8b820949840852e6703812687c31784750c376fcb8e8c7", func := "loop.example/g01076/laws.FnExactBracketByProducts", spec := "fnExactBracketByProducts", unfollowed := true, recurses := true, apart := false }
def FnExactBracketByProductsSaid : Prop := fnExactBracketByProductsRow.holds Try.pinned (OpenSpec.ofChange fnExactBracketByProductsSpec)

/-- ITS FALSE NEIGHBOUR: 'it returns false'. Refute it at one input. -/
def fnExactBracketByProductsWrong : ChangeSpec := { name := "fnExactBracketByProducts", fn := fun _ => fun
  | [d1, d2, d3] => { results := [.lit (.bool false)], args := [d1, d2, d3] }
  | _ => none }
def FnExactBracketByProductsWrongFalsely : Prop := fnExactBracketByProductsRow.holds Try.pinned (OpenSpec.ofChange fnExactBracketByProductsWrong)

/-- 'laws.FnExactSumByProducts': WHATEVER THE INPUT: true; the input reads as it did. -/
def fnExactSumByProductsSpec : ChangeSpec := { name := "fnExactSumByProducts", fn := fun _ => fun
  | [d1, d2, d3] => { results := [.lit (.bool true)], args := [d1, d2, d3] }
  | _ => none }
def fnExactSumByProductsRow : OpenClaim := { program := "ythgccplmmogcnaa", sum := "90819009620f6911ce8b820949840852e6703812687c31784750c376fcb8e8c7", func := "loop.example/g01076/laws.FnExactSumByProducts", spec := "fnExactSumByProducts", unfollowed := true, recurses := true, apart := false }
def FnExactSumByProductsSaid : Prop := fnExactSumByProductsRow.holds Try.pinned (OpenSpec.ofChange fnExactSumByProductsSpec)

/-- ITS FALSE NEIGHBOUR: 'it returns false'. Refute it at one input. -/
def fnExactSumByProductsWrong : ChangeSpec := { name := "fnExactSumByProducts", fn := fun _ => fun
  | [d1, d2, d3] => { results := [.lit (.bool false)], args := [d1, d2, d3] }
  | _ => none }
def FnExactSumByProductsWrongFalsely : Prop := fnExactSumByProductsRow.holds Try.pinned (OpenSpec.ofChange fnExactSumByProductsWrong)

/- THE SECOND FORM. 'bulk': how many values and letters a reading holds, each counted each time it is reached (what is shared counts as often as it is met; a slice's spare places count too). A statement '..UptoSaid' is the law's where the arguments, and the package variables that the reading takes, are together of bulk at most 1048576: NARROWER than '..Said'. Prove '..Said' where nothing that the law and all that it calls make is longer than what came in: it says more and counts as full. Else prove '..UptoSaid'. A law counts once. -/
mutual
def uptoBulk {H : Type} : DataW H → Nat
  | .lit (.string bytes) => bytes.length + 1
  | .lit _ => 1
  | .nil => 1
  | .ptr d => uptoBulk d + 1
  | .slice elems spare => uptoBulkAll elems + uptoBulkAll spare + 1
  | .agg parts => uptoBulkAll parts + 1
  | .iface _ d => uptoBulk d + 1
  | .map entries => uptoBulkEntries entries + 1
  | .held _ => 1
def uptoBulkAll {H : Type} : List (DataW H) → Nat
  | [] => 0
  | d :: r => uptoBulk d + uptoBulkAll r
def uptoBulkEntries {H : Type} : List (Lit × DataW H) → Nat
  | [] => 0
  | x :: r => uptoBulkEntry x + uptoBulkEntries r
def uptoBulkEntry {H : Type} : Lit × DataW H → Nat
  | (.string bytes, d) => bytes.length + uptoBulk d + 1
  | (_, d) => uptoBulk d + 1
 end
def uptoSmall : (H : Type) → List (DataW H) → Bool := fun _ ds => decide (uptoBulkAll ds ≤ 1048576)
def OpenSpec.upto (s : _root_.Go.ChangeSpec) : _root_.Go.OpenSpec := { _root_.Go.OpenSpec.ofChange s with cond := some uptoSmall }

/-- 'laws.FnExactIsLieMap', WHERE WHAT IT READS IS OF BULK AT MOST 1048576: true; the input reads as it did. -/
def fnExactIsLieMapUptoRow : OpenClaim := { program := "ythgccplmmogcnaa", sum := "90819009620f6911ce8b820949840852e6703812687c31784750c376fcb8e8c7", func := "loop.example/g01076/laws.FnExactIsLieMap", spec := "fnExactIsLieMap", apart := false, narrowed := true }
def FnExactIsLieMapUptoSaid : Prop := fnExactIsLieMapUptoRow.holds Try.pinned (OpenSpec.upto fnExactIsLieMapSpec)

/-- 'laws.FnExactIsLazard', WHERE WHAT IT READS IS OF BULK AT MOST 1048576: true; the input reads as it did. -/
def fnExactIsLazardUptoRow : OpenClaim := { program := "ythgccplmmogcnaa", sum := "90819009620f6911ce8b820949840852e6703812687c31784750c376fcb8e8c7", func := "loop.example/g01076/laws.FnExactIsLazard", spec := "fnExactIsLazard", unfollowed := true, recurses := true, apart := false, narrowed := true }
def FnExactIsLazardUptoSaid : Prop := fnExactIsLazardUptoRow.holds Try.pinned (OpenSpec.upto fnExactIsLazardSpec)

/-- 'laws.FnExactIsLieIsomorphism', WHERE WHAT IT READS IS OF BULK AT MOST 1048576: true; the input reads as it did. -/
def fnExactIsLieIsomorphismUptoRow : OpenClaim := { program := "ythgccplmmogcnaa", sum := "90819009620f6911ce8b820949840852e6703812687c31784750c376fcb8e8c7", func := "loop.example/g01076/laws.FnExactIsLieIsomorphism", spec := "fnExactIsLieIsomorphism", unfollowed := true, recurses := true, apart := false, narrowed := true }
def FnExactIsLieIsomorphismUptoSaid : Prop := fnExactIsLieIsomorphismUptoRow.holds Try.pinned (OpenSpec.upto fnExactIsLieIsomorphismSpec)

/-- 'laws.FnExactRootOf', WHERE WHAT IT READS IS OF BULK AT MOST 1048576: true; the input reads as it did. -/
def fnExactRootOfUptoRow : OpenClaim := { program := "ythgccplmmogcnaa", sum := "90819009620f6911ce8b820949840852e6703812687c31784750c376fcb8e8c7", func := "loop.example/g01076/laws.FnExactRootOf", spec := "fnExactRootOf", unfollowed := true, recurses := true, apart := false, narrowed := true }
def FnExactRootOfUptoSaid : Prop := fnExactRootOfUptoRow.holds Try.pinned (OpenSpec.upto fnExactRootOfSpec)

/-- 'laws.FnExactBchProduct', WHERE WHAT IT READS IS OF BULK AT MOST 1048576: true; the input reads as it did. -/
def fnExactBchProductUptoRow : OpenClaim := { program := "ythgccplmmogcnaa", sum := "90819009620f6911ce8b820949840852e6703812687c31784750c376fcb8e8c7", func := "loop.example/g01076/laws.FnExactBchProduct", spec := "fnExactBchProduct", unfollowed := true, recurses := true, apart := false, narrowed := true }
def FnExactBchProductUptoSaid : Prop := fnExactBchProductUptoRow.holds Try.pinned (OpenSpec.upto fnExactBchProductSpec)

/-- 'laws.FnExactConjugateTerms', WHERE WHAT IT READS IS OF BULK AT MOST 1048576: true; the input reads as it did. -/
def fnExactConjugateTermsUptoRow : OpenClaim := { program := "ythgccplmmogcnaa", sum := "90819009620f6911ce8b820949840852e6703812687c31784750c376fcb8e8c7", func := "loop.example/g01076/laws.FnExactConjugateTerms", spec := "fnExactConjugateTerms", unfollowed := true, recurses := true, apart := false, narrowed := true }
def FnExactConjugateTermsUptoSaid : Prop := fnExactConjugateTermsUptoRow.holds Try.pinned (OpenSpec.upto fnExactConjugateTermsSpec)

/-- 'laws.FnExactBchTerms', WHERE WHAT IT READS IS OF BULK AT MOST 1048576: true; the input reads as it did. -/
def fnExactBchTermsUptoRow : OpenClaim := { program := "ythgccplmmogcnaa", sum := "90819009620f6911ce8b820949840852e6703812687c31784750c376fcb8e8c7", func := "loop.example/g01076/laws.FnExactBchTerms", spec := "fnExactBchTerms", unfollowed := true, recurses := true, apart := false, narrowed := true }
def FnExactBchTermsUptoSaid : Prop := fnExactBchTermsUptoRow.holds Try.pinned (OpenSpec.upto fnExactBchTermsSpec)

/-- 'laws.FnExactBchFold', WHERE WHAT IT READS IS OF BULK AT MOST 1048576: true; the input reads as it did. -/
def fnExactBchFoldUptoRow : OpenClaim := { program := "ythgccplmmogcnaa", sum := "90819009620f6911ce8b820949840852e6703812687c31784750c376fcb8e8c7", func := "loop.example/g01076/laws.FnExactBchFold", spec := "fnExactBchFold", unfollowed := true, recurses := true, apart := false, narrowed := true }
def FnExactBchFoldUptoSaid : Prop := fnExactBchFoldUptoRow.holds Try.pinned (OpenSpec.upto fnExactBchFoldSpec)

/-- 'laws.FnExactBchConjugate', WHERE WHAT IT READS IS OF BULK AT MOST 1048576: true; the input reads as it did. -/
def fnExactBchConjugateUptoRow : OpenClaim := { program := "ythgccplmmogcnaa", sum := "90819009620f6911ce8b820949840852e6703812687c31784750c376fcb8e8c7", func := "loop.example/g01076/laws.FnExactBchConjugate", spec := "fnExactBchConjugate", unfollowed := true, recurses := true, apart := false, narrowed := true }
def FnExactBchConjugateUptoSaid : Prop := fnExactBchConjugateUptoRow.holds Try.pinned (OpenSpec.upto fnExactBchConjugateSpec)

/-- 'laws.FnExactBchCommutator', WHERE WHAT IT READS IS OF BULK AT MOST 1048576: true; the input reads as it did. -/
def fnExactBchCommutatorUptoRow : OpenClaim := { program := "ythgccplmmogcnaa", sum := "90819009620f6911ce8b820949840852e6703812687c31784750c376fcb8e8c7", func := "loop.example/g01076/laws.FnExactBchCommutator", spec := "fnExactBchCommutator", unfollowed := true, recurses := true, apart := false, narrowed := true }
def FnExactBchCommutatorUptoSaid : Prop := fnExactBchCommutatorUptoRow.holds Try.pinned (OpenSpec.upto fnExactBchCommutatorSpec)

/-- 'laws.FnExactBracketByProducts', WHERE WHAT IT READS IS OF BULK AT MOST 1048576: true; the input reads as it did. -/
def fnExactBracketByProductsUptoRow : OpenClaim := { program := "ythgccplmmogcnaa", sum := "90819009620f6911ce8b820949840852e6703812687c31784750c376fcb8e8c7", func := "loop.example/g01076/laws.FnExactBracketByProducts", spec := "fnExactBracketByProducts", unfollowed := true, recurses := true, apart := false, narrowed := true }
def FnExactBracketByProductsUptoSaid : Prop := fnExactBracketByProductsUptoRow.holds Try.pinned (OpenSpec.upto fnExactBracketByProductsSpec)

/-- 'laws.FnExactSumByProducts', WHERE WHAT IT READS IS OF BULK AT MOST 1048576: true; the input reads as it did. -/
def fnExactSumByProductsUptoRow : OpenClaim := { program := "ythgccplmmogcnaa", sum := "90819009620f6911ce8b820949840852e6703812687c31784750c376fcb8e8c7", func := "loop.example/g01076/laws.FnExactSumByProducts", spec := "fnExactSumByProducts", unfollowed := true, recurses := true, apart := false, narrowed := true }
def FnExactSumByProductsUptoSaid : Prop := fnExactSumByProductsUptoRow.holds Try.pinned (OpenSpec.upto fnExactSumByProductsSpec)

end Rows
end Go.Proofs.Ythgccplmmogcnaa
