/-
  No cell of these rows narrows 'for every input' (looked for: loops, veiled, ifaces, maps, wideKeys, modest, calm, conditions, laid).
  DERIVED. THE GIVEN ROWS OF THIS SEAT. 3 by the template 'for every input the law returns true; each argument reads behind the call as it read before'; 0 by the template 'total and deterministic' (their statements: YtnfnaniemocleaaGreatTotals.lean).
  GIVEN WITH THE SEED: the statements are not yours to turn. If you find one false, say at which input.
  Laid BY PROGRAM, IN A SANDBOX (cutbox-rows.mjs): the forced cells as the released guide's own fill.sh prints them over the translation 4ae2c1e504f26f0b… (all of the seat's roots in one cut). By AI agents, Wed Nov 11 2026. No macro, syntax, notation, axiom, sorry.
-/
import Derived.Test.YtnfnaniemocleaaGreatChecked
import GoSem.Claim
import GoSem.ClaimJoined
import GoSem.ClaimMapViews
import Derived.JoinedTies
import Derived.KernelRfl
namespace Go.Proofs.YtnfnaniemocleaaGreat
/- THE CELL 'sum', in the pinned program and in every row, IS THE sha256 OF THE DUMP (.gsa) THAT YtnfnaniemocleaaGreatProg.lean LOADS. Nothing in Lean hashes anything: it is a label: what it is worth is what the hold of that sum in a sandbox is worth. -/
noncomputable def Tryz.pinned : Pinned := { name := "ytnfnaniemocleaagreat", sum := "4ae2c1e504f26f0b2cd82222821a58d1fd8a1bc527a382b4784bfcc539136937", checked := Tryz.checked }
namespace Rows
def none {H : Type} : Left H := { results := [], args := [] }

/-- 'laws.FnGroupSums': WHATEVER THE INPUT: true; the input reads as it did. -/
def fnGroupSumsSpec : ChangeSpec := { name := "fnGroupSums", fn := fun _ => fun
  | [d] => { results := [.lit (.bool true)], args := [d] }
  | _ => none }
def fnGroupSumsRow : OpenClaim := { program := "ytnfnaniemocleaagreat", sum := "4ae2c1e504f26f0b2cd82222821a58d1fd8a1bc527a382b4784bfcc539136937", func := "loop.example/g01076/laws.FnGroupSums", spec := "fnGroupSums", unfollowed := true, recurses := true, apart := false }
def FnGroupSumsSaid : Prop := fnGroupSumsRow.holds Tryz.pinned (OpenSpec.ofChange fnGroupSumsSpec)

/-- ITS FALSE NEIGHBOUR: 'it returns false'. Refute it at one input. -/
def fnGroupSumsWrong : ChangeSpec := { name := "fnGroupSums", fn := fun _ => fun
  | [d] => { results := [.lit (.bool false)], args := [d] }
  | _ => none }
def FnGroupSumsWrongFalsely : Prop := fnGroupSumsRow.holds Tryz.pinned (OpenSpec.ofChange fnGroupSumsWrong)

/-- 'laws.FnLazardBack': WHATEVER THE INPUT: true; the input reads as it did. -/
def fnLazardBackSpec : ChangeSpec := { name := "fnLazardBack", fn := fun _ => fun
  | [d] => { results := [.lit (.bool true)], args := [d] }
  | _ => none }
def fnLazardBackRow : OpenClaim := { program := "ytnfnaniemocleaagreat", sum := "4ae2c1e504f26f0b2cd82222821a58d1fd8a1bc527a382b4784bfcc539136937", func := "loop.example/g01076/laws.FnLazardBack", spec := "fnLazardBack", unfollowed := true, recurses := true, apart := false }
def FnLazardBackSaid : Prop := fnLazardBackRow.holds Tryz.pinned (OpenSpec.ofChange fnLazardBackSpec)

/-- ITS FALSE NEIGHBOUR: 'it returns false'. Refute it at one input. -/
def fnLazardBackWrong : ChangeSpec := { name := "fnLazardBack", fn := fun _ => fun
  | [d] => { results := [.lit (.bool false)], args := [d] }
  | _ => none }
def FnLazardBackWrongFalsely : Prop := fnLazardBackRow.holds Tryz.pinned (OpenSpec.ofChange fnLazardBackWrong)

/-- 'laws.FnLieMaps': WHATEVER THE INPUT: true; the input reads as it did. -/
def fnLieMapsSpec : ChangeSpec := { name := "fnLieMaps", fn := fun _ => fun
  | [d] => { results := [.lit (.bool true)], args := [d] }
  | _ => none }
def fnLieMapsRow : OpenClaim := { program := "ytnfnaniemocleaagreat", sum := "4ae2c1e504f26f0b2cd82222821a58d1fd8a1bc527a382b4784bfcc539136937", func := "loop.example/g01076/laws.FnLieMaps", spec := "fnLieMaps", unfollowed := true, recurses := true, apart := false }
def FnLieMapsSaid : Prop := fnLieMapsRow.holds Tryz.pinned (OpenSpec.ofChange fnLieMapsSpec)

/-- ITS FALSE NEIGHBOUR: 'it returns false'. Refute it at one input. -/
def fnLieMapsWrong : ChangeSpec := { name := "fnLieMaps", fn := fun _ => fun
  | [d] => { results := [.lit (.bool false)], args := [d] }
  | _ => none }
def FnLieMapsWrongFalsely : Prop := fnLieMapsRow.holds Tryz.pinned (OpenSpec.ofChange fnLieMapsWrong)

/- THE SECOND FORM. 'bulk': how many values and letters a reading holds, each counted each time it is reached (what is shared counts as often as it is met; a slice's spare places count too). A statement '..UptoSaid' is the law's where the arguments, and the package variables that the reading takes, are together of bulk at most 1048576: NARROWER than '..Said'. Prove '..Said' where nothing that the law and all that it calls make is longer than what came in: it says more and counts as full. Else prove '..UptoSaid'. A law counts once. -/
mutual
def uptoBulk {H : Type} : DataW H → Nat
  | .lit (.string bytes) => bytes.length + 1
  | .lit _ => 1
  | .nil => 1
  | .ptr d => uptoBulk d + 1
  | .slice elems spare => uptoBulkAll elems + uptoBulkAll spare + 1
  | .agg parts => uptoBulkAll parts + 1
  | .iface _ d => uptoBulk d + 1
  | .map entries => uptoBulkEntries entries + 1
  | .held _ => 1
def uptoBulkAll {H : Type} : List (DataW H) → Nat
  | [] => 0
  | d :: r => uptoBulk d + uptoBulkAll r
def uptoBulkEntries {H : Type} : List (Lit × DataW H) → Nat
  | [] => 0
  | x :: r => uptoBulkEntry x + uptoBulkEntries r
def uptoBulkEntry {H : Type} : Lit × DataW H → Nat
  | (.string bytes, d) => bytes.length + uptoBulk d + 1
  | (_, d) => uptoBulk d + 1
 end
def uptoSmall : (H : Type) → List (DataW H) → Bool := fun _ ds => decide (uptoBulkAll ds ≤ 1048576)
def OpenSpec.upto (s : _root_.Go.ChangeSpec) : _root_.Go.OpenSpec := { _root_.Go.OpenSpec.ofChange s with cond := some uptoSmall }

/-- 'laws.FnGroupSums', WHERE WHAT IT READS IS OF BULK AT MOST 1048576: true; the input reads as it did. -/
def fnGroupSumsUptoRow : OpenClaim := { program := "ytnfnaniemocleaagreat", sum := "4ae2c1e504f26f0b2cd82222821a58d1fd8a1bc527a382b4784bfcc539136937", func := "loop.example/g01076/laws.FnGroupSums", spec := "fnGroupSums", unfollowed := true, recurses := true, apart := false, narrowed := true }
def FnGroupSumsUptoSaid : Prop := fnGroupSumsUptoRow.holds Tryz.pinned (OpenSpec.upto fnGroupSumsSpec)

/-- 'laws.FnLazardBack', WHERE WHAT IT READS IS OF BULK AT MOST 1048576: true; the input reads as it did. -/
def fnLazardBackUptoRow : OpenClaim := { program := "ytnfnaniemocleaagreat", sum := "4ae2c1e504f26f0b2cd82222821a58d1fd8a1bc527a382b4784bfcc539136937", func := "loop.example/g01076/laws.FnLazardBack", spec := "fnLazardBack", unfollowed := true, recurses := true, apart := false, narrowed := true }
def FnLazardBackUptoSaid : Prop := fnLazardBackUptoRow.holds Tryz.pinned (OpenSpec.upto fnLazardBackSpec)

/-- 'laws.FnLieMaps', WHERE WHAT IT READS IS OF BULK AT MOST 1048576: true; the input reads as it did. -/
def fnLieMapsUptoRow : OpenClaim := { program := "ytnfnaniemocleaagreat", sum := "4ae2c1e504f26f0b2cd82222821a58d1fd8a1bc527a382b4784bfcc539136937", func := "loop.example/g01076/laws.FnLieMaps", spec := "fnLieMaps", unfollowed := true, recurses := true, apart := false, narrowed := true }
def FnLieMapsUptoSaid : Prop := fnLieMapsUptoRow.holds Tryz.pinned (OpenSpec.upto fnLieMapsSpec)

end Rows
end Go.Proofs.YtnfnaniemocleaaGreat
