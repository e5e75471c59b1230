/-
  No cell of these rows narrows 'for every input' (looked for: loops, veiled, ifaces, maps, wideKeys, modest, calm, conditions, laid).
  DERIVED. THE GIVEN ROWS OF THIS SEAT. 9 by the template 'for every input the law returns true; each argument reads behind the call as it read before'; 0 by the template 'total and deterministic' (their statements: YtpkibanhkjboeaaTotals.lean).
  GIVEN WITH THE SEED: the statements are not yours to turn. If you find one false, say at which input.
  Laid BY PROGRAM, IN A SANDBOX (cutbox-rows.mjs): the forced cells as the released guide's own fill.sh prints them over the translation c6799a24fd655c9f… (all of the seat's roots in one cut). By AI agents, Wed Nov 11 2026. No macro, syntax, notation, axiom, sorry.
-/
import Derived.Test.YtpkibanhkjboeaaChecked
import GoSem.Claim
import GoSem.ClaimJoined
import GoSem.ClaimMapViews
import Derived.JoinedTies
import Derived.KernelRfl
namespace Go.Proofs.Ytpkibanhkjboeaa
/- THE CELL 'sum', in the pinned program and in every row, IS THE sha256 OF THE DUMP (.gsa) THAT YtpkibanhkjboeaaProg.lean LOADS. Nothing in Lean hashes anything: it is a label: what it is worth is what the hold of that sum in a sandbox is worth. -/
noncomputable def Try.pinned : Pinned := { name := "ytpkibanhkjboeaa", sum := "c6799a24fd655c9f2a8b6737aec4818545b55af4595c87ca2bac7b40038e9b9b", checked := Try.checked }
namespace Rows
def none {H : Type} : Left H := { results := [], args := [] }

/-- 'laws.FnExactIsModule': WHATEVER THE INPUT: true; the input reads as it did. -/
def fnExactIsModuleSpec : ChangeSpec := { name := "fnExactIsModule", fn := fun _ => fun
  | [d1, d2] => { results := [.lit (.bool true)], args := [d1, d2] }
  | _ => none }
def fnExactIsModuleRow : OpenClaim := { program := "ytpkibanhkjboeaa", sum := "c6799a24fd655c9f2a8b6737aec4818545b55af4595c87ca2bac7b40038e9b9b", func := "loop.example/g01076/laws.FnExactIsModule", spec := "fnExactIsModule", unfollowed := true, recurses := true, apart := false }
def FnExactIsModuleSaid : Prop := fnExactIsModuleRow.holds Try.pinned (OpenSpec.ofChange fnExactIsModuleSpec)

/-- ITS FALSE NEIGHBOUR: 'it returns false'. Refute it at one input. -/
def fnExactIsModuleWrong : ChangeSpec := { name := "fnExactIsModule", fn := fun _ => fun
  | [d1, d2] => { results := [.lit (.bool false)], args := [d1, d2] }
  | _ => none }
def FnExactIsModuleWrongFalsely : Prop := fnExactIsModuleRow.holds Try.pinned (OpenSpec.ofChange fnExactIsModuleWrong)

/-- 'laws.FnExactActOn': WHATEVER THE INPUT: true; the input reads as it did. -/
def fnExactActOnSpec : ChangeSpec := { name := "fnExactActOn", fn := fun _ => fun
  | [d1, d2, d3, d4] => { results := [.lit (.bool true)], args := [d1, d2, d3, d4] }
  | _ => none }
def fnExactActOnRow : OpenClaim := { program := "ytpkibanhkjboeaa", sum := "c6799a24fd655c9f2a8b6737aec4818545b55af4595c87ca2bac7b40038e9b9b", func := "loop.example/g01076/laws.FnExactActOn", spec := "fnExactActOn", unfollowed := true, recurses := true, apart := false }
def FnExactActOnSaid : Prop := fnExactActOnRow.holds Try.pinned (OpenSpec.ofChange fnExactActOnSpec)

/-- ITS FALSE NEIGHBOUR: 'it returns false'. Refute it at one input. -/
def fnExactActOnWrong : ChangeSpec := { name := "fnExactActOn", fn := fun _ => fun
  | [d1, d2, d3, d4] => { results := [.lit (.bool false)], args := [d1, d2, d3, d4] }
  | _ => none }
def FnExactActOnWrongFalsely : Prop := fnExactActOnRow.holds Try.pinned (OpenSpec.ofChange fnExactActOnWrong)

/-- 'laws.FnExactActionOf': WHATEVER THE INPUT: true; the input reads as it did. -/
def fnExactActionOfSpec : ChangeSpec := { name := "fnExactActionOf", fn := fun _ => fun
  | [d1, d2, d3] => { results := [.lit (.bool true)], args := [d1, d2, d3] }
  | _ => none }
def fnExactActionOfRow : OpenClaim := { program := "ytpkibanhkjboeaa", sum := "c6799a24fd655c9f2a8b6737aec4818545b55af4595c87ca2bac7b40038e9b9b", func := "loop.example/g01076/laws.FnExactActionOf", spec := "fnExactActionOf", unfollowed := true, recurses := true, apart := false }
def FnExactActionOfSaid : Prop := fnExactActionOfRow.holds Try.pinned (OpenSpec.ofChange fnExactActionOfSpec)

/-- ITS FALSE NEIGHBOUR: 'it returns false'. Refute it at one input. -/
def fnExactActionOfWrong : ChangeSpec := { name := "fnExactActionOf", fn := fun _ => fun
  | [d1, d2, d3] => { results := [.lit (.bool false)], args := [d1, d2, d3] }
  | _ => none }
def FnExactActionOfWrongFalsely : Prop := fnExactActionOfRow.holds Try.pinned (OpenSpec.ofChange fnExactActionOfWrong)

/-- 'laws.FnExactIsModuleMap': WHATEVER THE INPUT: true; the input reads as it did. -/
def fnExactIsModuleMapSpec : ChangeSpec := { name := "fnExactIsModuleMap", fn := fun _ => fun
  | [d1, d2, d3, d4] => { results := [.lit (.bool true)], args := [d1, d2, d3, d4] }
  | _ => none }
def fnExactIsModuleMapRow : OpenClaim := { program := "ytpkibanhkjboeaa", sum := "c6799a24fd655c9f2a8b6737aec4818545b55af4595c87ca2bac7b40038e9b9b", func := "loop.example/g01076/laws.FnExactIsModuleMap", spec := "fnExactIsModuleMap", unfollowed := true, recurses := true, apart := false }
def FnExactIsModuleMapSaid : Prop := fnExactIsModuleMapRow.holds Try.pinned (OpenSpec.ofChange fnExactIsModuleMapSpec)

/-- ITS FALSE NEIGHBOUR: 'it returns false'. Refute it at one input. -/
def fnExactIsModuleMapWrong : ChangeSpec := { name := "fnExactIsModuleMap", fn := fun _ => fun
  | [d1, d2, d3, d4] => { results := [.lit (.bool false)], args := [d1, d2, d3, d4] }
  | _ => none }
def FnExactIsModuleMapWrongFalsely : Prop := fnExactIsModuleMapRow.holds Try.pinned (OpenSpec.ofChange fnExactIsModuleMapWrong)

/-- 'laws.FnExactTensorModule': WHATEVER THE INPUT: true; the input reads as it did. -/
def fnExactTensorModuleSpec : ChangeSpec := { name := "fnExactTensorModule", fn := fun _ => fun
  | [d1, d2, d3] => { results := [.lit (.bool true)], args := [d1, d2, d3] }
  | _ => none }
def fnExactTensorModuleRow : OpenClaim := { program := "ytpkibanhkjboeaa", sum := "c6799a24fd655c9f2a8b6737aec4818545b55af4595c87ca2bac7b40038e9b9b", func := "loop.example/g01076/laws.FnExactTensorModule", spec := "fnExactTensorModule", unfollowed := true, recurses := true, apart := false }
def FnExactTensorModuleSaid : Prop := fnExactTensorModuleRow.holds Try.pinned (OpenSpec.ofChange fnExactTensorModuleSpec)

/-- ITS FALSE NEIGHBOUR: 'it returns false'. Refute it at one input. -/
def fnExactTensorModuleWrong : ChangeSpec := { name := "fnExactTensorModule", fn := fun _ => fun
  | [d1, d2, d3] => { results := [.lit (.bool false)], args := [d1, d2, d3] }
  | _ => none }
def FnExactTensorModuleWrongFalsely : Prop := fnExactTensorModuleRow.holds Try.pinned (OpenSpec.ofChange fnExactTensorModuleWrong)

/-- 'laws.FnExactInnerDerivation': WHATEVER THE INPUT: true; the input reads as it did. -/
def fnExactInnerDerivationSpec : ChangeSpec := { name := "fnExactInnerDerivation", fn := fun _ => fun
  | [d1, d2, d3] => { results := [.lit (.bool true)], args := [d1, d2, d3] }
  | _ => none }
def fnExactInnerDerivationRow : OpenClaim := { program := "ytpkibanhkjboeaa", sum := "c6799a24fd655c9f2a8b6737aec4818545b55af4595c87ca2bac7b40038e9b9b", func := "loop.example/g01076/laws.FnExactInnerDerivation", spec := "fnExactInnerDerivation", unfollowed := true, recurses := true, apart := false }
def FnExactInnerDerivationSaid : Prop := fnExactInnerDerivationRow.holds Try.pinned (OpenSpec.ofChange fnExactInnerDerivationSpec)

/-- ITS FALSE NEIGHBOUR: 'it returns false'. Refute it at one input. -/
def fnExactInnerDerivationWrong : ChangeSpec := { name := "fnExactInnerDerivation", fn := fun _ => fun
  | [d1, d2, d3] => { results := [.lit (.bool false)], args := [d1, d2, d3] }
  | _ => none }
def FnExactInnerDerivationWrongFalsely : Prop := fnExactInnerDerivationRow.holds Try.pinned (OpenSpec.ofChange fnExactInnerDerivationWrong)

/-- 'laws.FnExactIsDerivation': WHATEVER THE INPUT: true; the input reads as it did. -/
def fnExactIsDerivationSpec : ChangeSpec := { name := "fnExactIsDerivation", fn := fun _ => fun
  | [d1, d2, d3] => { results := [.lit (.bool true)], args := [d1, d2, d3] }
  | _ => none }
def fnExactIsDerivationRow : OpenClaim := { program := "ytpkibanhkjboeaa", sum := "c6799a24fd655c9f2a8b6737aec4818545b55af4595c87ca2bac7b40038e9b9b", func := "loop.example/g01076/laws.FnExactIsDerivation", spec := "fnExactIsDerivation", unfollowed := true, recurses := true, apart := false }
def FnExactIsDerivationSaid : Prop := fnExactIsDerivationRow.holds Try.pinned (OpenSpec.ofChange fnExactIsDerivationSpec)

/-- ITS FALSE NEIGHBOUR: 'it returns false'. Refute it at one input. -/
def fnExactIsDerivationWrong : ChangeSpec := { name := "fnExactIsDerivation", fn := fun _ => fun
  | [d1, d2, d3] => { results := [.lit (.bool false)], args := [d1, d2, d3] }
  | _ => none }
def FnExactIsDerivationWrongFalsely : Prop := fnExactIsDerivationRow.holds Try.pinned (OpenSpec.ofChange fnExactIsDerivationWrong)

/-- 'laws.FnExactCoboundaryOf': WHATEVER THE INPUT: true; the input reads as it did. -/
def fnExactCoboundaryOfSpec : ChangeSpec := { name := "fnExactCoboundaryOf", fn := fun _ => fun
  | [d1, d2, d3] => { results := [.lit (.bool true)], args := [d1, d2, d3] }
  | _ => none }
def fnExactCoboundaryOfRow : OpenClaim := { program := "ytpkibanhkjboeaa", sum := "c6799a24fd655c9f2a8b6737aec4818545b55af4595c87ca2bac7b40038e9b9b", func := "loop.example/g01076/laws.FnExactCoboundaryOf", spec := "fnExactCoboundaryOf", unfollowed := true, recurses := true, apart := false }
def FnExactCoboundaryOfSaid : Prop := fnExactCoboundaryOfRow.holds Try.pinned (OpenSpec.ofChange fnExactCoboundaryOfSpec)

/-- ITS FALSE NEIGHBOUR: 'it returns false'. Refute it at one input. -/
def fnExactCoboundaryOfWrong : ChangeSpec := { name := "fnExactCoboundaryOf", fn := fun _ => fun
  | [d1, d2, d3] => { results := [.lit (.bool false)], args := [d1, d2, d3] }
  | _ => none }
def FnExactCoboundaryOfWrongFalsely : Prop := fnExactCoboundaryOfRow.holds Try.pinned (OpenSpec.ofChange fnExactCoboundaryOfWrong)

/-- 'laws.FnExactIsCertificate': WHATEVER THE INPUT: true; the input reads as it did. -/
def fnExactIsCertificateSpec : ChangeSpec := { name := "fnExactIsCertificate", fn := fun _ => fun
  | [d] => { results := [.lit (.bool true)], args := [d] }
  | _ => none }
def fnExactIsCertificateRow : OpenClaim := { program := "ytpkibanhkjboeaa", sum := "c6799a24fd655c9f2a8b6737aec4818545b55af4595c87ca2bac7b40038e9b9b", func := "loop.example/g01076/laws.FnExactIsCertificate", spec := "fnExactIsCertificate", apart := false }
def FnExactIsCertificateSaid : Prop := fnExactIsCertificateRow.holds Try.pinned (OpenSpec.ofChange fnExactIsCertificateSpec)

/-- ITS FALSE NEIGHBOUR: 'it returns false'. Refute it at one input. -/
def fnExactIsCertificateWrong : ChangeSpec := { name := "fnExactIsCertificate", fn := fun _ => fun
  | [d] => { results := [.lit (.bool false)], args := [d] }
  | _ => none }
def FnExactIsCertificateWrongFalsely : Prop := fnExactIsCertificateRow.holds Try.pinned (OpenSpec.ofChange fnExactIsCertificateWrong)

/- THE SECOND FORM. 'bulk': how many values and letters a reading holds, each counted each time it is reached (what is shared counts as often as it is met; a slice's spare places count too). A statement '..UptoSaid' is the law's where the arguments, and the package variables that the reading takes, are together of bulk at most 1048576: NARROWER than '..Said'. Prove '..Said' where nothing that the law and all that it calls make is longer than what came in: it says more and counts as full. Else prove '..UptoSaid'. A law counts once. -/
mutual
def uptoBulk {H : Type} : DataW H → Nat
  | .lit (.string bytes) => bytes.length + 1
  | .lit _ => 1
  | .nil => 1
  | .ptr d => uptoBulk d + 1
  | .slice elems spare => uptoBulkAll elems + uptoBulkAll spare + 1
  | .agg parts => uptoBulkAll parts + 1
  | .iface _ d => uptoBulk d + 1
  | .map entries => uptoBulkEntries entries + 1
  | .held _ => 1
def uptoBulkAll {H : Type} : List (DataW H) → Nat
  | [] => 0
  | d :: r => uptoBulk d + uptoBulkAll r
def uptoBulkEntries {H : Type} : List (Lit × DataW H) → Nat
  | [] => 0
  | x :: r => uptoBulkEntry x + uptoBulkEntries r
def uptoBulkEntry {H : Type} : Lit × DataW H → Nat
  | (.string bytes, d) => bytes.length + uptoBulk d + 1
  | (_, d) => uptoBulk d + 1
 end
def uptoSmall : (H : Type) → List (DataW H) → Bool := fun _ ds => decide (uptoBulkAll ds ≤ 1048576)
def OpenSpec.upto (s : _root_.Go.ChangeSpec) : _root_.Go.OpenSpec := { _root_.Go.OpenSpec.ofChange s with cond := some uptoSmall }

/-- 'laws.FnExactIsModule', WHERE WHAT IT READS IS OF BULK AT MOST 1048576: true; the input reads as it did. -/
def fnExactIsModuleUptoRow : OpenClaim := { program := "ytpkibanhkjboeaa", sum := "c6799a24fd655c9f2a8b6737aec4818545b55af4595c87ca2bac7b40038e9b9b", func := "loop.example/g01076/laws.FnExactIsModule", spec := "fnExactIsModule", unfollowed := true, recurses := true, apart := false, narrowed := true }
def FnExactIsModuleUptoSaid : Prop := fnExactIsModuleUptoRow.holds Try.pinned (OpenSpec.upto fnExactIsModuleSpec)

/-- 'laws.FnExactActOn', WHERE WHAT IT READS IS OF BULK AT MOST 1048576: true; the input reads as it did. -/
def fnExactActOnUptoRow : OpenClaim := { program := "ytpkibanhkjboeaa", sum := "c6799a24fd655c9f2a8b6737aec4818545b55af4595c87ca2bac7b40038e9b9b", func := "loop.example/g01076/laws.FnExactActOn", spec := "fnExactActOn", unfollowed := true, recurses := true, apart := false, narrowed := true }
def FnExactActOnUptoSaid : Prop := fnExactActOnUptoRow.holds Try.pinned (OpenSpec.upto fnExactActOnSpec)

/-- 'laws.FnExactActionOf', WHERE WHAT IT READS IS OF BULK AT MOST 1048576: true; the input reads as it did. -/
def fnExactActionOfUptoRow : OpenClaim := { program := "ytpkibanhkjboeaa", sum := "c6799a24fd655c9f2a8b6737aec4818545b55af4595c87ca2bac7b40038e9b9b", func := "loop.example/g01076/laws.FnExactActionOf", spec := "fnExactActionOf", unfollowed := true, recurses := true, apart := false, narrowed := true }
def FnExactActionOfUptoSaid : Prop := fnExactActionOfUptoRow.holds Try.pinned (OpenSpec.upto fnExactActionOfSpec)

/-- 'laws.FnExactIsModuleMap', WHERE WHAT IT READS IS OF BULK AT MOST 1048576: true; the input reads as it did. -/
def fnExactIsModuleMapUptoRow : OpenClaim := { program := "ytpkibanhkjboeaa", sum := "c6799a24fd655c9f2a8b6737aec4818545b55af4595c87ca2bac7b40038e9b9b", func := "loop.example/g01076/laws.FnExactIsModuleMap", spec := "fnExactIsModuleMap", unfollowed := true, recurses := true, apart := false, narrowed := true }
def FnExactIsModuleMapUptoSaid : Prop := fnExactIsModuleMapUptoRow.holds Try.pinned (OpenSpec.upto fnExactIsModuleMapSpec)

/-- 'laws.FnExactTensorModule', WHERE WHAT IT READS IS OF BULK AT MOST 1048576: true; the input reads as it did. -/
def fnExactTensorModuleUptoRow : OpenClaim := { program := "ytpkibanhkjboeaa", sum := "c6799a24fd655c9f2a8b6737aec4818545b55af4595c87ca2bac7b40038e9b9b", func := "loop.example/g01076/laws.FnExactTensorModule", spec := "fnExactTensorModule", unfollowed := true, recurses := true, apart := false, narrowed := true }
def FnExactTensorModuleUptoSaid : Prop := fnExactTensorModuleUptoRow.holds Try.pinned (OpenSpec.upto fnExactTensorModuleSpec)

/-- 'laws.FnExactInnerDerivation', WHERE WHAT IT READS IS OF BULK AT MOST 1048576: true; the input reads as it did. -/
def fnExactInnerDerivationUptoRow : OpenClaim := { program := "ytpkibanhkjboeaa", sum := "c6799a24fd655c9f2a8b6737aec4818545b55af4595c87ca2bac7b40038e9b9b", func := "loop.example/g01076/laws.FnExactInnerDerivation", spec := "fnExactInnerDerivation", unfollowed := true, recurses := true, apart := false, narrowed := true }
def FnExactInnerDerivationUptoSaid : Prop := fnExactInnerDerivationUptoRow.holds Try.pinned (OpenSpec.upto fnExactInnerDerivationSpec)

/-- 'laws.FnExactIsDerivation', WHERE WHAT IT READS IS OF BULK AT MOST 1048576: true; the input reads as it did. -/
def fnExactIsDerivationUptoRow : OpenClaim := { program := "ytpkibanhkjboeaa", sum := "c6799a24fd655c9f2a8b6737aec4818545b55af4595c87ca2bac7b40038e9b9b", func := "loop.example/g01076/laws.FnExactIsDerivation", spec := "fnExactIsDerivation", unfollowed := true, recurses := true, apart := false, narrowed := true }
def FnExactIsDerivationUptoSaid : Prop := fnExactIsDerivationUptoRow.holds Try.pinned (OpenSpec.upto fnExactIsDerivationSpec)

/-- 'laws.FnExactCoboundaryOf', WHERE WHAT IT READS IS OF BULK AT MOST 1048576: true; the input reads as it did. -/
def fnExactCoboundaryOfUptoRow : OpenClaim := { program := "ytpkibanhkjboeaa", sum := "c6799a24fd655c9f2a8b6737aec4818545b55af4595c87ca2bac7b40038e9b9b", func := "loop.example/g01076/laws.FnExactCoboundaryOf", spec := "fnExactCoboundaryOf", unfollowed := true, recurses := true, apart := false, narrowed := true }
def FnExactCoboundaryOfUptoSaid : Prop := fnExactCoboundaryOfUptoRow.holds Try.pinned (OpenSpec.upto fnExactCoboundaryOfSpec)

/-- 'laws.FnExactIsCertificate', WHERE WHAT IT READS IS OF BULK AT MOST 1048576: true; the input reads as it did. -/
def fnExactIsCertificateUptoRow : OpenClaim := { program := "ytpkibanhkjboeaa", sum := "c6799a24fd655c9f2a8b6737aec4818545b55af4595c87ca2bac7b40038e9b9b", func := "loop.example/g01076/laws.FnExactIsCertificate", spec := "fnExactIsCertificate", apart := false, narrowed := true }
def FnExactIsCertificateUptoSaid : Prop := fnExactIsCertificateUptoRow.holds Try.pinned (OpenSpec.upto fnExactIsCertificateSpec)

end Rows
end Go.Proofs.Ytpkibanhkjboeaa
