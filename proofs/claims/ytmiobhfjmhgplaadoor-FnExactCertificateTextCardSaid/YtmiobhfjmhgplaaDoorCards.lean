/-
  DERIVED. GIVEN WITH THE SEED: THE CARDS: each row of YtmiobhfjmhgplaaDoorRows.lean that lists a variable, with what it lists TIED to the program's text (the seventh form; the later family's looks); each row that meets fmt, with fmt's text TOLD by the authors' own Lean function (tested against real Go, not proved from fmt's source: count such statements apart). THE CARD IS WHAT COUNTS. Prove the row's statement (the work); the ties are given (YtmiobhfjmhgplaaDoorTie.lean); close each card by the builder's one call (the guide's Derived/Test/ToyasCard.lean, 'card_holds'). Laid BY PROGRAM, IN A SANDBOX (cutbox-door.mjs). By AI agents, Wed Nov 11 2026. No macro, syntax, notation, axiom, sorry.
-/
import Derived.Test.YtmiobhfjmhgplaaDoorRows
import GoSem.ClaimSeven
namespace Go.Proofs.YtmiobhfjmhgplaaDoor
namespace Rows

/-- THE TIED CARD OF 'laws.FnExactCertificateText'. -/
def fnExactCertificateTextCard : Claim7 := { stood := { row := fnExactCertificateTextRow, standIns := [], harness := (true, "1ef9540aba5ce8f82508fbb88942d11dd6f467f5dfe24bf9128fbbe19fc5c29e"), looks := false }, kinds := [], alts := [], laidByText := true, laidKinds := [.data, .data, .data], laidTests := true, laidLooks := .later }
def FnExactCertificateTextCardSaid : Prop := Claim7.holds Tryd.pinned (.plain (OpenSpec.ofChange fnExactCertificateTextSpec)) fnExactCertificateTextCard

/-- THE SECOND FORM's CARD OF 'laws.FnExactCertificateText'. -/
def fnExactCertificateTextUptoCard : Claim7 := { stood := { row := fnExactCertificateTextUptoRow, standIns := [], harness := (true, "1ef9540aba5ce8f82508fbb88942d11dd6f467f5dfe24bf9128fbbe19fc5c29e"), looks := false }, kinds := [], alts := [], laidByText := true, laidKinds := [.data, .data, .data], laidTests := true, laidLooks := .later }
def FnExactCertificateTextUptoCardSaid : Prop := Claim7.holds Tryd.pinned (.plain (OpenSpec.upto fnExactCertificateTextSpec)) fnExactCertificateTextUptoCard
end Rows
end Go.Proofs.YtmiobhfjmhgplaaDoor
