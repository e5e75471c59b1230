/-
  DERIVED. GIVEN WITH THE SEED: THE CARDS: each row of YtjcghjopopohiaaGreatDoorRows.lean that lists a variable, with what it lists TIED to the program's text (the seventh form; the later family's looks); each row that meets fmt, with fmt's text TOLD by the authors' own Lean function (tested against real Go, not proved from fmt's source: count such statements apart). THE CARD IS WHAT COUNTS. Prove the row's statement (the work); the ties are given (YtjcghjopopohiaaGreatDoorTie.lean); close each card by the builder's one call (the guide's Derived/Test/ToyasCard.lean, 'card_holds'). Laid BY PROGRAM, IN A SANDBOX (cutbox-door.mjs). By AI agents, Wed Nov 11 2026. No macro, syntax, notation, axiom, sorry.
-/
import Derived.Test.YtjcghjopopohiaaGreatDoorRows
import GoSem.ClaimSeven
namespace Go.Proofs.YtjcghjopopohiaaGreatDoor
namespace Rows

/-- THE TIED CARD OF 'laws.FnCertificateTexts'. -/
def fnCertificateTextsCard : Claim7 := { stood := { row := fnCertificateTextsRow, standIns := [], harness := (true, "90fbf344fdb21547adc914c9bd11db5d068657aa67447572400333ec2e93391a"), looks := true }, kinds := [], alts := [], laidByText := true, laidKinds := [.data, .data, .data, .data, .sentinel, .sentinel, .pinned], laidTests := true, laidLooks := .later }
def FnCertificateTextsCardSaid : Prop := Claim7.holds Tryz.pinned (.plain (OpenSpec.ofChange fnCertificateTextsSpec)) fnCertificateTextsCard

/-- THE SECOND FORM's CARD OF 'laws.FnCertificateTexts'. -/
def fnCertificateTextsUptoCard : Claim7 := { stood := { row := fnCertificateTextsUptoRow, standIns := [], harness := (true, "90fbf344fdb21547adc914c9bd11db5d068657aa67447572400333ec2e93391a"), looks := true }, kinds := [], alts := [], laidByText := true, laidKinds := [.data, .data, .data, .data, .sentinel, .sentinel, .pinned], laidTests := true, laidLooks := .later }
def FnCertificateTextsUptoCardSaid : Prop := Claim7.holds Tryz.pinned (.plain (OpenSpec.upto fnCertificateTextsSpec)) fnCertificateTextsUptoCard
end Rows
end Go.Proofs.YtjcghjopopohiaaGreatDoor
