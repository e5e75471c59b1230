/-
  DERIVED. GIVEN WITH THE SEED: THE CARDS: each row of YtjlpbpfaihhamaaGreatDoorRows.lean that lists a variable, with what it lists TIED to the program's text (the seventh form; the later family's looks); each row that meets fmt, with fmt's text TOLD by the authors' own Lean function (tested against real Go, not proved from fmt's source: count such statements apart). THE CARD IS WHAT COUNTS. Prove the row's statement (the work); the ties are given (YtjlpbpfaihhamaaGreatDoorTie.lean); close each card by the builder's one call (the guide's Derived/Test/ToyasCard.lean, 'card_holds'). Laid BY PROGRAM, IN A SANDBOX (cutbox-door.mjs). By AI agents, Wed Nov 11 2026. No macro, syntax, notation, axiom, sorry.
-/
import Derived.Test.YtjlpbpfaihhamaaGreatDoorRows
import GoSem.ClaimSeven
namespace Go.Proofs.YtjlpbpfaihhamaaGreatDoor
namespace Rows

/-- THE TIED CARD OF 'laws.FnExactProveDifferent'. -/
def fnExactProveDifferentCard : Claim7 := { stood := { row := fnExactProveDifferentRow, standIns := [], harness := (true, "0a31a0d7d6fe51271b6f34c8c5ce5ff26e754b6bb8f8bd9af030f01f45312cf8"), looks := true }, kinds := [], alts := [], laidByText := true, laidKinds := [.data, .data, .data, .data, .sentinel, .sentinel, .pinned], laidTests := true, laidLooks := .later }
def FnExactProveDifferentCardSaid : Prop := Claim7.holds Tryz.pinned (.plain (OpenSpec.ofChange fnExactProveDifferentSpec)) fnExactProveDifferentCard

/-- THE TIED CARD OF 'laws.FnExactParseCertificate'. -/
def fnExactParseCertificateCard : Claim7 := { stood := { row := fnExactParseCertificateRow, standIns := [], harness := (true, "0a31a0d7d6fe51271b6f34c8c5ce5ff26e754b6bb8f8bd9af030f01f45312cf8"), looks := true }, kinds := [], alts := [], laidByText := true, laidKinds := [.data, .data, .data, .data, .sentinel, .sentinel, .pinned], laidTests := true, laidLooks := .later }
def FnExactParseCertificateCardSaid : Prop := Claim7.holds Tryz.pinned (.plain (OpenSpec.ofChange fnExactParseCertificateSpec)) fnExactParseCertificateCard

/-- THE SECOND FORM's CARD OF 'laws.FnExactProveDifferent'. -/
def fnExactProveDifferentUptoCard : Claim7 := { stood := { row := fnExactProveDifferentUptoRow, standIns := [], harness := (true, "0a31a0d7d6fe51271b6f34c8c5ce5ff26e754b6bb8f8bd9af030f01f45312cf8"), looks := true }, kinds := [], alts := [], laidByText := true, laidKinds := [.data, .data, .data, .data, .sentinel, .sentinel, .pinned], laidTests := true, laidLooks := .later }
def FnExactProveDifferentUptoCardSaid : Prop := Claim7.holds Tryz.pinned (.plain (OpenSpec.upto fnExactProveDifferentSpec)) fnExactProveDifferentUptoCard

/-- THE SECOND FORM's CARD OF 'laws.FnExactParseCertificate'. -/
def fnExactParseCertificateUptoCard : Claim7 := { stood := { row := fnExactParseCertificateUptoRow, standIns := [], harness := (true, "0a31a0d7d6fe51271b6f34c8c5ce5ff26e754b6bb8f8bd9af030f01f45312cf8"), looks := true }, kinds := [], alts := [], laidByText := true, laidKinds := [.data, .data, .data, .data, .sentinel, .sentinel, .pinned], laidTests := true, laidLooks := .later }
def FnExactParseCertificateUptoCardSaid : Prop := Claim7.holds Tryz.pinned (.plain (OpenSpec.upto fnExactParseCertificateSpec)) fnExactParseCertificateUptoCard
end Rows
end Go.Proofs.YtjlpbpfaihhamaaGreatDoor
