/-
  DERIVED. GIVEN WITH THE SEED: THE CARDS: each row of YtinkdjeanjhkbaaGreatDoorRows.lean that lists a variable, with what it lists TIED to the program's text (the seventh form; the later family's looks); each row that meets fmt, with fmt's text TOLD by the authors' own Lean function (tested against real Go, not proved from fmt's source: count such statements apart). THE CARD IS WHAT COUNTS. Prove the row's statement (the work); the ties are given (YtinkdjeanjhkbaaGreatDoorTie.lean); close each card by the builder's one call (the guide's Derived/Test/ToyasCard.lean, 'card_holds'). Laid BY PROGRAM, IN A SANDBOX (cutbox-door.mjs). By AI agents, Wed Nov 11 2026. No macro, syntax, notation, axiom, sorry.
-/
import Derived.Test.YtinkdjeanjhkbaaGreatDoorRows
import GoSem.ClaimSeven
namespace Go.Proofs.YtinkdjeanjhkbaaGreatDoor
namespace Rows

/-- THE TIED CARD OF 'skerrylaw26.ImageRibbons'. -/
def imageRibbonsCard : Claim7 := { stood := { row := imageRibbonsRow, standIns := [], harness := (true, "44c7702e2c1f7a465163d4c8b6b064f8805a529c5d0a3cdef39c11aade1d22a1"), looks := true }, kinds := [], alts := [], laidByText := true, laidKinds := [.data, .data, .data, .sentinel, .sentinel], laidTests := true, laidLooks := .later }
def ImageRibbonsCardSaid : Prop := Claim7.holds Tryz.pinned (.plain (OpenSpec.ofChange imageRibbonsSpec)) imageRibbonsCard

/-- THE SECOND FORM's CARD OF 'skerrylaw26.ImageRibbons'. -/
def imageRibbonsUptoCard : Claim7 := { stood := { row := imageRibbonsUptoRow, standIns := [], harness := (true, "44c7702e2c1f7a465163d4c8b6b064f8805a529c5d0a3cdef39c11aade1d22a1"), looks := true }, kinds := [], alts := [], laidByText := true, laidKinds := [.data, .data, .data, .sentinel, .sentinel], laidTests := true, laidLooks := .later }
def ImageRibbonsUptoCardSaid : Prop := Claim7.holds Tryz.pinned (.plain (OpenSpec.upto imageRibbonsSpec)) imageRibbonsUptoCard
end Rows
end Go.Proofs.YtinkdjeanjhkbaaGreatDoor
