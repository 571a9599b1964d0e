/-
  DERIVED. GIVEN WITH THE SEED: THE CARDS: each row of YtinkdjeanjhkbaaDoorRows.lean that lists a variable, with what it lists TIED to the program's text (the seventh form; the later family's looks); each row that meets fmt, with fmt's text TOLD by the authors' own Lean function (tested against real Go, not proved from fmt's source: count such statements apart). THE CARD IS WHAT COUNTS. Prove the row's statement (the work); the ties are given (YtinkdjeanjhkbaaDoorTie.lean); close each card by the builder's one call (the guide's Derived/Test/ToyasCard.lean, 'card_holds'). Laid BY PROGRAM, IN A SANDBOX (cutbox-door.mjs). By AI agents, Wed Nov 11 2026. No macro, syntax, notation, axiom, sorry.
-/
import Derived.Test.YtinkdjeanjhkbaaDoorRows
import GoSem.ClaimSeven
namespace Go.Proofs.YtinkdjeanjhkbaaDoor
namespace Rows

/-- THE TIED CARD OF 'skerrylaw26.ImageKeeps'. -/
def imageKeepsCard : Claim7 := { stood := { row := imageKeepsRow, standIns := [], harness := (true, "3fcdf6765c694240cfd3623fa7a66e1111cc58d24650269fde496e8691cf75fd"), looks := true }, kinds := [], alts := [], laidByText := true, laidKinds := [.data, .data, .data, .sentinel, .sentinel], laidTests := true, laidLooks := .later }
def ImageKeepsCardSaid : Prop := Claim7.holds Tryd.pinned (.plain (OpenSpec.ofChange imageKeepsSpec)) imageKeepsCard

/-- THE TIED CARD OF 'skerrylaw26.ImageAny'. -/
def imageAnyCard : Claim7 := { stood := { row := imageAnyRow, standIns := [], harness := (true, "3fcdf6765c694240cfd3623fa7a66e1111cc58d24650269fde496e8691cf75fd"), looks := true }, kinds := [], alts := [], laidByText := true, laidKinds := [.data, .data, .data, .sentinel, .sentinel], laidTests := true, laidLooks := .later }
def ImageAnyCardSaid : Prop := Claim7.holds Tryd.pinned (.plain (OpenSpec.ofChange imageAnySpec)) imageAnyCard

/-- THE TIED CARD OF 'skerrylaw26.ImageFormats'. -/
def imageFormatsCard : Claim7 := { stood := { row := imageFormatsRow, standIns := [], harness := (true, "3fcdf6765c694240cfd3623fa7a66e1111cc58d24650269fde496e8691cf75fd"), looks := true }, kinds := [], alts := [], laidByText := true, laidKinds := [.data, .data, .data, .sentinel, .sentinel], laidTests := true, laidLooks := .later }
def ImageFormatsCardSaid : Prop := Claim7.holds Tryd.pinned (.plain (OpenSpec.ofChange imageFormatsSpec)) imageFormatsCard

/-- THE TIED CARD OF 'skerrylaw26.ImageHurt'. -/
def imageHurtCard : Claim7 := { stood := { row := imageHurtRow, standIns := [], harness := (true, "3fcdf6765c694240cfd3623fa7a66e1111cc58d24650269fde496e8691cf75fd"), looks := true }, kinds := [], alts := [], laidByText := true, laidKinds := [.data, .data, .data, .sentinel, .sentinel], laidTests := true, laidLooks := .later }
def ImageHurtCardSaid : Prop := Claim7.holds Tryd.pinned (.plain (OpenSpec.ofChange imageHurtSpec)) imageHurtCard

/-- THE SECOND FORM's CARD OF 'skerrylaw26.ImageKeeps'. -/
def imageKeepsUptoCard : Claim7 := { stood := { row := imageKeepsUptoRow, standIns := [], harness := (true, "3fcdf6765c694240cfd3623fa7a66e1111cc58d24650269fde496e8691cf75fd"), looks := true }, kinds := [], alts := [], laidByText := true, laidKinds := [.data, .data, .data, .sentinel, .sentinel], laidTests := true, laidLooks := .later }
def ImageKeepsUptoCardSaid : Prop := Claim7.holds Tryd.pinned (.plain (OpenSpec.upto imageKeepsSpec)) imageKeepsUptoCard

/-- THE SECOND FORM's CARD OF 'skerrylaw26.ImageAny'. -/
def imageAnyUptoCard : Claim7 := { stood := { row := imageAnyUptoRow, standIns := [], harness := (true, "3fcdf6765c694240cfd3623fa7a66e1111cc58d24650269fde496e8691cf75fd"), looks := true }, kinds := [], alts := [], laidByText := true, laidKinds := [.data, .data, .data, .sentinel, .sentinel], laidTests := true, laidLooks := .later }
def ImageAnyUptoCardSaid : Prop := Claim7.holds Tryd.pinned (.plain (OpenSpec.upto imageAnySpec)) imageAnyUptoCard

/-- THE SECOND FORM's CARD OF 'skerrylaw26.ImageFormats'. -/
def imageFormatsUptoCard : Claim7 := { stood := { row := imageFormatsUptoRow, standIns := [], harness := (true, "3fcdf6765c694240cfd3623fa7a66e1111cc58d24650269fde496e8691cf75fd"), looks := true }, kinds := [], alts := [], laidByText := true, laidKinds := [.data, .data, .data, .sentinel, .sentinel], laidTests := true, laidLooks := .later }
def ImageFormatsUptoCardSaid : Prop := Claim7.holds Tryd.pinned (.plain (OpenSpec.upto imageFormatsSpec)) imageFormatsUptoCard

/-- THE SECOND FORM's CARD OF 'skerrylaw26.ImageHurt'. -/
def imageHurtUptoCard : Claim7 := { stood := { row := imageHurtUptoRow, standIns := [], harness := (true, "3fcdf6765c694240cfd3623fa7a66e1111cc58d24650269fde496e8691cf75fd"), looks := true }, kinds := [], alts := [], laidByText := true, laidKinds := [.data, .data, .data, .sentinel, .sentinel], laidTests := true, laidLooks := .later }
def ImageHurtUptoCardSaid : Prop := Claim7.holds Tryd.pinned (.plain (OpenSpec.upto imageHurtSpec)) imageHurtUptoCard
end Rows
end Go.Proofs.YtinkdjeanjhkbaaDoor
