/-
  DERIVED. GIVEN WITH THE SEED: THE CARDS: each row of YtmmfakdncjeoeacDoorRows.lean that lists a variable, with what it lists TIED to the program's text (the seventh form; the later family's looks); each row that meets fmt, with fmt's text TOLD by the authors' own Lean function (tested against real Go, not proved from fmt's source: count such statements apart). THE CARD IS WHAT COUNTS. Prove the row's statement (the work); the ties are given (YtmmfakdncjeoeacDoorTie.lean); close each card by the builder's one call (the guide's Derived/Test/ToyasCard.lean, 'card_holds'). Laid BY PROGRAM, IN A SANDBOX (cutbox-door.mjs). By AI agents, Wed Nov 11 2026. No macro, syntax, notation, axiom, sorry.
-/
import Derived.Test.YtmmfakdncjeoeacDoorRows
import GoSem.ClaimSeven
namespace Go.Proofs.YtmmfakdncjeoeacDoor
namespace Rows

/-- THE TIED CARD OF 'tachographlaw10.SigtextPlaces'. -/
def sigtextPlacesCard : Claim7 := { stood := { row := sigtextPlacesRow, standIns := [], harness := (true, "a3c37ff65a8e4b7eac2b48d74c5e58b79f03ec7e08a76ccd835d742a53cee1ea"), looks := false }, kinds := [], alts := [], laidByText := true, laidKinds := [.data, .mapped, .pinned], laidTests := true, laidLooks := .later }
def SigtextPlacesCardSaid : Prop := Claim7.holds Tryd.pinned (.plain (OpenSpec.ofChange sigtextPlacesSpec)) sigtextPlacesCard

/-- THE TIED CARD OF 'tachographlaw10.SigtextParses'. -/
def sigtextParsesCard : Claim7 := { stood := { row := sigtextParsesRow, standIns := [], harness := (true, "a3c37ff65a8e4b7eac2b48d74c5e58b79f03ec7e08a76ccd835d742a53cee1ea"), looks := false }, kinds := [], alts := [], laidByText := true, laidKinds := [.data, .mapped, .pinned], laidTests := true, laidLooks := .later }
def SigtextParsesCardSaid : Prop := Claim7.holds Tryd.pinned (.plain (OpenSpec.ofChange sigtextParsesSpec)) sigtextParsesCard

/-- THE TIED CARD OF 'tachographlaw10.SigtextPrints'. -/
def sigtextPrintsCard : Claim7 := { stood := { row := sigtextPrintsRow, standIns := [], harness := (true, "a3c37ff65a8e4b7eac2b48d74c5e58b79f03ec7e08a76ccd835d742a53cee1ea"), looks := false }, kinds := [], alts := [], laidByText := true, laidKinds := [.data, .mapped, .pinned], laidTests := true, laidLooks := .later }
def SigtextPrintsCardSaid : Prop := Claim7.holds Tryd.pinned (.plain (OpenSpec.ofChange sigtextPrintsSpec)) sigtextPrintsCard

/-- THE SECOND FORM's CARD OF 'tachographlaw10.SigtextPlaces'. -/
def sigtextPlacesUptoCard : Claim7 := { stood := { row := sigtextPlacesUptoRow, standIns := [], harness := (true, "a3c37ff65a8e4b7eac2b48d74c5e58b79f03ec7e08a76ccd835d742a53cee1ea"), looks := false }, kinds := [], alts := [], laidByText := true, laidKinds := [.data, .mapped, .pinned], laidTests := true, laidLooks := .later }
def SigtextPlacesUptoCardSaid : Prop := Claim7.holds Tryd.pinned (.plain (OpenSpec.upto sigtextPlacesSpec)) sigtextPlacesUptoCard

/-- THE SECOND FORM's CARD OF 'tachographlaw10.SigtextParses'. -/
def sigtextParsesUptoCard : Claim7 := { stood := { row := sigtextParsesUptoRow, standIns := [], harness := (true, "a3c37ff65a8e4b7eac2b48d74c5e58b79f03ec7e08a76ccd835d742a53cee1ea"), looks := false }, kinds := [], alts := [], laidByText := true, laidKinds := [.data, .mapped, .pinned], laidTests := true, laidLooks := .later }
def SigtextParsesUptoCardSaid : Prop := Claim7.holds Tryd.pinned (.plain (OpenSpec.upto sigtextParsesSpec)) sigtextParsesUptoCard

/-- THE SECOND FORM's CARD OF 'tachographlaw10.SigtextPrints'. -/
def sigtextPrintsUptoCard : Claim7 := { stood := { row := sigtextPrintsUptoRow, standIns := [], harness := (true, "a3c37ff65a8e4b7eac2b48d74c5e58b79f03ec7e08a76ccd835d742a53cee1ea"), looks := false }, kinds := [], alts := [], laidByText := true, laidKinds := [.data, .mapped, .pinned], laidTests := true, laidLooks := .later }
def SigtextPrintsUptoCardSaid : Prop := Claim7.holds Tryd.pinned (.plain (OpenSpec.upto sigtextPrintsSpec)) sigtextPrintsUptoCard
end Rows
end Go.Proofs.YtmmfakdncjeoeacDoor
