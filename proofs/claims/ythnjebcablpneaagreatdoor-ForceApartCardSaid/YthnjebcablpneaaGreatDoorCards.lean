/-
  DERIVED. GIVEN WITH THE SEED: THE CARDS: each row of YthnjebcablpneaaGreatDoorRows.lean that lists a variable, with what it lists TIED to the program's text (the seventh form; the later family's looks); each row that meets fmt, with fmt's text TOLD by the authors' own Lean function (tested against real Go, not proved from fmt's source: count such statements apart). THE CARD IS WHAT COUNTS. Prove the row's statement (the work); the ties are given (YthnjebcablpneaaGreatDoorTie.lean); close each card by the builder's one call (the guide's Derived/Test/ToyasCard.lean, 'card_holds'). Laid BY PROGRAM, IN A SANDBOX (cutbox-door.mjs). By AI agents, Wed Nov 11 2026. No macro, syntax, notation, axiom, sorry.
-/
import Derived.Test.YthnjebcablpneaaGreatDoorRows
import GoSem.ClaimSeven
namespace Go.Proofs.YthnjebcablpneaaGreatDoor
namespace Rows

/-- THE TIED CARD OF 'baizelaw33.ForceApart'. -/
def forceApartCard : Claim7 := { stood := { row := forceApartRow, standIns := [], harness := (true, "35f4b918fe50dbe397d8f5176087d3149db6811f174fa02eced5e20132cfdb5c"), looks := true }, kinds := [], alts := [], laidByText := true, laidKinds := [.data, .data, .data, .listed, .data, .data, .data, .data, .data, .data], laidTests := true, laidLooks := .later }
def ForceApartCardSaid : Prop := Claim7.holds Tryz.pinned (.plain (OpenSpec.ofChange forceApartSpec)) forceApartCard

/-- THE TIED CARD OF 'baizelaw33.ForceNewest'. -/
def forceNewestCard : Claim7 := { stood := { row := forceNewestRow, standIns := [], harness := (true, "35f4b918fe50dbe397d8f5176087d3149db6811f174fa02eced5e20132cfdb5c"), looks := true }, kinds := [], alts := [], laidByText := true, laidKinds := [.data, .data, .data, .listed, .data, .data, .data, .data, .data, .data], laidTests := true, laidLooks := .later }
def ForceNewestCardSaid : Prop := Claim7.holds Tryz.pinned (.plain (OpenSpec.ofChange forceNewestSpec)) forceNewestCard

/-- THE TIED CARD OF 'baizelaw33.ForceBounds'. -/
def forceBoundsCard : Claim7 := { stood := { row := forceBoundsRow, standIns := [], harness := (true, "35f4b918fe50dbe397d8f5176087d3149db6811f174fa02eced5e20132cfdb5c"), looks := true }, kinds := [], alts := [], laidByText := true, laidKinds := [.data, .data, .data, .listed, .data, .data, .data, .data, .data, .data], laidTests := true, laidLooks := .later }
def ForceBoundsCardSaid : Prop := Claim7.holds Tryz.pinned (.plain (OpenSpec.ofChange forceBoundsSpec)) forceBoundsCard

/-- THE TIED CARD OF 'baizelaw17.GameNil'. -/
def gameNilCard : Claim7 := { stood := { row := gameNilRow, standIns := [], harness := (true, "35f4b918fe50dbe397d8f5176087d3149db6811f174fa02eced5e20132cfdb5c"), looks := true }, kinds := [], alts := [], laidByText := true, laidKinds := [.data, .data, .data, .listed, .data, .data, .data, .data, .data, .data], laidTests := true, laidLooks := .later }
def GameNilCardSaid : Prop := Claim7.holds Tryz.pinned (.plain (OpenSpec.ofChange gameNilSpec)) gameNilCard

/-- THE SECOND FORM's CARD OF 'baizelaw33.ForceApart'. -/
def forceApartUptoCard : Claim7 := { stood := { row := forceApartUptoRow, standIns := [], harness := (true, "35f4b918fe50dbe397d8f5176087d3149db6811f174fa02eced5e20132cfdb5c"), looks := true }, kinds := [], alts := [], laidByText := true, laidKinds := [.data, .data, .data, .listed, .data, .data, .data, .data, .data, .data], laidTests := true, laidLooks := .later }
def ForceApartUptoCardSaid : Prop := Claim7.holds Tryz.pinned (.plain (OpenSpec.upto forceApartSpec)) forceApartUptoCard

/-- THE SECOND FORM's CARD OF 'baizelaw33.ForceNewest'. -/
def forceNewestUptoCard : Claim7 := { stood := { row := forceNewestUptoRow, standIns := [], harness := (true, "35f4b918fe50dbe397d8f5176087d3149db6811f174fa02eced5e20132cfdb5c"), looks := true }, kinds := [], alts := [], laidByText := true, laidKinds := [.data, .data, .data, .listed, .data, .data, .data, .data, .data, .data], laidTests := true, laidLooks := .later }
def ForceNewestUptoCardSaid : Prop := Claim7.holds Tryz.pinned (.plain (OpenSpec.upto forceNewestSpec)) forceNewestUptoCard

/-- THE SECOND FORM's CARD OF 'baizelaw33.ForceBounds'. -/
def forceBoundsUptoCard : Claim7 := { stood := { row := forceBoundsUptoRow, standIns := [], harness := (true, "35f4b918fe50dbe397d8f5176087d3149db6811f174fa02eced5e20132cfdb5c"), looks := true }, kinds := [], alts := [], laidByText := true, laidKinds := [.data, .data, .data, .listed, .data, .data, .data, .data, .data, .data], laidTests := true, laidLooks := .later }
def ForceBoundsUptoCardSaid : Prop := Claim7.holds Tryz.pinned (.plain (OpenSpec.upto forceBoundsSpec)) forceBoundsUptoCard

/-- THE SECOND FORM's CARD OF 'baizelaw17.GameNil'. -/
def gameNilUptoCard : Claim7 := { stood := { row := gameNilUptoRow, standIns := [], harness := (true, "35f4b918fe50dbe397d8f5176087d3149db6811f174fa02eced5e20132cfdb5c"), looks := true }, kinds := [], alts := [], laidByText := true, laidKinds := [.data, .data, .data, .listed, .data, .data, .data, .data, .data, .data], laidTests := true, laidLooks := .later }
def GameNilUptoCardSaid : Prop := Claim7.holds Tryz.pinned (.plain (OpenSpec.upto gameNilSpec)) gameNilUptoCard
end Rows
end Go.Proofs.YthnjebcablpneaaGreatDoor
